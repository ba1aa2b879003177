/- Several texts in one. -/
import Derived.Test.YtnjgjhjilolanaaH29
import Derived.Test.YtnjgjhjilolanaaH30
import Derived.Test.YtnjgjhjilolanaaH11
/- Layer 19: a run goes, as an iterator's contract. -/
namespace Go.Proofs.Ytnjgjhjilolanaa
open Go.RowKit Go.Shelf
set_option linter.unusedVariables false
set_option maxRecDepth 20000
attribute [local go_sem] Oper.semAt_some
attribute [local go_sem] row_alloc row_drew row_drewN row_ext row_setCell row_setRow size_ext setRow_alloc setRow_drew loadOf storeOf piece_lit loadVal_at storeVal_at allOne_lit buildOf buildRes_some
attribute [local go_sem high] cell_alloc frozen_alloc setCell_alloc cell_ext frozen_ext cell_setRow frozen_setRow
attribute [local go_sem ↓] TDeed_ld0 TDeed_st0 TDeed_fd0 TDeed_bd0
attribute [local go_sem] TDeed_size TDeed_one TDeed_piece TDeed_c0 TDeed_c1 TDeed_c2 TDeed_c3 TDeed_c4 TDeed_c5 TDeed_set_kind TDeed_set_key TDeed_set_val TDeed_set_ver TDeed_set_ses TDeed_set_num TDeed_ld TDeed_st TDeed_f_kind TDeed_f_key TDeed_f_val TDeed_f_ver TDeed_f_ses TDeed_f_num TDeed_bd TDeed_fl TDeed_fl_kind TDeed_fl_key TDeed_fl_val TDeed_fl_ver TDeed_fl_ses TDeed_fl_num
attribute [local go_sem high] TDeed_eql TDeed_neq
attribute [local go_sem ↓] index_deps0 load_deps0 store_deps0
attribute [local go_sem] DV_piece DV_size DV_one index_deps load_deps store_deps
attribute [local go_sem high] TDeps_eql TDeps_neq
attribute [local go_sem ↓] TCall_ld0 TCall_st0 TCall_fd0 TCall_bd0
attribute [local go_sem] TCall_size TCall_one TCall_piece TCall_c0 TCall_c1 TCall_c2 TCall_c3 TCall_c4 TCall_c5 TCall_c6 TCall_c7 TCall_c8 TCall_c9 TCall_c10 TCall_c11 TCall_c12 TCall_c13 TCall_p_deed TCall_put_deed TCall_p_deps TCall_put_deps TCall_set_seq TCall_ld TCall_st TCall_f_deed TCall_f_deps TCall_f_seq TCall_bd TCall_fl TCall_fl_deed TCall_fl_deps TCall_fl_seq
attribute [local go_sem high] TCall_eql TCall_neq
attribute [local go_sem ↓] TItem_ld0 TItem_st0 TItem_fd0 TItem_bd0
attribute [local go_sem] TItem_size TItem_one TItem_piece TItem_c0 TItem_c1 TItem_set_rep TItem_set_num TItem_ld TItem_st TItem_f_rep TItem_f_num TItem_bd TItem_fl TItem_fl_rep TItem_fl_num
attribute [local go_sem high] TItem_eql TItem_neq
theorem perm_mid {M X R : List Res} : (M ++ (X ++ R)).Perm (X ++ (M ++ R)) := by
  rw [← List.append_assoc, ← List.append_assoc]
  exact List.perm_append_comm.append_right R
noncomputable def callM (m : RowsMK) (x : Item) : Call := (getMK m x).getD noCall
/-- What a run gives, one by one. -/
noncomputable def goEnc (m : RowsMK) (x : Item) : Array Value := #[.agg (IV x), .agg (CV (callM m x))]
/-- A run behind its going. -/
def goneR (r : Nat) (m : RowsMK) (its : List Item) (q : RowsML) (D O : List Item) : Res := exR fun s : {s : RowsML × List Item × List Item // GoR m its O q O s.1 s.2.1 s.2.2} => runR r m s.1.1 (D ++ s.1.2.2) s.1.2.1
section
variable {w W : World} {F : Nat → Prop} {R : List Res} {r g1 : Nat} {m : RowsMK} {q q1 : RowsML} {its D O O1 l1 : List Item}
theorem Sts.goneShut (h : GoR m its O q O q1 O1 l1) (T : Sts w F W (runR r m q1 (D ++ l1) O1 :: R)) : Sts w F W (goneR r m its q D O :: R) := Sts.close ⟨(q1, O1, l1), h⟩ T
theorem Sts.goneOpen (T : Sts w F W (goneR r m its q D O :: R)) : ∃ q1 O1 l1, GoR m its O q O q1 O1 l1 ∧ Sts w F W (runR r m q1 (D ++ l1) O1 :: R) := by
  obtain ⟨⟨⟨q1, O1, l1⟩, h⟩, T1⟩ := Sts.open T
  exact ⟨q1, O1, l1, h, T1⟩
theorem Sts.goneSame (h : GoR m its O q O q1 O1 l1) (T : Sts w F W (goneR r m its q D O :: R)) : Sts w F W (runR r m q1 (D ++ l1) O1 :: R) := by
  obtain ⟨q2, O2, l2, h2, T1⟩ := T.goneOpen
  obtain ⟨rfl, rfl, rfl⟩ := h.one h2
  exact T1
theorem ord_len (G : GInv m its) {x : Item} {P : List (List Item)} {M : List Item} (h : OrdM m q its x P M) : P.flatten.length ≤ its.length ∧ (∀ p ∈ P, p ≠ []) ∧ (∀ y ∈ P.flatten, (getMK m y).isSome = true) := by
  rcases h with ⟨_, rfl, _⟩ | ⟨⟨a1, a2⟩, h⟩
  · simp
  · obtain ⟨h1, -, h3, -, -, -, -, h8⟩ := ord_all G a1 a2 (.inr ⟨⟨a1, a2⟩, h⟩)
    exact ⟨h8, h1, fun y hy => (h3 y hy).2⟩
theorem flat_len : ∀ P : List (List Item), (∀ p ∈ P, p ≠ []) → P.length ≤ P.flatten.length
  | [], _ => Nat.le_refl _
  | a :: P, h => by
    have h1 := flat_len P fun p hp => h p (by simp [hp])
    have h2 : 0 < a.length := List.length_pos_iff.2 (h a (by simp))
    rw [List.flatten_cons, List.length_append, List.length_cons]
    omega
theorem flat_mem {P : List (List Item)} {p : List Item} (h : p ∈ P) : p.length ≤ P.flatten.length := (List.sublist_flatten_of_mem h).length_le
theorem flat_take {P : List (List Item)} {j : Nat} : (P.take j).flatten.length ≤ P.flatten.length := by
  conv => rhs; rw [← List.take_append_drop j P]
  rw [List.flatten_append, List.length_append]
  omega
theorem flat_snoc {P : List (List Item)} {j : Nat} {p : List Item} (h : P[j]? = some p) : P.take (j + 1) = P.take j ++ [p] ∧ (P.take (j + 1)).flatten = (P.take j).flatten ++ p := by
  obtain ⟨hj, rfl⟩ := List.getElem?_eq_some_iff.1 h
  rw [List.take_succ_eq_append_getElem hj]
  refine ⟨rfl, ?_⟩
  rw [List.flatten_append, List.flatten_singleton]
set_option maxHeartbeats 32000000 in
theorem runGoG (hm : 0 ≤ m.n ∧ m.n ≤ 7) (hq : 0 ≤ q.n ∧ q.n ≤ 7) (G : GInv m its) (hits : its.length ≤ 511) (hO : O.length ≤ 511) (hOI : ∀ y ∈ O, InI y) (hD : D.length ≤ 100000) :
    GivesT Try.prog 57 #[.pointer (some ⟨g1, 0, none⟩)] (goEnc m) [rowR g1 #[.pointer (some ⟨r, 0, none⟩)], runR r m q D O] [rowR g1 #[.pointer (some ⟨r, 0, none⟩)], goneR r m its q D O] (fun xs => ∃ q1 O1, GoR m its O q O q1 O1 xs) := by
  intro l own ownX hY w F W R T
  have HY := Lib.hid hY; clear hY
  have T : Sts w F W (rowR g1 #[.pointer (some ⟨r, 0, none⟩)] :: runR r m q D O :: (own [] ++ R)) := T.perm perm_mid
  obtain ⟨b0, gc0, gd0, vd0, vo0, T1⟩ := T.swap.runOpen
  have r0 := T1.row; have l0 := row_lt r0; have c2 := row_cell r0 2
  have r1 := (T1.ord [6, 0, 1, 2, 3, 4, 5]).row; have l1 := row_lt r1; have c1 := row_cell r1 0
  have HCL := Lib.hid (cloneAny (l := O) (by omega) (T1.ord [5, 0, 1, 2, 3, 4, 6]))
  clear T T1
  refine callsIn_of_wp Try.func57 rfl trivial ?_ rfl
  simp only [Try.ntmps57, List.size_toArray, List.length_cons, List.length_nil, Nat.reduceAdd, Nat.reduceSub, Array.replicate_succ, Array.replicate_zero, List.push_toArray, List.append_toArray, List.nil_append, List.cons_append]
  gi_wp2_with fail
  refine ⟨trivial, ?_⟩
  refine (callsIn_wide.2 HCL.out).mono ?_
  clear HCL r0 l0 c2 r1 l1 c1
  rintro e1 w1 ⟨v1, rfl, T⟩
  obtain ⟨A1, c1, rfl⟩ := vec_shape2 T
  have T2 := (T.ord [2, 3, 4, 5, 6, 1, 7, 0]).runShut
  have T3 := (T2.ord [1, 0, 2]).vecNil 35 2
  have T4 : Sts w F w1 (rowR g1 #[.pointer (some ⟨r, 0, none⟩)] :: runR r m q (D ++ []) O :: vecR 35 2 (.slice none 0 0) ([] : List Item).length (vl IV ([] : List Item)) :: vecR 35 2 (.slice A1 O.length c1) O.length (vl IV O) :: (own [] ++ R)) := by
    rw [List.append_nil]
    have T5 := T3.ord [1, 2, 0, 3]
    exact T5
  obtain ⟨no, hno⟩ : ∃ k, k = O.length := ⟨_, rfl⟩
  have HNO := Lib.hid hno
  have HT := Lib.hid T4
  rw [← hno] at hO ⊢
  clear T T2 T3 T4 hno
  gi_wp2_with fail
  gi_loopw [22, 3] (fun u22 u3 wr => ∃ (k : Nat) (vl' : Value) (qk : RowsML) (Ok lk : List Item), u22 = .int .i64 k ∧ vl' = u3 ∧ k ≤ no ∧ GoR m its (O.take k) q O qk Ok lk ∧ lk.length ≤ k * 511 ∧ Sts w F wr (rowR g1 #[.pointer (some ⟨r, 0, none⟩)] :: runR r m qk (D ++ lk) Ok :: vecR 35 2 vl' lk.length (vl IV lk) :: vecR 35 2 (.slice A1 O.length c1) O.length (vl IV O) :: (own [] ++ R))) (fun u22 _ _ => no - (intOf u22).toNat)
  case atStart => exact ⟨0, _, q, O, [], rfl, rfl, Nat.zero_le _, ⟨rfl, rfl, rfl⟩, by simp, HT.out⟩
  case round =>
    clear HT
    obtain ⟨k, vl', qk, Ok, lk, hrel⟩ := hrel
    obtain ⟨rfl, rfl, hk, hgo, hlk, T⟩ := hrel
    have HGO := Lib.hid hgo
    by_cases hkn : k < no
    · have hk1 : (k : Int) < (no : Int) := by omega
      have hk0 : (0 : Int) ≤ (k : Int) := by omega
      obtain ⟨x, hx⟩ : ∃ x, O[k]? = some x := ⟨O[k]'(by rw [← HNO.out]; exact hkn), List.getElem?_eq_getElem _⟩
      obtain ⟨ga, rfl, hld⟩ := vec_load (P := Try.prog) (e := 35) TItem_size (by omega) TItem_und rfl (by kernel_rfl) (T.ord [3, 0, 1, 2]) rfl hx (by have := HNO.out; omega)
      have HX := Lib.hid hx
      obtain ⟨b, gc, gd, vd, vo, T1⟩ := T.swap.runOpen
      have T2 := T1.new (IV x) 35
      generalize hRR : vecR 35 2 (.slice (some ⟨ga, 0, none⟩) O.length c1) O.length (vl IV O) :: (own [] ++ R) = RR at *
      have HRR := Lib.hid hRR
      have T3 := T2.ord [7, 1, 0, 2, 3, 4, 5, 6]
      have HT := Lib.hid T3
      clear T T1 T2 T3 hx hgo hRR
      gi_wp2_with fail
      generalize hw3 : wr.alloc _ = w3 at *
      generalize wr.heap.size = gx at *
      clear hw3 hld
      have hqk : 0 ≤ qk.n ∧ qk.n ≤ 7 := by rw [HGO.out.done, doneM_n]; exact hq
      have FS : ∀ W' R', Sts w F W' (rowR g1 #[.pointer (some ⟨r, 0, none⟩)] :: rowR r (runC b vd vo) :: rowR gx (IV x) :: R') → (W'.cell? ⟨g1, 0, none⟩ = some (.pointer (some ⟨r, 0, none⟩)) ∧ W'.cell? ⟨r, 0, none⟩ = some (.pointer (some ⟨b, 0, none⟩)) ∧ row? W' gx = some (IV x)) := fun W' R' T => ⟨by rw [row_cell T.row 0]; rfl, by rw [row_cell T.row1 0]; rfl, T.row2⟩
      have HFS := Lib.hid FS
      have HT0 := Lib.hid HT.out.drew
      have S0 := HFS.out _ _ HT0.out
      have HOR := Lib.hid (grOrderT (its := its) (b := b) (gc := gc) (gd := gd) (R := rowR g1 #[.pointer (some ⟨r, 0, none⟩)] :: rowR r (runC b vd vo) :: rowR gx (IV x) :: _) (sortsG hits) (by omega) G hm hqk x (by have T0 := HT0.out.ord [3, 4, 5, 0, 1, 2]; exact T0))
      clear HT FS
      refine wpIn_wide.2 ?_
      refine wp_region_held_drew (S := fun W' => (W'.cell? ⟨g1, 0, none⟩ = some (.pointer (some ⟨r, 0, none⟩)) ∧ W'.cell? ⟨r, 0, none⟩ = some (.pointer (some ⟨b, 0, none⟩)) ∧ row? W' gx = some (IV x))) (by kernel_rfl) S0 (fun hHeld => ?_)
      clear S0
      refine tkH 0 rfl ?_
      simp only [Act.put, List.setIfInBounds_toArray, List.set_cons_zero, List.set_cons_succ]
      refine tkH 1 rfl ?_
      go_frame
      refine tkH 2 rfl ?_
      go_frame
      refine tkH 3 rfl ?_
      go_frame
      refine tkH 4 rfl ?_
      go_frame
      refine wpAnyH_ready (rs := [5]) (by kernel_rfl) (by simp) ?_
      refine AllReadyH.cons (o := _) rfl (fun K hK => ?_) AllReadyH.nil
      go_simp
      refine HOR.out.mono ?_
      clear HOR HT0
      rintro e5 w5 ⟨vp, vm, P, M, rfl, hord, T⟩
      have HORD := Lib.hid hord
      have T : Sts w F w5 (paR vp P :: vecR 35 2 vm M.length (vl IV M) :: rowR b #[.pointer (some ⟨gc, 0, none⟩), .pointer (some ⟨gd, 0, none⟩)] :: rowsIRK gc m :: rowsIRL gd qk :: rowR g1 #[.pointer (some ⟨r, 0, none⟩)] :: rowR r (runC b vd vo) :: rowR gx (IV x) :: vecR 35 2 vd (D ++ lk).length (vl IV (D ++ lk)) :: vecR 35 2 vo Ok.length (vl IV Ok) :: vecR 35 2 vl' lk.length (vl IV lk) :: RR) := T
      have HT := Lib.hid (T.ord [5, 6, 7, 0, 1, 2, 3, 4, 8, 9, 10])
      clear T hord
      refine hK.out _ _ (HFS.out _ _ HT.out) (fun hHeld => ?_)
      clear hK K HFS
      refine tkH 6 rfl ?_
      simp only [Act.put, List.setIfInBounds_toArray, List.set_cons_zero, List.set_cons_succ]
      refine tkH 7 rfl ?_
      go_frame
      refine tkH 8 rfl ?_
      go_frame
      refine tkH 9 rfl ?_
      go_frame
      refine tkH 10 rfl ?_
      go_frame
      refine wpAnyH_done (by kernel_rfl) ?_ _
      try simp only [Exit.then]
      obtain ⟨hPl, hPne, hPc⟩ := ord_len G HORD.out
      have T1 := (HT.out.ord [1, 5, 6, 7, 8, 9, 0, 3, 10, 2, 4]).runShut
      have T2 := (T1.ord [4, 5, 2, 0, 1, 3]).drop.drop
      obtain ⟨pv, Ap, cp, hpv, rfl, T3⟩ := T2.paOpen2
      obtain ⟨np, hnp⟩ : ∃ n, n = pv.length := ⟨_, rfl⟩
      have HNP := Lib.hid hnp; have HPV := Lib.hid hpv; have HPL := Lib.hid hPl; have HPN := Lib.hid hPne; have HPC := Lib.hid hPc
      have hnp2 : np ≤ 511 := by
        have h1 := flat_len P hPne
        rw [hnp, ← List.length_map (f := (·.2)), hpv]
        omega
      have T4 : Sts w F w5 (vecR 30 1 (.slice Ap pv.length cp) pv.length (vl PV pv) :: packR (pv.map ptR) :: runR r m (doneM qk (P.take 0).flatten) (D ++ (lk ++ (P.take 0).flatten)) (finO (P.take 0) qk Ok) :: rowR g1 #[.pointer (some ⟨r, 0, none⟩)] :: vecR 35 2 vl' (lk ++ (P.take 0).flatten).length (vl IV (lk ++ (P.take 0).flatten)) :: RR) := by
        simp only [List.take_zero, List.flatten_nil, List.append_nil]
        exact T3
      have HT2 := Lib.hid T4
      clear HT T1 T2 T3 T4 hpv hPl hPne hPc
      rw [← hnp]
      clear hnp
      gi_wp2_with fail
      gi_loopw [37, 3] (fun u37 u3 wx => ∃ (j : Nat) (vl2 : Value), u37 = .int .i64 j ∧ vl2 = u3 ∧ j ≤ np ∧ Sts w F wx (vecR 30 1 (.slice Ap pv.length cp) pv.length (vl PV pv) :: packR (pv.map ptR) :: runR r m (doneM qk (P.take j).flatten) (D ++ (lk ++ (P.take j).flatten)) (finO (P.take j) qk Ok) :: rowR g1 #[.pointer (some ⟨r, 0, none⟩)] :: vecR 35 2 vl2 (lk ++ (P.take j).flatten).length (vl IV (lk ++ (P.take j).flatten)) :: RR)) (fun u37 _ _ => np - (intOf u37).toNat)
      case atStart => exact ⟨0, _, rfl, rfl, Nat.zero_le _, HT2.out⟩
      case round =>
        clear HT2
        obtain ⟨j, vl2, hrel⟩ := hrel
        obtain ⟨rfl, rfl, hj, T⟩ := hrel
        by_cases hjn : j < np
        · have hj1 : (j : Int) < (np : Int) := by omega
          have hj0 : (0 : Int) ≤ (j : Int) := by omega
          obtain ⟨p, hp⟩ : ∃ p, pv[j]? = some p := ⟨pv[j]'(by rw [← HNP.out]; exact hjn), List.getElem?_eq_getElem _⟩
          obtain ⟨gp, B, dB, rfl, hcell, hpB⟩ := part_at T hp
          have hlt := World.block_lt_of_cell? _ _ hcell
          have hPK : P[j]? = some p.2 := by rw [← HPV.out, List.getElem?_map, hp]; rfl
          have hp2 : p.2 ∈ P := List.mem_of_getElem? hPK
          have hpl : p.2.length ≤ 511 := by have h1 := flat_mem hp2; have h2 := HPL.out; omega
          have hp0 : 0 < p.2.length := List.length_pos_iff.2 (HPN.out _ hp2)
          obtain ⟨hs1, hs2⟩ := flat_snoc hPK
          have T2 := (T.ord [1, 0]).pick hp
          have hq2 : ptR p = vecR 35 2 (.slice B p.2.length dB) p.2.length (vl IV p.2) := by unfold ptR; rw [hpB]
          have HQ2 := Lib.hid hq2; have HP := Lib.hid hp
          rw [hq2] at T2
          obtain ⟨gB, rfl⟩ : ∃ gB, B = some ⟨gB, 0, none⟩ := by
            rcases T2.vec.2 with ⟨h, _⟩ | ⟨g', cap, cur, h, _⟩
            · injection h with e1 e2 e3; omega
            · injection h with e1 e2 e3; exact ⟨g', e1⟩
          obtain ⟨lp, hlp⟩ : ∃ k, k = p.2.length := ⟨_, rfl⟩
          have hft : (P.take j).flatten.length ≤ 511 := by have h1 := flat_take (P := P) (j := j); have h2 := HPL.out; omega
          have hfo : (finO (P.take j) qk Ok).length ≤ 1000000 := by
            have h1 := (finO_sub (P.take j) qk Ok).length_le
            have h2 := HGO.out.sub.length_le
            have := HNO.out
            omega
          have hrow := T2.ord [4, 0, 1, 2, 3]
          have r1 := hrow.row; have l1 := row_lt r1; have c11 := row_cell r1 0
          have T3 := T2.ord [0, 3, 1, 2]
          have HFI := Lib.hid (runFinishT (p := p.2) (D := D ++ (lk ++ (P.take j).flatten)) (O := finO (P.take j) qk Ok) (q := doneM qk (P.take j).flatten) (R := packR ((pv.take j ++ pv.drop (j + 1)).map ptR) :: _) (by rw [doneM_n]; exact hqk) hlp.symm (by omega) (by omega) (by rw [List.length_append, List.length_append]; omega) hfo (by rw [hlp]; exact T3))
          have HS1 := Lib.hid hs1; have HS2 := Lib.hid hs2; have HLP := Lib.hid hlp
          have HFT := Lib.hid hft
          rw [← hlp] at hcell hpl hp0
          clear T T2 T3 hrow hp hpB hPK hp2 hs1 hs2 hlp hft hfo hq2
          gi_wp2_with fail
          refine ⟨trivial, ?_⟩
          refine (callsIn_wide.2 HFI.out).mono ?_
          clear HFI hcell hlt r1 l1 c11
          rintro e6 w6 ⟨rfl, T⟩
          have hdq : doneM (doneM qk (P.take j).flatten) p.2 = doneM qk (P.take (j + 1)).flatten := by rw [HS2.out, doneM_app]
          have hdo : leftO (doneM qk (P.take (j + 1)).flatten) (finO (P.take j) qk Ok) = finO (P.take (j + 1)) qk Ok := by
            rw [HS2.out, HS1.out, finO_snoc, List.flatten_append, List.flatten_singleton]
          rw [hdq, hdo, List.append_assoc, List.append_assoc, ← HS2.out] at T
          clear hdq hdo
          obtain ⟨hlen, hnews, hone⟩ := vec_news (HLP.out.symm) hp0 rfl T
          obtain ⟨nl, hnl⟩ : ∃ n, n = (lk ++ (P.take j).flatten).length := ⟨_, rfl⟩
          have T2 := T.ord [5, 0, 1, 2, 3, 4]
          rw [← hnl] at T2
          obtain ⟨i0, hi, hz0, hz1, hz2⟩ := itm_i
          have TA := Lib.hid T2; have HNW := Lib.hid hnews; have HON := Lib.hid hone; have HLE := Lib.hid hlen
          have hll : nl + lp ≤ 1000000 := by rw [hnl, List.length_append]; have := HFT.out; omega
          have h63 : nl + lp ≤ maxLen := by unfold maxLen; omega
          have hby : (nl + lp) * 16 ≤ 140737488355328 := by omega
          have HNL := Lib.hid hnl
          clear T T2 hnews hone hlen hnl
          gi_wp2_with (gi_at_builtin; refine wpListIn_append_vecG rfl _ _ 30 rfl 35 i0 (.agg (IV noItem)) 2 16 Try.underlying30 hi hz0 hz1 hz2 rfl (by decide) _ _ _ rfl TA.out ⟨gB, 0, none⟩ lp dB (vl IV p.2) rfl HLE.out HNW.out HON.out ?c3 ?c4 ?_)
          case c3 => exact h63
          case c4 => exact hby
          intro v8 w8 T9
          clear TA HNW HON HLE h63 hby hll hi hz0 hz1 hz2
          have happ : vl IV (lk ++ (P.take j).flatten) ++ vl IV p.2 = vl IV (lk ++ (P.take (j + 1)).flatten) := by
            rw [HS2.out, ← List.append_assoc]
            unfold vl; rw [flatV_append _ (lk ++ (P.take j).flatten), Array.toList_append]
          have hlen : nl + lp = (lk ++ (P.take (j + 1)).flatten).length := by rw [HNL.out, HS2.out, HLP.out]; simp only [List.length_append]; omega
          rw [happ, hlen] at T9
          have T10 := T9.ord [1, 2, 3, 4, 5, 0]
          rw [HLP.out] at T10
          rw [← HQ2.out] at T10
          simp only [← List.map_take, ← List.map_drop, ← List.map_append] at T10
          have T11 := (T10.ord [0, 2, 1, 3, 4, 5]).unpick HP.out
          have HT := Lib.hid (T11.ord [2, 0, 1, 3, 4])
          clear T9 T10 T11 happ hlen
          gi_wp2
          go_roundw
          case rel => exact ⟨j + 1, _, by go_num, rfl, by omega, HT.out⟩
          case measure => simp [intOf]; omega
        · have hj1 : ¬ (j : Int) < (np : Int) := by omega
          obtain rfl : j = np := by omega
          have hjP : P.take j = P := List.take_of_length_le (by rw [← HPV.out, List.length_map, ← HNP.out]; exact Nat.le_refl _)
          rw [hjP] at T
          have hsn := HGO.out.snoc HORD.out
          have hok : O.take (k + 1) = O.take k ++ [x] := by
            obtain ⟨hkO, hxk⟩ := List.getElem?_eq_some_iff.1 HX.out
            rw [List.take_succ_eq_append_getElem hkO, hxk]
          rw [← hok] at hsn
          have T2 := (T.ord [0, 1, 3, 2, 4]).drop.drop
          have HT := Lib.hid T2; have HSN := Lib.hid hsn
          clear T T2 hsn hok hjP
          gi_wp2
          go_roundw
          case rel => exact ⟨k + 1, _, _, _, _, by go_num, rfl, by omega, HSN.out, by rw [List.length_append]; have := HPL.out; omega, HT.out⟩
          case measure => simp [intOf]; omega
    · have hk1 : ¬ (k : Int) < (no : Int) := by omega
      obtain rfl : k = no := by omega
      have htO : O.take k = O := List.take_of_length_le (by rw [← HNO.out]; exact Nat.le_refl _)
      have hgo := HGO.out
      rw [htO] at hgo
      clear HGO htO
      have HGO := Lib.hid hgo; clear hgo
      obtain ⟨A2, c2, rfl⟩ := vec_shape2 (T.ord [2, 0, 1])
      obtain ⟨nl, hnl⟩ : ∃ n, n = lk.length := ⟨_, rfl⟩
      have hnl2 : nl ≤ 261121 := by rw [hnl]; omega
      have HNL := Lib.hid hnl
      have T0 : Sts w F wr (rowR g1 #[.pointer (some ⟨r, 0, none⟩)] :: runR r m qk (D ++ lk) Ok :: vecR 35 2 (.slice A2 lk.length c2) lk.length (vl IV lk) :: (own (lk.take 0) ++ R)) := by
        have T5 := (T.ord [3, 0, 1, 2]).drop
        exact T5
      have HT := Lib.hid T0
      rw [← hnl]
      clear T T0 hnl
      gi_wp2_with fail
      gi_loopw [51] (fun u51 wx => ∃ (i : Nat), u51 = .int .i64 i ∧ i ≤ nl ∧ Sts w F wx (rowR g1 #[.pointer (some ⟨r, 0, none⟩)] :: runR r m qk (D ++ lk) Ok :: vecR 35 2 (.slice A2 lk.length c2) lk.length (vl IV lk) :: (own (lk.take i) ++ R))) (fun u51 _ => nl - (intOf u51).toNat)
      case atStart => exact ⟨0, rfl, Nat.zero_le _, HT.out⟩
      case round =>
        clear HT
        obtain ⟨i, rfl, hi, T⟩ := hrel
        by_cases hin : i < nl
        · have hi1 : (i : Int) < (nl : Int) := by omega
          have hi0 : (0 : Int) ≤ (i : Int) := by omega
          obtain ⟨y, hy⟩ : ∃ y, lk[i]? = some y := ⟨lk[i]'(by rw [← HNL.out]; exact hin), List.getElem?_eq_getElem _⟩
          obtain ⟨gl, rfl, hld⟩ := vec_load (P := Try.prog) (e := 35) TItem_size (by omega) TItem_und rfl (by kernel_rfl) (T.ord [2, 0, 1]) rfl hy (by have := HNL.out; omega)
          have hsp : lk.take i ++ y :: lk.drop (i + 1) = lk ∧ lk.take (i + 1) = lk.take i ++ [y] := by
            obtain ⟨hil, rfl⟩ := List.getElem?_eq_some_iff.1 hy
            exact ⟨by rw [List.getElem_cons_drop, List.take_append_drop], List.take_succ_eq_append_getElem hil⟩
          have HSP := Lib.hid hsp
          obtain ⟨b, gc, gd, vd, vo, T1⟩ := T.swap.runOpen
          have T2 := T1.new (IV y) 35
          have HT := Lib.hid (T2.ord [7, 1, 0, 2, 3, 4, 5, 6, 8])
          clear T T1 T2 hy hsp
          gi_wp2_with fail
          generalize hw3 : wr.alloc _ = w3 at *
          generalize wr.heap.size = gy at *
          clear hw3 hld
          have FS : ∀ W' R', Sts w F W' (rowR g1 #[.pointer (some ⟨r, 0, none⟩)] :: rowR r (runC b vd vo) :: rowR gy (IV y) :: R') → (W'.cell? ⟨g1, 0, none⟩ = some (.pointer (some ⟨r, 0, none⟩)) ∧ W'.cell? ⟨r, 0, none⟩ = some (.pointer (some ⟨b, 0, none⟩)) ∧ row? W' gy = some (IV y)) := fun W' R' T => ⟨by rw [row_cell T.row 0]; rfl, by rw [row_cell T.row1 0]; rfl, T.row2⟩
          have HFS := Lib.hid FS
          have HT1 := Lib.hid HT.out.drew
          have S0 := HFS.out _ _ HT1.out
          have HAT := Lib.hid (fun (W' : World) (R' : List Res) (T : Sts w F W' (rowR g1 #[.pointer (some ⟨r, 0, none⟩)] :: rowR r (runC b vd vo) :: rowR gy (IV y) :: rowR b #[.pointer (some ⟨gc, 0, none⟩), .pointer (some ⟨gd, 0, none⟩)] :: rowsIRK gc m :: rowsIRL gd qk :: R')) => (grCallR b gc gd m qk hm y).at (R := rowR g1 #[.pointer (some ⟨r, 0, none⟩)] :: rowR r (runC b vd vo) :: rowR gy (IV y) :: R') (by have T0 := T.ord [3, 4, 5, 0, 1, 2]; exact T0))
          clear HT FS
          have HT := HT1; clear HT1
          obtain ⟨res, hres⟩ : ∃ v, v = (getMK m y).getD noCall := ⟨_, rfl⟩
          obtain ⟨bs, hbs⟩ : ∃ v, v = (getMK m y).isSome := ⟨_, rfl⟩
          rw [← hres, ← hbs] at HAT
          have HRES := Lib.hid (show callM m y = res from hres.symm)
          clear hres hbs
          refine wpIn_wide.2 ?_
          refine wp_region_held_drew (S := fun W' => (W'.cell? ⟨g1, 0, none⟩ = some (.pointer (some ⟨r, 0, none⟩)) ∧ W'.cell? ⟨r, 0, none⟩ = some (.pointer (some ⟨b, 0, none⟩)) ∧ row? W' gy = some (IV y))) (by kernel_rfl) S0 (fun hHeld => ?_)
          clear S0
          refine tkH 0 rfl ?_
          simp only [Act.put, List.setIfInBounds_toArray, List.set_cons_zero, List.set_cons_succ]
          refine tkH 1 rfl ?_
          go_frame
          refine tkH 2 rfl ?_
          go_frame
          refine tkH 3 rfl ?_
          go_frame
          refine tkH 4 rfl ?_
          go_frame
          refine wpAnyH_ready (rs := [5, 9]) (by kernel_rfl) (by simp) ?_
          refine AllReadyH.cons (o := _) rfl (fun K hK => ?_) ?_
          · go_simp
            refine (HAT.out _ _ HT.out).mono ?_
            rintro e w4 ⟨rfl, hb⟩
            have T1 := HT.out.pure hb
            clear hb HT HAT
            refine hK.out _ _ (HFS.out _ _ T1) (fun hHeld => ?_)
            clear hK K
            refine tkH 6 rfl ?_
            simp only [Act.put, List.setIfInBounds_toArray, List.set_cons_zero, List.set_cons_succ]
            refine tkH 7 rfl ?_
            go_frame
            refine tkH 8 rfl ?_
            go_frame
            have T2 := T1.new (CV res) 47
            have T2a := T1.new (CV noCall) 47
            have r2 := T2a.row; have l2 := row_lt r2
            have HT2 := Lib.hid T2; have HT2a := Lib.hid T2a
            clear T1 T2 T2a
            rw [noInst_litK] at r2 l2
            refine wpAnyH_ready (rs := [9]) (by kernel_rfl) (by simp) ?_
            refine AllReadyH.cons (o := _) rfl (fun K hK => ?_) AllReadyH.nil
            go_simp
            refine hK.out _ _ ?_ (fun hHeld => ?_)
            · have := HFS.out _ _ (HT2a.out.ord [1, 2, 3, 0])
              rw [noInst_litK] at this
              exact this
            clear hK K
            refine wpAnyH_ready (rs := [10]) (by kernel_rfl) (by simp) ?_
            refine AllReadyH.cons (o := _) rfl (fun K hK => ?_) AllReadyH.nil
            go_simp
            refine hK.out _ _ ?_ (fun hHeld => ?_)
            · exact HFS.out _ _ (HT2.out.ord [1, 2, 3, 0])
            clear hK K r2 l2 HT2a
            refine tkH 11 rfl ?_
            simp only [Act.put, List.setIfInBounds_toArray, List.set_cons_zero, List.set_cons_succ]
            refine wpAnyH_done (by kernel_rfl) ?_ _
            simp only [Exit.then]
            have HT := HT2; clear HT2 HFS
            generalize hw9 : w4.alloc (.cells (CV res) 47) = w9 at *
            generalize w4.heap.size = g5 at *
            clear hw9
            have r5 := HT.out.row; have l5 := row_lt r5
            have r6 := HT.out.row3; have l6 := row_lt r6
            have T4 := (HT.out.ord [2, 4, 5, 6, 7, 8, 1, 0, 3, 9]).runShut
            have T5 := T4.goneShut HGO.out
            have T6 : Sts w F w9 ([rowR g1 #[.pointer (some ⟨r, 0, none⟩)], goneR r m its q D O, rowR g5 (CV res), rowR gy (IV y), vecR 35 2 (.slice (some ⟨gl, 0, none⟩) lk.length c2) lk.length (vl IV lk)] ++ (own (lk.take i) ++ R)) := by
              have T7 := T5.ord [1, 0, 2, 3, 4]
              exact T7
            have hYY := HY.out (lk.take i) y w F _ (rowR g5 (CV res) :: rowR gy (IV y) :: vecR 35 2 (.slice (some ⟨gl, 0, none⟩) lk.length c2) lk.length (vl IV lk) :: R) ⟨lk.drop (i + 1), _, _, by rw [HSP.out.1]; exact HGO.out⟩ (T6.perm perm_mid)
            obtain ⟨fn, tmps, assign, body, hy, hRR⟩ := hYY
            unfold goEnc at hy
            rw [HRES.out] at hy
            clear T4 T5 T6 HT
            gi_wp2_with fail
            refine hRR.mono ?_
            clear hy hRR r5 l5 r6 l6
            rintro e W3 (⟨rfl, T⟩ | ⟨rfl, T⟩)
            · have T5 : Sts w F W3 (rowR g1 #[.pointer (some ⟨r, 0, none⟩)] :: goneR r m its q D O :: rowR g5 (CV res) :: rowR gy (IV y) :: vecR 35 2 (.slice (some ⟨gl, 0, none⟩) lk.length c2) lk.length (vl IV lk) :: (own (lk.take i ++ [y]) ++ R)) := T.perm (perm_mid (M := [_, _, _, _, _])).symm
              have T6 := (T5.swap.goneSame HGO.out)
              have T7 := (T6.ord [2, 3, 1, 0, 4]).drop.drop
              rw [← HSP.out.2] at T7
              have HT := Lib.hid T7
              clear T T5 T6 T7
              gi_wp2
              go_roundw
              case rel => exact ⟨i + 1, by go_num, by omega, HT.out⟩
              case measure => simp [intOf]; omega
            · have T5 : Sts w F W3 (rowR g1 #[.pointer (some ⟨r, 0, none⟩)] :: goneR r m its q D O :: rowR g5 (CV res) :: rowR gy (IV y) :: vecR 35 2 (.slice (some ⟨gl, 0, none⟩) lk.length c2) lk.length (vl IV lk) :: (ownX (lk.take i ++ [y]) ++ R)) := T.perm (perm_mid (M := [_, _, _, _, _])).symm
              have T6 := (T5.ord [2, 3, 4, 0, 1]).drop.drop.drop
              have HT := Lib.hid (Sts.perm (L := [rowR g1 #[.pointer (some ⟨r, 0, none⟩)], goneR r m its q D O] ++ (ownX (lk.take i ++ [y]) ++ R)) T6 perm_mid)
              clear T T5 T6
              gi_wp2
              try simp only [Exit.inBlock, Exit.then]
              refine bodyPost_ret (results_none rfl _ _ _) rfl ?_
              exact ⟨⟨_, rfl⟩, .inr ⟨_, HT.out⟩⟩
          · have T1 := HT.out.new (CV noCall) 47
            have r1 := T1.row; have l1 := row_lt r1
            rw [noInst_litK] at r1 l1
            have HT1 := Lib.hid T1; clear T1 HT
            refine AllReadyH.cons (o := _) rfl (fun K hK => ?_) AllReadyH.nil
            go_simp
            refine hK.out _ _ ?_ (fun hHeld => ?_)
            · have := HFS.out _ _ (HT1.out.ord [1, 2, 3, 0])
              rw [noInst_litK] at this
              exact this
            clear hK K r1 l1
            refine wpAnyH_ready (rs := [5]) (by kernel_rfl) (by simp) ?_
            refine AllReadyH.cons (o := _) rfl (fun K hK => ?_) AllReadyH.nil
            go_simp
            have hbb := HT1.out.ord [1, 2, 3, 4, 5, 6, 0]
            rw [noInst_litK] at hbb
            refine (HAT.out _ _ hbb).mono ?_
            rintro e w4 ⟨rfl, hb⟩
            have T1 := HT1.out
            rw [noInst_litK] at T1
            have T2 := T1.pure hb
            clear hb HT1 HAT hbb T1
            refine hK.out _ _ ?_ (fun hHeld => ?_)
            · exact HFS.out _ _ (T2.ord [1, 2, 3, 0])
            clear hK K
            refine tkH 6 rfl ?_
            simp only [Act.put, List.setIfInBounds_toArray, List.set_cons_zero, List.set_cons_succ]
            refine tkH 7 rfl ?_
            go_frame
            refine tkH 8 rfl ?_
            go_frame
            have T3 := T2.setRow (CV res)
            have r2 := T2.row; have l2 := row_lt r2
            have HT3 := Lib.hid T3; clear T2 T3
            simp only [size_drew] at r2 l2 HT3
            generalize w3.heap.size = g5 at *
            refine wpAnyH_ready (rs := [10]) (by kernel_rfl) (by simp) ?_
            refine AllReadyH.cons (o := _) rfl (fun K hK => ?_) AllReadyH.nil
            go_simp
            refine hK.out _ _ ?_ (fun hHeld => ?_)
            · exact HFS.out _ _ (HT3.out.ord [1, 2, 3, 0])
            clear hK K r2 l2
            refine tkH 11 rfl ?_
            simp only [Act.put, List.setIfInBounds_toArray, List.set_cons_zero, List.set_cons_succ]
            refine wpAnyH_done (by kernel_rfl) ?_ _
            simp only [Exit.then]
            have HT := HT3; clear HT3 HFS
            generalize hw9 : w4.setRow _ _ = w9 at *
            clear hw9
            have r5 := HT.out.row; have l5 := row_lt r5
            have r6 := HT.out.row3; have l6 := row_lt r6
            have T4 := (HT.out.ord [2, 4, 5, 6, 7, 8, 1, 0, 3, 9]).runShut
            have T5 := T4.goneShut HGO.out
            have T6 : Sts w F w9 ([rowR g1 #[.pointer (some ⟨r, 0, none⟩)], goneR r m its q D O, rowR g5 (CV res), rowR gy (IV y), vecR 35 2 (.slice (some ⟨gl, 0, none⟩) lk.length c2) lk.length (vl IV lk)] ++ (own (lk.take i) ++ R)) := by
              have T7 := T5.ord [1, 0, 2, 3, 4]
              exact T7
            have hYY := HY.out (lk.take i) y w F _ (rowR g5 (CV res) :: rowR gy (IV y) :: vecR 35 2 (.slice (some ⟨gl, 0, none⟩) lk.length c2) lk.length (vl IV lk) :: R) ⟨lk.drop (i + 1), _, _, by rw [HSP.out.1]; exact HGO.out⟩ (T6.perm perm_mid)
            obtain ⟨fn, tmps, assign, body, hy, hRR⟩ := hYY
            unfold goEnc at hy
            rw [HRES.out] at hy
            clear T4 T5 T6 HT
            gi_wp2_with fail
            refine hRR.mono ?_
            clear hy hRR r5 l5 r6 l6
            rintro e W3 (⟨rfl, T⟩ | ⟨rfl, T⟩)
            · have T5 : Sts w F W3 (rowR g1 #[.pointer (some ⟨r, 0, none⟩)] :: goneR r m its q D O :: rowR g5 (CV res) :: rowR gy (IV y) :: vecR 35 2 (.slice (some ⟨gl, 0, none⟩) lk.length c2) lk.length (vl IV lk) :: (own (lk.take i ++ [y]) ++ R)) := T.perm (perm_mid (M := [_, _, _, _, _])).symm
              have T6 := (T5.swap.goneSame HGO.out)
              have T7 := (T6.ord [2, 3, 1, 0, 4]).drop.drop
              rw [← HSP.out.2] at T7
              have HT := Lib.hid T7
              clear T T5 T6 T7
              gi_wp2
              go_roundw
              case rel => exact ⟨i + 1, by go_num, by omega, HT.out⟩
              case measure => simp [intOf]; omega
            · have T5 : Sts w F W3 (rowR g1 #[.pointer (some ⟨r, 0, none⟩)] :: goneR r m its q D O :: rowR g5 (CV res) :: rowR gy (IV y) :: vecR 35 2 (.slice (some ⟨gl, 0, none⟩) lk.length c2) lk.length (vl IV lk) :: (ownX (lk.take i ++ [y]) ++ R)) := T.perm (perm_mid (M := [_, _, _, _, _])).symm
              have T6 := (T5.ord [2, 3, 4, 0, 1]).drop.drop.drop
              have HT := Lib.hid (Sts.perm (L := [rowR g1 #[.pointer (some ⟨r, 0, none⟩)], goneR r m its q D O] ++ (ownX (lk.take i ++ [y]) ++ R)) T6 perm_mid)
              clear T T5 T6
              gi_wp2
              try simp only [Exit.inBlock, Exit.then]
              refine bodyPost_ret (results_none rfl _ _ _) rfl ?_
              exact ⟨⟨_, rfl⟩, .inr ⟨_, HT.out⟩⟩
        · have hi1 : ¬ (i : Int) < (nl : Int) := by omega
          obtain rfl : i = nl := by omega
          have hti : lk.take i = lk := List.take_of_length_le (by rw [← HNL.out]; exact Nat.le_refl _)
          rw [hti] at T
          have T2 := ((T.ord [2, 1, 0]).drop).goneShut HGO.out
          have T3 : Sts w F wr ([rowR g1 #[.pointer (some ⟨r, 0, none⟩)], goneR r m its q D O] ++ (own lk ++ R)) := T2.swap
          have HT := Lib.hid (T3.perm perm_mid)
          clear T T2 T3 hti
          gi_wp2
          go_end0
          exact ⟨⟨_, rfl⟩, .inl ⟨lk, ⟨_, _, HGO.out⟩, HT.out⟩⟩
end
end Go.Proofs.Ytnjgjhjilolanaa
/- Layer 19: a run goes; what was done, what is open; a pass. -/
namespace Go.Proofs.Ytnjgjhjilolanaa
open Go.RowKit Go.Shelf
set_option linter.unusedVariables false
set_option maxRecDepth 20000
attribute [local go_sem] Oper.semAt_some
attribute [local go_sem] row_alloc row_drew row_drewN row_ext row_setCell row_setRow size_ext setRow_alloc setRow_drew loadOf storeOf piece_lit loadVal_at storeVal_at allOne_lit buildOf buildRes_some
attribute [local go_sem high] cell_alloc frozen_alloc setCell_alloc cell_ext frozen_ext cell_setRow frozen_setRow
attribute [local go_sem ↓] TDeed_ld0 TDeed_st0 TDeed_fd0 TDeed_bd0
attribute [local go_sem] TDeed_size TDeed_one TDeed_piece TDeed_c0 TDeed_c1 TDeed_c2 TDeed_c3 TDeed_c4 TDeed_c5 TDeed_set_kind TDeed_set_key TDeed_set_val TDeed_set_ver TDeed_set_ses TDeed_set_num TDeed_ld TDeed_st TDeed_f_kind TDeed_f_key TDeed_f_val TDeed_f_ver TDeed_f_ses TDeed_f_num TDeed_bd TDeed_fl TDeed_fl_kind TDeed_fl_key TDeed_fl_val TDeed_fl_ver TDeed_fl_ses TDeed_fl_num
attribute [local go_sem high] TDeed_eql TDeed_neq
attribute [local go_sem ↓] index_deps0 load_deps0 store_deps0
attribute [local go_sem] DV_piece DV_size DV_one index_deps load_deps store_deps
attribute [local go_sem high] TDeps_eql TDeps_neq
attribute [local go_sem ↓] TCall_ld0 TCall_st0 TCall_fd0 TCall_bd0
attribute [local go_sem] TCall_size TCall_one TCall_piece TCall_c0 TCall_c1 TCall_c2 TCall_c3 TCall_c4 TCall_c5 TCall_c6 TCall_c7 TCall_c8 TCall_c9 TCall_c10 TCall_c11 TCall_c12 TCall_c13 TCall_p_deed TCall_put_deed TCall_p_deps TCall_put_deps TCall_set_seq TCall_ld TCall_st TCall_f_deed TCall_f_deps TCall_f_seq TCall_bd TCall_fl TCall_fl_deed TCall_fl_deps TCall_fl_seq
attribute [local go_sem high] TCall_eql TCall_neq
attribute [local go_sem ↓] TItem_ld0 TItem_st0 TItem_fd0 TItem_bd0
attribute [local go_sem] TItem_size TItem_one TItem_piece TItem_c0 TItem_c1 TItem_set_rep TItem_set_num TItem_ld TItem_st TItem_f_rep TItem_f_num TItem_bd TItem_fl TItem_fl_rep TItem_fl_num
attribute [local go_sem high] TItem_eql TItem_neq
section
variable {w W : World} {F : Nat → Prop} {R : List Res} {r g1 : Nat} {m : RowsMK} {q q1 : RowsML} {its D O O1 l1 : List Item}
theorem runGoT (T : Sts w F W R) :
    Calls Try.prog 31 #[.pointer (some ⟨r, 0, none⟩)] W fun e W' => ∃ g1, e = .returned (.func (.func 57) #[] #[.pointer (some ⟨g1, 0, none⟩)]) ∧ Sts w F W' (rowR g1 #[.pointer (some ⟨r, 0, none⟩)] :: R) := by
  have T1 := T.new #[.pointer (some ⟨r, 0, none⟩)] 60
  have HT := Lib.hid T1; clear T T1
  go_enter Try.func31, Try.ntmps31
  go_wp2
  go_ret
  exact ⟨_, rfl, HT.out⟩
set_option maxHeartbeats 4000000 in
theorem runDoneT (hD : D.length ≤ 1000000) (T : Sts w F W (runR r m q D O :: R)) :
    Calls Try.prog 30 #[.pointer (some ⟨r, 0, none⟩)] W fun e W' => ∃ v, e = .returned v ∧ Sts w F W' (vecR 35 2 v D.length (vl IV D) :: runR r m q D O :: R) := by
  obtain ⟨b, gc, gd, vd, vo, T1⟩ := T.runOpen
  have r0 := T1.row; have l0 := row_lt r0; have c1 := row_cell r0 1
  have HC := Lib.hid (cloneAny hD (T1.ord [4, 0, 1, 2, 3, 5]))
  clear T T1
  go_enter Try.func30, Try.ntmps30
  go_wp2_with fail
  refine HC.out.mono ?_
  clear HC r0 l0 c1
  rintro e1 w1 ⟨v1, rfl, T⟩
  have T2 := (T.ord [2, 3, 4, 5, 1, 6, 0]).runShut
  have HT := Lib.hid T2.swap
  clear T T2
  go_wp2
  go_ret
  exact ⟨_, rfl, HT.out⟩
set_option maxHeartbeats 4000000 in
theorem runOpenT (hO : O.length ≤ 1000000) (T : Sts w F W (runR r m q D O :: R)) :
    Calls Try.prog 33 #[.pointer (some ⟨r, 0, none⟩)] W fun e W' => ∃ v, e = .returned v ∧ Sts w F W' (vecR 35 2 v O.length (vl IV O) :: runR r m q D O :: R) := by
  obtain ⟨b, gc, gd, vd, vo, T1⟩ := T.runOpen
  have r0 := T1.row; have l0 := row_lt r0; have c1 := row_cell r0 2
  have HC := Lib.hid (cloneAny hO (T1.ord [5, 0, 1, 2, 3, 4]))
  clear T T1
  go_enter Try.func33, Try.ntmps33
  go_wp2_with fail
  refine HC.out.mono ?_
  clear HC r0 l0 c1
  rintro e1 w1 ⟨v1, rfl, T⟩
  have T2 := (T.ord [2, 3, 4, 5, 6, 1, 0]).runShut
  have HT := Lib.hid T2.swap
  clear T T2
  go_wp2
  go_ret
  exact ⟨_, rfl, HT.out⟩
end
end Go.Proofs.Ytnjgjhjilolanaa
