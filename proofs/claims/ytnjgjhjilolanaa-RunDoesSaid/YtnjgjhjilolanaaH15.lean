/- Several texts in one. -/
import Derived.Test.YtnjgjhjilolanaaH13
import Derived.Test.YtnjgjhjilolanaaH14
/- Layer 18: a search through a graph, in memory; a part is told. -/
namespace Go.Proofs.Ytnjgjhjilolanaa
open Go.RowKit Go.Shelf
open Go.Sort (pdq bitsLen)
set_option linter.unusedVariables false
set_option maxRecDepth 20000
attribute [local go_sem] row_alloc row_drew row_drewN row_ext row_setCell row_setRow size_ext setRow_alloc setRow_drew loadOf storeOf piece_lit loadVal_at storeVal_at allOne_lit buildOf buildRes_some
attribute [local go_sem high] cell_alloc frozen_alloc setCell_alloc cell_ext frozen_ext cell_setRow frozen_setRow
attribute [local go_sem ↓] TDeed_ld0 TDeed_st0 TDeed_fd0 TDeed_bd0
attribute [local go_sem] TDeed_size TDeed_one TDeed_piece TDeed_c0 TDeed_c1 TDeed_c2 TDeed_c3 TDeed_c4 TDeed_c5 TDeed_set_kind TDeed_set_key TDeed_set_val TDeed_set_ver TDeed_set_ses TDeed_set_num TDeed_ld TDeed_st TDeed_f_kind TDeed_f_key TDeed_f_val TDeed_f_ver TDeed_f_ses TDeed_f_num TDeed_bd TDeed_fl TDeed_fl_kind TDeed_fl_key TDeed_fl_val TDeed_fl_ver TDeed_fl_ses TDeed_fl_num
attribute [local go_sem high] TDeed_eql TDeed_neq
attribute [local go_sem ↓] index_deps0 load_deps0 store_deps0
attribute [local go_sem] DV_piece DV_size DV_one index_deps load_deps store_deps
attribute [local go_sem high] TDeps_eql TDeps_neq
attribute [local go_sem ↓] TCall_ld0 TCall_st0 TCall_fd0 TCall_bd0
attribute [local go_sem] TCall_size TCall_one TCall_piece TCall_c0 TCall_c1 TCall_c2 TCall_c3 TCall_c4 TCall_c5 TCall_c6 TCall_c7 TCall_c8 TCall_c9 TCall_c10 TCall_c11 TCall_c12 TCall_c13 TCall_p_deed TCall_put_deed TCall_p_deps TCall_put_deps TCall_set_seq TCall_ld TCall_st TCall_f_deed TCall_f_deps TCall_f_seq TCall_bd TCall_fl TCall_fl_deed TCall_fl_deps TCall_fl_seq
attribute [local go_sem high] TCall_eql TCall_neq
attribute [local go_sem ↓] TItem_ld0 TItem_st0 TItem_fd0 TItem_bd0
attribute [local go_sem] TItem_size TItem_one TItem_piece TItem_c0 TItem_c1 TItem_set_rep TItem_set_num TItem_ld TItem_st TItem_f_rep TItem_f_num TItem_bd TItem_fl TItem_fl_rep TItem_fl_num
attribute [local go_sem high] TItem_eql TItem_neq
noncomputable def offM (l : List Item) (f : Item → Option Bool) : Item → Option Bool := l.foldl (fun f y => putF f y false) f
theorem offM_snoc (l : List Item) (y : Item) (f : Item → Option Bool) : offM (l ++ [y]) f = putF (offM l f) y false := by simp [offM]
theorem pit_slice1 (w : World) (A : Option Addr) (n c : Nat) : (Instr.buildSlice 36 1 #[(0, .slice A n c)]).run Try.prog w = .ok (.slice (some ⟨w.heap.size, 0, none⟩) 1 1) (w.alloc (.cells #[.slice A n c] 30)) := by kernel_rfl
theorem pit_i : ∃ i, Try.prog.info? 30 = some i ∧ i.zero = some (.slice none 0 0) ∧ i.size = 1 ∧ i.bytes = 24 := by
  have h : (Try.prog.info? 30).map (fun i => (i.zero, i.size, i.bytes)) = some (some (.slice none 0 0), 1, 24) := by kernel_rfl
  cases hi : Try.prog.info? 30 with
  | none => rw [hi] at h; simp at h
  | some i => rw [hi] at h; simp at h; exact ⟨i, rfl, h.1, h.2.1, h.2.2⟩
attribute [local go_sem] pit_slice1
noncomputable def partM (m : RowsMK) (x : Item) (S : WS) : WS :=
  { S with on := offM (S.st.drop (idxN x S.st)) S.on, st := S.st.take (idxN x S.st), pa := S.pa ++ [sortM m (S.st.drop (idxN x S.st))] }
section
variable {w W : World} {F : Nat → Prop} {R : List Res} {b gc gd : Nat} {m : RowsMK} {q : RowsML}
theorem Sts.paPush2 {v u : Value} {l : List Item} {pv : List (Value × List Item)} (T : Sts w F W (vecR 30 1 v (pv.length + 1) (vl PV pv ++ (PV (u, l)).toList) :: packR (pv.map (fun p => vecR 35 2 p.1 p.2.length (vl IV p.2))) :: vecR 35 2 u l.length (vl IV l) :: R)) : Sts w F W (paR v (pv.map (·.2) ++ [l]) :: R) := by
  have T1 := T.unpack1
  exact Sts.paPush (T1.perm (List.Perm.cons _ List.perm_middle))
set_option maxHeartbeats 16000000 in
theorem grPartT {K : Nat} (hK : SortsTo K) (hK6 : K ≤ 1000000) {wk N : Nat} {A : WA} {S : WS} (hA : A.le N) (hN : N + K < maxLen) (hst : S.st.length ≤ K) (hpa : S.pa.length ≤ 1000000) (hm : 0 ≤ m.n ∧ m.n ≤ 7) (x : Item) (hin : ∀ y ∈ S.st, InI y) (hmem : idxN x S.st < S.st.length)
    (T : Sts w F W (wkL wk b A S ++ (grL b gc gd m q ++ R))) :
    Calls Try.prog 65 #[.pointer (some ⟨wk, 0, none⟩), .agg (IV x)] W fun e W' => e = .returned (.tuple #[]) ∧ ∃ A', A'.le (N + K) ∧ Sts w F W' (wkL wk b A' (partM m x S) ++ (grL b gc gd m q ++ R)) := by
  obtain ⟨bi, bl, bo, n1, n2, c2, n3, c3, vs, vf, vp, vm⟩ := A
  obtain ⟨ix, ci, lo, on, st, fr, pa, mi⟩ := S
  obtain ⟨hA1, hA2, hA3⟩ := hA
  dsimp only at hst hpa hA1 hA2 hA3 hin hmem
  have T : Sts w F W (rowR wk (wkC b bi bl bo vs vf vp vm) :: numR bi n1 ci ix :: numR bl n2 c2 lo :: bitR bo n3 c3 on :: vecR 35 2 vs st.length (vl IV st) :: frR vf fr :: paR vp pa :: vecR 35 2 vm mi.length (vl IV mi) :: (grL b gc gd m q ++ R)) := T
  have T := T.ord [0, 3, 4, 6, 1, 2, 5, 7]
  generalize hRR : numR bi n1 ci ix :: numR bl n2 c2 lo :: frR vf fr :: vecR 35 2 vm mi.length (vl IV mi) :: (grL b gc gd m q ++ R) = RR at *
  have HRR := Lib.hid hRR; clear hRR
  obtain ⟨k, hk⟩ : ∃ k, k = idxN x st := ⟨_, rfl⟩
  have hii : idxI x st = (k : Int) := by rw [idxI, if_pos hmem, hk]
  obtain ⟨n, hn⟩ : ∃ n, n = st.length := ⟨_, rfl⟩
  have HN := Lib.hid hn
  rw [← hk, ← hn] at hmem
  rw [← hn] at hst
  obtain ⟨gs, cs, hvs⟩ : ∃ gs cs, vs = .slice (some ⟨gs, 0, none⟩) n cs := by
    rcases ((T.ord [2, 0, 1]).vec).2 with ⟨h, h0⟩ | ⟨g1, cap, cur, h, _⟩
    · omega
    · exact ⟨g1, cap, by rw [h, hn]⟩
  subst hvs
  have T1 := (T.new (IV x) 35).ord [1, 0]
  have HT := Lib.hid T1
  have HIX := Lib.hid (fun (W' : World) (R' : List Res) (T : Sts w F W' (vecR 35 2 (.slice (some ⟨gs, 0, none⟩) n cs) st.length (vl IV st) :: R')) => (indexR _ st (by rw [← hn]; omega) x).at1 T)
  rw [hii] at HIX
  have HK := Lib.hid hk
  clear T T1 hii hn hk
  go_enter Try.func65, Try.ntmps65
  go_upto_region 1 with fail
  generalize hw3 : W.alloc _ = w3 at *
  generalize W.heap.size = gx at *
  clear hw3
  have FS : ∀ W' X R', Sts w F W' (rowR wk X :: rowR gx (IV x) :: R') → X[4]? = some (.slice (some ⟨gs, 0, none⟩) n cs) → (W'.cell? ⟨wk, 4, none⟩ = some (.slice (some ⟨gs, 0, none⟩) n cs) ∧ row? W' gx = some (IV x)) := fun W' X R' T h1 => ⟨by rw [row_cell T.row 4, h1], T.row1⟩
  have HFS := Lib.hid FS
  have HT0 := Lib.hid HT.out.drew
  have S0 := HFS.out _ _ _ HT0.out rfl
  clear HT FS
  refine wp_region_held_drew (S := fun W' => (W'.cell? ⟨wk, 4, none⟩ = some (.slice (some ⟨gs, 0, none⟩) n cs) ∧ row? W' gx = some (IV x))) (by kernel_rfl) S0 (fun hHeld => ?_)
  clear S0
  refine tkH 0 rfl ?_
  simp only [Act.put, List.setIfInBounds_toArray, List.set_cons_zero, List.set_cons_succ]
  refine tkH 1 rfl ?_
  go_frame
  refine tkH 2 rfl ?_
  go_frame
  refine tkH 3 rfl ?_
  go_frame
  refine tkH 4 rfl ?_
  go_frame
  refine wpAnyH_ready (rs := [5]) (by kernel_rfl) (by simp) ?_
  refine AllReadyH.cons (o := _) rfl (fun K hK => ?_) AllReadyH.nil
  go_simp
  refine (HIX.out _ _ (HT0.out.ord [3, 0, 1, 2])).mono ?_
  clear HIX
  rintro e5 w5 ⟨rfl, hb⟩
  have HT := Lib.hid (HT0.out.pure hb)
  clear hb HT0
  refine hK.out _ _ (HFS.out _ _ _ HT.out rfl) (fun hHeld => ?_)
  clear hK K HFS
  refine tkH 6 rfl ?_
  simp only [Act.put, List.setIfInBounds_toArray, List.set_cons_zero, List.set_cons_succ]
  refine wpAnyH_done (by kernel_rfl) ?_ _
  try simp only [Exit.then]
  have r := HT.out.row; have lr := row_lt r; have c4 := row_cell r 4
  have hkn : (k : Int) ≤ (n : Int) := by omega
  have hk0 : (0 : Int) ≤ (k : Int) := by omega
  have hncs : n ≤ cs := by
    rcases ((HT.out.ord [3, 0, 1, 2]).vec).2 with ⟨h, h0⟩ | ⟨g1, cap, cur, h, _, _, h2, _⟩
    · cases h
    · injection h with e1 e2 e3; omega
  go_wp2_with fail
  have hcl : ∀ j y, (st.drop k)[j]? = some y → w5.cell? ⟨gs, k * 2 + j * 2, none⟩ = some (.int .i64 y.rep) ∧ w5.cell? ⟨gs, k * 2 + j * 2 + 1, none⟩ = some (.int .i64 y.num) := fun j y hj => by
    rw [List.getElem?_drop] at hj
    obtain ⟨hj1, rfl⟩ := List.getElem?_eq_some_iff.1 hj
    obtain ⟨g', c', hv, -, hcell⟩ := vec_cell TItem_size (HT.out.ord [3, 0, 1, 2]) (by omega) hj1
    injection hv with e1 e2 e3
    injection e1 with e1
    injection e1 with e1
    subst e1
    have h0 := hcell 0 _ rfl
    have h1 := hcell 1 _ rfl
    rw [show k * 2 + j * 2 = (k + j) * 2 by omega]
    exact ⟨h0, h1⟩
  obtain ⟨nk, hnk⟩ : ∃ nk, nk = n - k := ⟨_, rfl⟩
  have hdl : (st.drop k).length = nk := by rw [List.length_drop, ← HN.out, hnk]
  have HCT := Lib.hid (cloneT (c := cs - k) hdl (by omega) (by omega) hcl HT.out)
  have HNK := Lib.hid hnk
  rw [hnk] at HCT
  refine HCT.out.mono ?_
  clear HCT hcl r lr c4
  rintro e6 w6 ⟨g1, c1, rfl, T⟩
  rw [← hnk] at T ⊢
  have T2 := T.ord [1, 0]
  have r := T2.row; have lr := row_lt r; have c4 : w6.cell? ⟨wk, 4, none⟩ = some (.slice (some ⟨gs, 0, none⟩) n cs) := by rw [row_cell r 4]; rfl
  have f4 := row_frozen r 4
  have HT2 := Lib.hid T2
  have HDL := Lib.hid hdl
  clear T T2 HT hnk hdl
  go_upto_region 4 with fail
  have T3a := HT2.out.setCell 4 (.slice (some ⟨gs, 0, none⟩) k cs)
  generalize hw7 : w6.setCell _ _ = w7 at *
  clear hw7
  have T3 : Sts w F w7 (rowR wk (wkC b bi bl bo (.slice (some ⟨gs, 0, none⟩) k cs) vf vp vm) :: vecR 35 2 (.slice (some ⟨g1, 0, none⟩) nk c1) nk (vl IV (st.drop k)) :: rowR gx (IV x) :: bitR bo n3 c3 on :: vecR 35 2 (.slice (some ⟨gs, 0, none⟩) n cs) st.length (vl IV st) :: paR vp pa :: RR) := T3a
  have T4 := (T3.ord [4, 0, 1, 2, 3]).vecShort (k := k) TItem_size (by have := HN.out; omega) (A := some ⟨gs, 0, none⟩) (c := cs) (by have := HN.out; rw [← this])
  have T5 := (T4.ord [3, 1, 2, 4, 0, 5]).drop
  obtain ⟨d, hd, hds⟩ : ∃ d : Array Item, d.toList = st.drop k ∧ d.size = nk := ⟨(st.drop k).toArray, rfl, by have := HDL.out; simpa using this⟩
  have hdin : ∀ i, i < nk → InI d[i]! := fun i hi => by
    rw [← get_list d (by omega)]
    refine hin _ (List.mem_of_mem_drop (i := k) ?_)
    rw [← hd]
    exact List.getElem_mem _
  have T6 : Sts w F w7 (rowR wk (wkC b bi bl bo (.slice (some ⟨gs, 0, none⟩) k cs) vf vp vm) :: itR g1 c1 d :: bitR bo n3 c3 on :: vecR 35 2 (.slice (some ⟨gs, 0, none⟩) k cs) (st.take k).length (vl IV (st.take k)) :: paR vp pa :: RR) := by
    unfold itR
    rw [hd, hds]
    exact T5
  have HT := Lib.hid T6; have HDS := Lib.hid hds; have HD := Lib.hid hd; have HIN := Lib.hid hdin
  clear HT2 T3a T3 T4 T5 T6 hds hd hdin hin r lr c4 f4 hkn hk0
  have hnkK : nk ≤ K := by have := HNK.out; omega
  clear hmem
  go_wp2_with fail
  go_loopw [32] (fun u32 wr => ∃ (i n3' c3' : Nat), u32 = .int .i64 i ∧ i ≤ nk ∧ n3' ≤ n3 + i ∧ Sts w F wr (rowR wk (wkC b bi bl bo (.slice (some ⟨gs, 0, none⟩) k cs) vf vp vm) :: itR g1 c1 d :: bitR bo n3' c3' (offM (d.toList.take i) on) :: vecR 35 2 (.slice (some ⟨gs, 0, none⟩) k cs) (st.take k).length (vl IV (st.take k)) :: paR vp pa :: RR)) (fun u32 _ => nk - (intOf u32).toNat)
  case atStart => exact ⟨0, n3, c3, rfl, by omega, by omega, HT.out⟩
  case round =>
    clear HT
    obtain ⟨i, n3', c3', rfl, hi, hn3, T⟩ := hrel
    by_cases hin : i < nk
    · have hin' : (i : Int) < (nk : Int) := by omega
      have hi0 : (0 : Int) ≤ (i : Int) := by omega
      have hld := (T.ord [1, 0]).itLoad (i := i) (by have := HDS.out; omega)
      have hsn : offM (d.toList.take (i + 1)) on = putF (offM (d.toList.take i) on) d[i]! false := by
        have h1 : i < d.toList.length := by have := HDS.out; rw [Array.length_toList]; omega
        rw [List.take_succ_eq_append_getElem h1, offM_snoc, get_list d (by have := HDS.out; omega)]
      have HSN := Lib.hid hsn
      have HY := Lib.hid (HIN.out i hin)
      clear hsn
      generalize d[i]! = y at *
      generalize offM (d.toList.take i) on = on' at *
      have T2 := (T.new (IV y) 35).ord [1, 0]
      have HT := Lib.hid T2; clear T T2
      go_upto_region 7 with fail
      generalize hw3 : wr.alloc _ = w3 at *
      generalize wr.heap.size = gy at *
      clear hw3 hld
      have FS : ∀ W' X R', Sts w F W' (rowR wk X :: rowR gy (IV y) :: R') → X[3]? = some (.map (some bo)) → (W'.cell? ⟨wk, 3, none⟩ = some (.map (some bo)) ∧ row? W' gy = some (IV y)) := fun W' X R' T h1 => ⟨by rw [row_cell T.row 3, h1], T.row1⟩
      have HFS := Lib.hid FS
      have HT0 := Lib.hid HT.out.drew
      have S0 := HFS.out _ _ _ HT0.out rfl
      clear HT FS
      refine wp_region_held_drew (S := fun W' => (W'.cell? ⟨wk, 3, none⟩ = some (.map (some bo)) ∧ row? W' gy = some (IV y))) (by kernel_rfl) S0 (fun hHeld => ?_)
      clear S0
      refine tkH 0 rfl ?_
      simp only [Act.put, List.setIfInBounds_toArray, List.set_cons_zero, List.set_cons_succ]
      refine tkH 1 rfl ?_
      go_frame
      refine tkH 2 rfl ?_
      go_frame
      refine tkH 3 rfl ?_
      go_frame
      refine tkH 4 rfl ?_
      go_frame
      generalize w3.drew = w9 at *
      obtain ⟨w10, h10, T10, hsz⟩ := (HT0.out.ord [3, 0, 1, 2]).mapCPut itemOk Try.underlying29 (by omega) y HY.out false
      have HT10 := Lib.hid (T10.ord [1, 2, 3, 0]); clear T10 HT0 hsz
      refine wpAnyH_ready (rs := [5]) (by kernel_rfl) (by simp) ?_
      refine AllReadyH.cons (o := _) rfl (fun K hK => ?_) AllReadyH.nil
      go_simp
      refine hK.out _ _ (HFS.out _ _ _ HT10.out rfl) (fun hHeld => ?_)
      clear hK K HFS h10
      refine wpAnyH_done (by kernel_rfl) ?_ _
      try simp only [Exit.then]
      have T11 := (HT10.out.ord [1, 0]).drop
      rw [← HSN.out] at T11
      have HT := Lib.hid T11; clear HT10 T11
      go_wp2
      go_roundw
      case rel => exact ⟨i + 1, _, _, by go_num, by omega, by omega, HT.out⟩
      case measure => simp [intOf]; omega
    · have hin' : ¬ (i : Int) < (nk : Int) := by omega
      obtain rfl : i = nk := by omega
      have htk : d.toList.take i = d.toList := by rw [List.take_of_length_le (by rw [Array.length_toList, HDS.out]; exact Nat.le_refl _)]
      rw [htk, ← HRR.out] at T
      have T : Sts w F wr (rowR wk (wkC b bi bl bo (.slice (some ⟨gs, 0, none⟩) k cs) vf vp vm) :: itR g1 c1 d :: bitR bo n3' c3' (offM d.toList on) :: vecR 35 2 (.slice (some ⟨gs, 0, none⟩) k cs) (st.take k).length (vl IV (st.take k)) :: paR vp pa :: numR bi n1 ci ix :: numR bl n2 c2 lo :: frR vf fr :: vecR 35 2 vm mi.length (vl IV mi) :: rowR b #[.pointer (some ⟨gc, 0, none⟩), .pointer (some ⟨gd, 0, none⟩)] :: rowsIRK gc m :: rowsIRL gd q :: R) := T
      have r := T.row; have lr := row_lt r
      have c0 : wr.cell? ⟨wk, 0, none⟩ = some (.pointer (some ⟨b, 0, none⟩)) := by rw [row_cell r 0]; rfl
      have HS := Lib.hid (hK w wr F (rowR wk (wkC b bi bl bo (.slice (some ⟨gs, 0, none⟩) k cs) vf vp vm) :: bitR bo n3' c3' (offM d.toList on) :: vecR 35 2 (.slice (some ⟨gs, 0, none⟩) k cs) (st.take k).length (vl IV (st.take k)) :: paR vp pa :: numR bi n1 ci ix :: numR bl n2 c2 lo :: frR vf fr :: vecR 35 2 vm mi.length (vl IV mi) :: R) b gc gd g1 c1 m q d i HDS.out hnkK hm (by have T9 := T.ord [1, 9, 10, 11, 0, 2, 3, 4, 5, 6, 7, 8]; exact T9))
      clear T
      go_wp2_with fail
      refine HS.out.mono ?_
      clear HS r lr c0
      rintro e5 w5 ⟨rfl, T⟩
      obtain ⟨e, he⟩ : ∃ e, e = pdq (ltM m) d 0 i (bitsLen i) true true := ⟨_, rfl⟩
      rw [← he] at T
      have hes : e.size = i := by rw [he]; exact pdqM_size m d i HDS.out
      have hel : e.toList = sortM m (st.drop k) := by
        rw [he, sortM, HDL.out]
        have : d = (st.drop k).toArray := by rw [← HD.out]
        rw [this]
      have hlen : (sortM m (st.drop k)).length = i := by rw [← hel, Array.length_toList, hes]
      have HLEN := Lib.hid hlen
      have T1 : Sts w F w5 (vecR 35 2 (.slice (some ⟨g1, 0, none⟩) i c1) (sortM m (st.drop k)).length (vl IV (sortM m (st.drop k))) :: rowR b #[.pointer (some ⟨gc, 0, none⟩), .pointer (some ⟨gd, 0, none⟩)] :: rowsIRK gc m :: rowsIRL gd q :: rowR wk (wkC b bi bl bo (.slice (some ⟨gs, 0, none⟩) k cs) vf vp vm) :: bitR bo n3' c3' (offM d.toList on) :: vecR 35 2 (.slice (some ⟨gs, 0, none⟩) k cs) (st.take k).length (vl IV (st.take k)) :: paR vp pa :: numR bi n1 ci ix :: numR bl n2 c2 lo :: frR vf fr :: vecR 35 2 vm mi.length (vl IV mi) :: R) := by
        have T2 : Sts w F w5 (itR g1 c1 e :: rowR b #[.pointer (some ⟨gc, 0, none⟩), .pointer (some ⟨gd, 0, none⟩)] :: rowsIRK gc m :: rowsIRL gd q :: rowR wk (wkC b bi bl bo (.slice (some ⟨gs, 0, none⟩) k cs) vf vp vm) :: bitR bo n3' c3' (offM d.toList on) :: vecR 35 2 (.slice (some ⟨gs, 0, none⟩) k cs) (st.take k).length (vl IV (st.take k)) :: paR vp pa :: numR bi n1 ci ix :: numR bl n2 c2 lo :: frR vf fr :: vecR 35 2 vm mi.length (vl IV mi) :: R) := T
        unfold itR at T2
        rw [hel, hes] at T2
        rw [hlen]
        exact T2
      rw [HD.out] at T1
      clear T hes hel hlen he
      obtain ⟨pv, hpv, T2⟩ := (T1.ord [7, 0, 1, 2, 3, 4, 5, 6]).paOpen
      have T3 := T2.pack1
      have hpl : pv.length ≤ 1000000 := by rw [← hpv, List.length_map] at hpa; exact hpa
      have r := T3.ord [6, 0, 1, 2, 3, 4, 5] |>.row; have lr := row_lt r
      have c6 : w5.cell? ⟨wk, 6, none⟩ = some vp := by rw [row_cell r 6]; rfl
      have TA0 := T3.new #[.slice (some ⟨g1, 0, none⟩) i c1] 30
      have HNW := Lib.hid (news_row TA0.row)
      have HTA := Lib.hid (TA0.ord [1, 0])
      obtain ⟨i0, hi, hz0, hz1, hz2⟩ := pit_i
      clear T1 T2 T3 TA0
      have h63 : pv.length + 1 ≤ maxLen := by unfold maxLen; omega
      go_wp2_with (at_builtin; refine wpList_append_vec rfl _ _ 36 rfl 30 i0 _ 1 24 Try.underlying36 hi hz0 hz1 hz2 rfl (by omega) _ _ _ rfl HTA.out ⟨w5.heap.size, 0, none⟩ 1 1 [.slice (some ⟨g1, 0, none⟩) i c1] rfl rfl HNW.out (by simp [Value.oneCell']) ?c3 ?c4 ?_)
      case c3 => exact h63
      case c4 => omega
      intro v' w' T9
      obtain ⟨A9, c9, rfl⟩ := vec_shape2 T9
      rw [show min k st.length = (st.take k).length from List.length_take.symm] at T9
      clear HTA HNW r lr c6 hi hz0 hz1 hz2 h63
      have T10 := T9.ord [7, 0, 1, 2, 3, 4, 5, 6]
      have r := T10.row; have lr := row_lt r; have f6 := row_frozen r 6
      have c6 : w'.cell? ⟨wk, 6, none⟩ = some vp := by rw [row_cell r 6]; rfl
      have HT := Lib.hid T10
      clear T9 T10
      go_wp2
      have T11 := HT.out.setCell 6 (.slice A9 (pv.length + 1) c9)
      try simp only [Exit.inBlock, Exit.then]
      refine bodyPost_end (results_none rfl _ _ _) rfl ?_
      clear HT r lr f6 c6
      generalize w'.setCell _ _ = w8 at *
      have T12 : Sts w F w8 (rowR wk (wkC b bi bl bo (.slice (some ⟨gs, 0, none⟩) k cs) vf (.slice A9 (pv.length + 1) c9) vm) :: vecR 30 1 (.slice A9 (pv.length + 1) c9) (pv.length + 1) (vl PV pv ++ [.slice (some ⟨g1, 0, none⟩) i c1]) :: rowR w5.heap.size #[.slice (some ⟨g1, 0, none⟩) i c1] :: packR (pv.map (fun p => vecR 35 2 p.1 p.2.length (vl IV p.2))) :: vecR 35 2 (.slice (some ⟨g1, 0, none⟩) i c1) (sortM m (st.drop k)).length (vl IV (sortM m (st.drop k))) :: rowR b #[.pointer (some ⟨gc, 0, none⟩), .pointer (some ⟨gd, 0, none⟩)] :: rowsIRK gc m :: rowsIRL gd q :: bitR bo n3' c3' (offM (st.drop k) on) :: vecR 35 2 (.slice (some ⟨gs, 0, none⟩) k cs) (st.take k).length (vl IV (st.take k)) :: numR bi n1 ci ix :: numR bl n2 c2 lo :: frR vf fr :: vecR 35 2 vm mi.length (vl IV mi) :: R) := T11
      have T13 := (T12.ord [2, 1, 3, 4, 0]).drop
      have T14 := Sts.paPush2 (u := .slice (some ⟨g1, 0, none⟩) i c1) (l := sortM m (st.drop k)) (pv := pv) T13
      rw [hpv] at T14
      have T15 := T14.ord [1, 7, 8, 5, 6, 9, 0, 10, 2, 3, 4]
      have hk := HK.out
      refine ⟨rfl, ⟨bi, bl, bo, n1, n2, c2, n3', c3', .slice (some ⟨gs, 0, none⟩) k cs, vf, .slice A9 (pv.length + 1) c9, vm⟩, ⟨by dsimp only; omega, by dsimp only; omega, by dsimp only; omega⟩, ?_⟩
      subst hk
      exact T15
end
end Go.Proofs.Ytnjgjhjilolanaa
/- Layer 18: a search through a graph, in memory: its last frame, what its maps tell. -/
namespace Go.Proofs.Ytnjgjhjilolanaa
open Go.RowKit Go.Shelf
set_option linter.unusedVariables false
set_option maxRecDepth 20000
attribute [local go_sem] row_alloc row_drew row_drewN row_ext row_setCell row_setRow size_ext setRow_alloc setRow_drew loadOf storeOf piece_lit loadVal_at storeVal_at allOne_lit buildOf buildRes_some
attribute [local go_sem high] cell_alloc frozen_alloc setCell_alloc cell_ext frozen_ext cell_setRow frozen_setRow
attribute [local go_sem ↓] TDeed_ld0 TDeed_st0 TDeed_fd0 TDeed_bd0
attribute [local go_sem] TDeed_size TDeed_one TDeed_piece TDeed_c0 TDeed_c1 TDeed_c2 TDeed_c3 TDeed_c4 TDeed_c5 TDeed_set_kind TDeed_set_key TDeed_set_val TDeed_set_ver TDeed_set_ses TDeed_set_num TDeed_ld TDeed_st TDeed_f_kind TDeed_f_key TDeed_f_val TDeed_f_ver TDeed_f_ses TDeed_f_num TDeed_bd TDeed_fl TDeed_fl_kind TDeed_fl_key TDeed_fl_val TDeed_fl_ver TDeed_fl_ses TDeed_fl_num
attribute [local go_sem high] TDeed_eql TDeed_neq
attribute [local go_sem ↓] index_deps0 load_deps0 store_deps0
attribute [local go_sem] DV_piece DV_size DV_one index_deps load_deps store_deps
attribute [local go_sem high] TDeps_eql TDeps_neq
attribute [local go_sem ↓] TCall_ld0 TCall_st0 TCall_fd0 TCall_bd0
attribute [local go_sem] TCall_size TCall_one TCall_piece TCall_c0 TCall_c1 TCall_c2 TCall_c3 TCall_c4 TCall_c5 TCall_c6 TCall_c7 TCall_c8 TCall_c9 TCall_c10 TCall_c11 TCall_c12 TCall_c13 TCall_p_deed TCall_put_deed TCall_p_deps TCall_put_deps TCall_set_seq TCall_ld TCall_st TCall_f_deed TCall_f_deps TCall_f_seq TCall_bd TCall_fl TCall_fl_deed TCall_fl_deps TCall_fl_seq
attribute [local go_sem high] TCall_eql TCall_neq
attribute [local go_sem ↓] TItem_ld0 TItem_st0 TItem_fd0 TItem_bd0
attribute [local go_sem] TItem_size TItem_one TItem_piece TItem_c0 TItem_c1 TItem_set_rep TItem_set_num TItem_ld TItem_st TItem_f_rep TItem_f_num TItem_bd TItem_fl TItem_fl_rep TItem_fl_num
attribute [local go_sem high] TItem_eql TItem_neq
noncomputable def valN (f : Item → Option Int) (x : Item) : Int := (f x).getD 0
noncomputable def valB (f : Item → Option Bool) (x : Item) : Bool := (f x).getD false
theorem itm_at {W : World} {g o : Nat} {x : Item} (h0 : W.cell? ⟨g, o, none⟩ = some (.int .i64 x.rep)) (h1 : W.cell? ⟨g, o + 1, none⟩ = some (.int .i64 x.num)) : loadVal Try.prog 35 2 W (.pointer (some ⟨g, o, none⟩)) = .ok (.agg (IV x)) W := by
  rw [← load_val TItem_und rfl (by kernel_rfl)]
  refine loadAt_cells W _ _ (fun i v hv => ?_) TItem_und rfl (by kernel_rfl)
  rw [add_none]
  have hi : i < 2 := (Array.getElem?_eq_some_iff.1 hv).1
  match i, hi with
  | 0, _ => rw [Nat.add_zero, h0]; exact hv
  | 1, _ => rw [h1]; exact hv
section
variable {w W : World} {F : Nat → Prop} {R : List Res} {b n c : Nat}
theorem Sts.lookN {f : Item → Option Int} (T : Sts w F W (numR b n c f :: R)) (x : Item) (hx : InI x) : (Instr.lookup 64 (.map (some b)) (.agg (IV x)) false).run Try.prog W = .ok (.int .i64 (valN f x)) W := by
  have h := T.mapC.is.look1 itemOk Try.underlying64 zeroN x hx
  rw [h]
  unfold valN
  cases f x <;> rfl
theorem Sts.lookNs {f : Item → Option Int} (T : Sts w F W (numR b n c f :: R)) (x : Item) (hx : InI x) : (Instr.lookup 64 (.map (some b)) (.agg (IV x)) true).run Try.prog W = .ok (.tuple #[.int .i64 (valN f x), .bool (f x).isSome]) W := by
  have h := T.mapC.is.look itemOk Try.underlying64 zeroN x hx
  rw [h]
  unfold valN
  cases f x <;> rfl
theorem Sts.lookB {f : Item → Option Bool} (T : Sts w F W (bitR b n c f :: R)) (x : Item) (hx : InI x) : (Instr.lookup 29 (.map (some b)) (.agg (IV x)) false).run Try.prog W = .ok (.bool (valB f x)) W := by
  have h := T.mapC.is.look1 itemOk Try.underlying29 zeroB x hx
  rw [h]
  unfold valB
  cases f x <;> rfl
theorem Sts.frShut3 {v : Value} {gv : List (Item × Value × List Item)} {x : Item} {u : Value} {l : List Item} (T : Sts w F W (vecR 105 3 v (gv ++ [(x, u, l)]).length (vl FV (gv ++ [(x, u, l)])) :: packR (gv.map (fun f => cutR f.2.1 f.2.2)) :: cutR u l :: R)) : Sts w F W (frR v (gv.map (fun f => (f.1, f.2.2)) ++ [(x, l)]) :: R) := by
  have T1 := T.unpack1
  have h : gv.map (fun f => (f.1, f.2.2)) ++ [(x, l)] = (gv ++ [(x, u, l)]).map (fun f => (f.1, f.2.2)) := by simp
  rw [h]
  refine Sts.frShut ?_
  rw [List.map_append, List.append_assoc]
  exact T1
/-- The last frame. -/
theorem Sts.frLast {v : Value} {frs : List (Item × List Item)} {x : Item} {l : List Item} (T : Sts w F W (frR v (frs ++ [(x, l)]) :: R)) : ∃ (gv : List (Item × Value × List Item)) (u : Value), gv.map (fun f => (f.1, f.2.2)) = frs ∧ Sts w F W (vecR 105 3 v (gv ++ [(x, u, l)]).length (vl FV (gv ++ [(x, u, l)])) :: packR (gv.map (fun f => cutR f.2.1 f.2.2)) :: cutR u l :: R) := by
  obtain ⟨fv, h, T1⟩ := T.frOpen
  clear T
  obtain ⟨gv, lv, rfl, h1, h2⟩ := List.map_eq_append_iff.1 h
  obtain ⟨⟨x', u, l'⟩, rfl, h3⟩ : ∃ f, lv = [f] ∧ (f.1, f.2.2) = (x, l) := by
    match lv, h2 with
    | [f], h2 => simp at h2; exact ⟨f, rfl, by ext1 <;> simp [h2]⟩
  simp only [Prod.mk.injEq] at h3
  obtain ⟨rfl, rfl⟩ := h3
  refine ⟨gv, u, h1, ?_⟩
  rw [List.map_append, List.append_assoc] at T1
  exact Sts.pack1 T1
theorem Sts.frTop {v : Value} {gv : List (Item × Value × List Item)} {x : Item} {u : Value} {l : List Item} (T : Sts w F W (vecR 105 3 v (gv ++ [(x, u, l)]).length (vl FV (gv ++ [(x, u, l)])) :: R)) : ∃ g c, v = .slice (some ⟨g, 0, none⟩) (gv.length + 1) c ∧ gv.length + 1 ≤ c := by
  rcases T.vec.2 with ⟨_, h⟩ | ⟨g, cap, cur, h, _, _, h2, _⟩
  · simp at h
  · exact ⟨g, cap, by rw [h]; simp, by simpa using h2⟩
theorem Sts.frCells {gv : List (Item × Value × List Item)} {x : Item} {u : Value} {l : List Item} {g k cp : Nat} (T : Sts w F W (vecR 105 3 (.slice (some ⟨g, 0, none⟩) k cp) (gv ++ [(x, u, l)]).length (vl FV (gv ++ [(x, u, l)])) :: R)) :
    g < W.heap.size ∧ loadVal Try.prog 35 2 W (.pointer (some ⟨g, gv.length * 3, none⟩)) = .ok (.agg (IV x)) W ∧ W.cell? ⟨g, gv.length * 3 + 2, none⟩ = some u := by
  have hl : gv.length < (gv ++ [(x, u, l)]).length := by simp
  obtain ⟨g', c', hv, hlt, hc⟩ := vec_cell FV_size T (by omega) hl
  injection hv with e1 e2 e3
  injection e1 with e1
  injection e1 with e1
  subst e1
  rw [List.getElem_append_right (Nat.le_refl _)] at hc
  simp only [Nat.sub_self, List.getElem_cons_zero] at hc
  exact ⟨hlt, itm_at (hc 0 _ rfl) (hc 1 _ rfl), hc 2 _ rfl⟩
/-- What is left of a frame turns. -/
theorem Sts.frSet {gv : List (Item × Value × List Item)} {x : Item} {u : Value} {l : List Item} {g k cp : Nat} (u' : Value) (l' : List Item) (T : Sts w F W (vecR 105 3 (.slice (some ⟨g, 0, none⟩) k cp) (gv ++ [(x, u, l)]).length (vl FV (gv ++ [(x, u, l)])) :: R)) :
    W.frozen? ⟨g, gv.length * 3 + 2, none⟩ = false ∧ Sts w F (W.setCell ⟨g, gv.length * 3 + 2, none⟩ u') (vecR 105 3 (.slice (some ⟨g, 0, none⟩) k cp) (gv ++ [(x, u', l')]).length (vl FV (gv ++ [(x, u', l')])) :: R) := by
  have hl : gv.length < (gv ++ [(x, u, l)]).length := by simp
  obtain ⟨g', c', cur, hv, hr, hs, hx⟩ := vec_at FV_size T (by omega) hl
  obtain ⟨g2, c2, hv2, hlt, hc⟩ := vec_cell FV_size T (by omega) hl
  injection hv with e1 e2 e3
  injection e1 with e1
  injection e1 with e1
  subst e1
  injection hv2 with e1 e2 e3
  injection e1 with e1
  injection e1 with e1
  subst e1
  rw [List.getElem_append_right (Nat.le_refl _)] at hc
  simp only [Nat.sub_self, List.getElem_cons_zero] at hc
  refine ⟨row_frozen hr _, ?_⟩
  have h0 := (row_cell hr _).symm.trans (hc 0 _ rfl)
  have h1 := (row_cell hr _).symm.trans (hc 1 _ rfl)
  have T1 := hx (x, u', l')
  have hset : (gv ++ [(x, u, l)]).set gv.length (x, u', l') = gv ++ [(x, u', l')] := by
    rw [List.set_append_right _ _ (Nat.le_refl _)]
    simp
  rw [hset] at T1
  have hsp : splice cur (gv.length * 3) (FV (x, u', l')) = cur.setIfInBounds (gv.length * 3 + 2) u' := by
    refine append_of_gets (by rw [splice_size]; simp) fun i hi => ?_
    simp only [Array.size_setIfInBounds] at hi
    rw [splice_get, FV_size]
    by_cases h : gv.length * 3 ≤ i ∧ i < gv.length * 3 + 3 ∧ i < cur.size
    · rw [if_pos h]
      obtain rfl | rfl | rfl : i = gv.length * 3 ∨ i = gv.length * 3 + 1 ∨ i = gv.length * 3 + 2 := by omega
      · rw [Array.getElem?_setIfInBounds_ne (by omega)]
        simp only [Nat.add_zero] at h0
        rw [h0]; simp [FV]
      · rw [Array.getElem?_setIfInBounds_ne (by omega), h1]; simp [FV]
      · rw [Array.getElem?_setIfInBounds_self_of_lt (by omega)]; simp [FV]
    · rw [if_neg h, Array.getElem?_setIfInBounds_ne (by omega)]
  rw [hsp, ← setCell_row W g _ u' cur hr] at T1
  rw [List.length_append] at T1 ⊢
  exact T1
end
/-- A frame's low is told to the one below it. -/
noncomputable def upM (lo : Item → Option Int) (frs : List (Item × List Item)) (x : Item) : Item → Option Int :=
  match frs.getLast? with
  | none => lo
  | some u => putF lo u.1 (min (valN lo u.1) (valN lo x))
theorem upM_nil (lo : Item → Option Int) (x : Item) : upM lo [] x = lo := rfl
theorem upM_snoc (lo : Item → Option Int) (frs : List (Item × List Item)) (u : Item × List Item) (x : Item) : upM lo (frs ++ [u]) x = putF lo u.1 (min (valN lo u.1) (valN lo x)) := by
  unfold upM
  rw [List.getLast?_concat]
noncomputable def popM (m : RowsMK) (S : WS) (frs : List (Item × List Item)) (x : Item) : WS :=
  if valN (upM S.lo frs x) x = valN S.ix x then partM m x { S with fr := frs, lo := upM S.lo frs x } else { S with fr := frs, lo := upM S.lo frs x }
noncomputable def nextM (m : RowsMK) (q : RowsML) (S : WS) (frs : List (Item × List Item)) (x y : Item) (l : List Item) : WS :=
  let S1 := { S with fr := frs ++ [(x, l)] }
  if (getMK m y).isSome then
    match S.ix y with
    | none => pushM m q y S1
    | some at_ => if valB S.on y then { S1 with lo := putF S.lo x (min (valN S.lo x) at_) } else S1
  else if idxN y S.mi < S.mi.length then S1 else { S1 with mi := S.mi ++ [y] }
end Go.Proofs.Ytnjgjhjilolanaa
