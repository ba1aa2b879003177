/- Several texts in one. -/
import Derived.Test.YtnjgjhjilolanaaH13
import Derived.Sort.AssemblyPlain
import Derived.Lib.BitFns
/- Layer 18: a search through a graph, in memory; an item is gone over. -/
namespace Go.Proofs.Ytnjgjhjilolanaa
open Go.RowKit Go.Shelf
set_option linter.unusedVariables false
set_option maxRecDepth 20000
attribute [local go_sem] row_alloc row_drew row_drewN row_ext row_setCell row_setRow size_ext setRow_alloc setRow_drew loadOf storeOf piece_lit loadVal_at storeVal_at allOne_lit buildOf buildRes_some
attribute [local go_sem high] cell_alloc frozen_alloc setCell_alloc cell_ext frozen_ext cell_setRow frozen_setRow
attribute [local go_sem ↓] TDeed_ld0 TDeed_st0 TDeed_fd0 TDeed_bd0
attribute [local go_sem] TDeed_size TDeed_one TDeed_piece TDeed_c0 TDeed_c1 TDeed_c2 TDeed_c3 TDeed_c4 TDeed_c5 TDeed_set_kind TDeed_set_key TDeed_set_val TDeed_set_ver TDeed_set_ses TDeed_set_num TDeed_ld TDeed_st TDeed_f_kind TDeed_f_key TDeed_f_val TDeed_f_ver TDeed_f_ses TDeed_f_num TDeed_bd TDeed_fl TDeed_fl_kind TDeed_fl_key TDeed_fl_val TDeed_fl_ver TDeed_fl_ses TDeed_fl_num
attribute [local go_sem high] TDeed_eql TDeed_neq
attribute [local go_sem ↓] index_deps0 load_deps0 store_deps0
attribute [local go_sem] DV_piece DV_size DV_one index_deps load_deps store_deps
attribute [local go_sem high] TDeps_eql TDeps_neq
attribute [local go_sem ↓] TCall_ld0 TCall_st0 TCall_fd0 TCall_bd0
attribute [local go_sem] TCall_size TCall_one TCall_piece TCall_c0 TCall_c1 TCall_c2 TCall_c3 TCall_c4 TCall_c5 TCall_c6 TCall_c7 TCall_c8 TCall_c9 TCall_c10 TCall_c11 TCall_c12 TCall_c13 TCall_p_deed TCall_put_deed TCall_p_deps TCall_put_deps TCall_set_seq TCall_ld TCall_st TCall_f_deed TCall_f_deps TCall_f_seq TCall_bd TCall_fl TCall_fl_deed TCall_fl_deps TCall_fl_seq
attribute [local go_sem high] TCall_eql TCall_neq
attribute [local go_sem ↓] TItem_ld0 TItem_st0 TItem_fd0 TItem_bd0
attribute [local go_sem] TItem_size TItem_one TItem_piece TItem_c0 TItem_c1 TItem_set_rep TItem_set_num TItem_ld TItem_st TItem_f_rep TItem_f_num TItem_bd TItem_fl TItem_fl_rep TItem_fl_num
attribute [local go_sem high] TItem_eql TItem_neq
attribute [local go_sem ↓] itm_slice0
attribute [local go_sem] itm_slice1
theorem frm_slice0 (len : Nat) (parts : Array (Nat × Value)) : Instr.buildSlice 80 len parts = buildSem 80 len parts := rfl
theorem frm_slice1 (w : World) (X : Array Value) (h : X.size = 3) : (buildSem 80 1 #[(0, .agg X)]).run Try.prog w = .ok (.slice (some ⟨w.heap.size, 0, none⟩) 1 1) (w.alloc (.cells X 105)) :=
  build_slice1 Try.underlying80 (z := .agg #[.int .i64 0, .int .i64 0, .slice none 0 0]) (n := 3) (by kernel_rfl) (by omega) w h (by omega)
theorem frm_i : ∃ i, Try.prog.info? 105 = some i ∧ i.zero = some (.agg #[.int .i64 0, .int .i64 0, .slice none 0 0]) ∧ i.size = 3 ∧ i.bytes = 40 := by
  have h : (Try.prog.info? 105).map (fun i => (i.zero, i.size, i.bytes)) = some (some (.agg #[.int .i64 0, .int .i64 0, .slice none 0 0]), 3, 40) := by kernel_rfl
  cases hi : Try.prog.info? 105 with
  | none => rw [hi] at h; simp at h
  | some i => rw [hi] at h; simp at h; exact ⟨i, rfl, h.1, h.2.1, h.2.2⟩
theorem frm_build0 (p : Array (Nat × Value)) : Instr.build 105 p = buildS 105 p := rfl
theorem frm_build (w : World) (x : Item) (A : Option Addr) (n c : Nat) : (buildS 105 #[(0, .agg (IV x)), (1, .slice A n c)]).run Try.prog w = .ok (.agg #[.int .i64 x.rep, .int .i64 x.num, .slice A n c]) w := by
  unfold IV
  kernel_rfl
attribute [local go_sem ↓] frm_slice0 frm_build0
attribute [local go_sem] frm_build
theorem neMap {w W : World} {F : Nat → Prop} {R : List Res} {α β : Type} {P : Program} {k : TypeId} {kv : α → Value} {ev : β → Value} {ok : α → Prop} {b n c g : Nat} {f : α → Option β} {X : Array Value} (T : Sts w F W (mapCR P k kv ev ok b n c f :: R)) (hr : row? W g = some X) : g ≠ b := by
  obtain ⟨D, ⟨es, clock, hb, -⟩, -⟩ := T.mapC
  rintro rfl
  unfold row? at hr
  rw [hb] at hr
  simp at hr
section
variable {w W : World} {F : Nat → Prop} {R : List Res} {b gc gd : Nat} {m : RowsMK} {q : RowsML}
set_option maxHeartbeats 16000000 in
theorem grPushT {wk N : Nat} {A : WA} {S : WS} (hA : A.le N) (hN : N + 1 < maxLen) (hst : S.st.length ≤ 1000000) (hfr : S.fr.length ≤ 1000000) (hm : 0 ≤ m.n ∧ m.n ≤ 7) (hq : 0 ≤ q.n ∧ q.n ≤ 7) (x : Item) (hx : InI x) (hd : ∀ i, i < 7 → ((getMK m x).getD noCall).deps i ≤ 64)
    (T : Sts w F W (wkL wk b A S ++ (grL b gc gd m q ++ R))) :
    Calls Try.prog 43 #[.pointer (some ⟨wk, 0, none⟩), .agg (IV x)] W fun e W' => e = .returned (.tuple #[]) ∧ ∃ A', A'.le (N + 1) ∧ Sts w F W' (wkL wk b A' (pushM m q x S) ++ (grL b gc gd m q ++ R)) := by
  obtain ⟨bi, bl, bo, n1, n2, c2, n3, c3, vs, vf, vp, vm⟩ := A
  obtain ⟨ix, ci, lo, on, st, fr, pa, mi⟩ := S
  obtain ⟨hA1, hA2, hA3⟩ := hA
  dsimp only at hst hfr hA1 hA2 hA3
  have T : Sts w F W (rowR wk (wkC b bi bl bo vs vf vp vm) :: numR bi n1 ci ix :: numR bl n2 c2 lo :: bitR bo n3 c3 on :: vecR 35 2 vs st.length (vl IV st) :: frR vf fr :: paR vp pa :: vecR 35 2 vm mi.length (vl IV mi) :: (grL b gc gd m q ++ R)) := T
  generalize hRR : paR vp pa :: vecR 35 2 vm mi.length (vl IV mi) :: (grL b gc gd m q ++ R) = RR at *
  have HRR := Lib.hid hRR; clear hRR
  have T1 := (T.new (IV x) 35).ord [1, 0]
  have HT := Lib.hid T1
  clear T T1
  have HX := Lib.hid hx; clear hx
  go_enter Try.func43, Try.ntmps43
  go_upto_region 1 with fail
  generalize hw3 : W.alloc _ = w3 at *
  generalize W.heap.size = gx at *
  clear hw3
  have FS : ∀ W' X R', Sts w F W' (rowR wk X :: rowR gx (IV x) :: R') → X[1]? = some (.map (some bi)) → X[2]? = some (.map (some bl)) → (W'.cell? ⟨wk, 1, none⟩ = some (.map (some bi)) ∧ W'.cell? ⟨wk, 2, none⟩ = some (.map (some bl)) ∧ row? W' gx = some (IV x)) := fun W' X R' T h1 h2 => ⟨by rw [row_cell T.row 1, h1], by rw [row_cell T.row 2, h2], T.row1⟩
  have HT0 := Lib.hid HT.out.drew
  have HFS := Lib.hid FS
  have hlen : ∀ W' R', Sts w F W' (numR bi n1 ci ix :: R') → (Builtin.len_ #[64] 3 #[.map (some bi)]).run Try.prog W' = .ok (.int .i64 ci) W' := fun W' R' T => T.mapC.len Try.underlying64 _
  have S0 : (fun W' : World => W'.cell? ⟨wk, 1, none⟩ = some (.map (some bi)) ∧ W'.cell? ⟨wk, 2, none⟩ = some (.map (some bl)) ∧ row? W' gx = some (IV x) ∧ (Builtin.len_ #[64] 3 #[.map (some bi)]).run Try.prog W' = .ok (.int .i64 ci) W') w3.drew := ⟨(HFS.out _ _ _ HT0.out rfl rfl).1, (HFS.out _ _ _ HT0.out rfl rfl).2.1, (HFS.out _ _ _ HT0.out rfl rfl).2.2, hlen _ _ (HT0.out.ord [2, 0, 1])⟩
  have hm0 : ∀ W' : World, (W'.cell? ⟨wk, 1, none⟩ = some (.map (some bi)) ∧ W'.cell? ⟨wk, 2, none⟩ = some (.map (some bl)) ∧ row? W' gx = some (IV x) ∧ (Builtin.len_ #[64] 3 #[.map (some bi)]).run Try.prog W' = .ok (.int .i64 ci) W') → (W'.cell? ⟨wk, 1, none⟩ = some (.map (some bi)) ∧ W'.cell? ⟨wk, 2, none⟩ = some (.map (some bl)) ∧ row? W' gx = some (IV x)) := fun _ h => ⟨h.1, h.2.1, h.2.2.1⟩
  have HM := Lib.hid hm0
  clear FS hlen hm0 HT
  refine wp_region_stage (fun W' => W'.cell? ⟨wk, 1, none⟩ = some (.map (some bi)) ∧ W'.cell? ⟨wk, 2, none⟩ = some (.map (some bl)) ∧ row? W' gx = some (IV x) ∧ (Builtin.len_ #[64] 3 #[.map (some bi)]).run Try.prog W' = .ok (.int .i64 ci) W') (fun W' => W'.cell? ⟨wk, 1, none⟩ = some (.map (some bi)) ∧ W'.cell? ⟨wk, 2, none⟩ = some (.map (some bl)) ∧ row? W' gx = some (IV x)) 20 (by kernel_rfl) S0 (fun hHeld => ?_)
  clear S0
  refine tk1 0 HM.out rfl ?_
  simp only [Act.put, List.setIfInBounds_toArray, List.set_cons_zero, List.set_cons_succ]
  refine tk1 1 HM.out rfl ?_
  go_frame
  refine tk1 2 HM.out rfl ?_
  go_frame
  refine tk0 3 rfl ?_
  simp only [Act.put, List.setIfInBounds_toArray, List.set_cons_zero, List.set_cons_succ]
  refine tk0 4 rfl ?_
  go_frame
  refine tk1 5 HM.out rfl ?_
  simp only [Act.put, List.setIfInBounds_toArray, List.set_cons_zero, List.set_cons_succ]
  refine tk1 6 HM.out rfl ?_
  go_frame
  refine tk1 7 HM.out rfl ?_
  go_frame
  refine tk0 8 rfl ?_
  simp only [Act.put, List.setIfInBounds_toArray, List.set_cons_zero, List.set_cons_succ]
  refine tk1 9 HM.out rfl ?_
  simp only [Act.put, List.setIfInBounds_toArray, List.set_cons_zero, List.set_cons_succ]
  refine tk1 10 HM.out rfl ?_
  go_frame
  refine tk1 11 HM.out rfl ?_
  go_frame
  refine tk1 12 HM.out rfl ?_
  go_frame
  refine tk1 13 HM.out rfl ?_
  go_frame
  refine tk0 14 rfl ?_
  simp only [Act.put, List.setIfInBounds_toArray, List.set_cons_zero, List.set_cons_succ]
  refine tk1 15 HM.out rfl ?_
  simp only [Act.put, List.setIfInBounds_toArray, List.set_cons_zero, List.set_cons_succ]
  refine tk1 16 HM.out rfl ?_
  go_frame
  refine tk1 17 HM.out rfl ?_
  go_frame
  refine tk0 18 rfl ?_
  simp only [Act.put, List.setIfInBounds_toArray, List.set_cons_zero, List.set_cons_succ]
  refine tk0 19 rfl ?_
  go_frame
  generalize w3.drew = w4 at *
  have T1 := HT0.out.ord [2, 0, 1]
  have rk := T1.row1; have rx := T1.row2
  have nk := neMap T1 rk; have nx := neMap T1 rx
  obtain ⟨e0, s0, w5, w6, h5, h6, T2, hsz, hoth, hsz5⟩ := mapC_entry T1 itemOk itemKL Try.underlying64 zeroN (by omega) x HX.out (ci : Int)
  have rk5 := row_other hoth rk nk; have rx5 := row_other hoth rx nx
  have S5 : w5.cell? ⟨wk, 1, none⟩ = some (.map (some bi)) ∧ w5.cell? ⟨wk, 2, none⟩ = some (.map (some bl)) ∧ row? w5 gx = some (IV x) := ⟨row_cell rk5 1, row_cell rk5 2, rx5⟩
  have HS5 := Lib.hid S5; have HT2 := Lib.hid T2; have H6 := Lib.hid h6
  clear S5 T1 T2 rk rx nk nx rk5 rx5 HT0 hoth h6 hsz hsz5
  refine wpAnyL_ready (rs := [20]) (by kernel_rfl) (by simp) ?_
  refine AllReadyL.cons1 (o := _) rfl (by kernel_rfl) (fun K hK => ?_) AllReadyL.nil
  go_simp
  refine hK.out _ _ HS5.out (fun hHeld => ?_)
  clear hK K HS5 h5
  refine tk2 21 HM.out rfl ?_
  simp only [Act.put, List.setIfInBounds_toArray, List.set_cons_zero, List.set_cons_succ]
  have T2 := HT2.out
  have rk := T2.row1; have rx := T2.row2
  have S5 : w6.cell? ⟨wk, 1, none⟩ = some (.map (some bi)) ∧ w6.cell? ⟨wk, 2, none⟩ = some (.map (some bl)) ∧ row? w6 gx = some (IV x) := ⟨row_cell rk 1, row_cell rk 2, rx⟩
  have HS5 := Lib.hid S5
  have h6 := H6.out
  clear S5 H6
  refine wpAnyL_ready (rs := [22]) (by kernel_rfl) (by simp) ?_
  refine AllReadyL.cons1 (o := _) rfl (by kernel_rfl) (fun K hK => ?_) AllReadyL.nil
  go_simp
  refine hK.out _ _ HS5.out (fun hHeld => ?_)
  clear hK K HS5 h6
  have T3 := T2.ord [3, 1, 2, 0]
  have nk := neMap T3 rk; have nx := neMap T3 rx
  obtain ⟨e1, s1, w7, w8, h7, h8, T4, hsz, hoth, hsz5⟩ := mapC_entry T3 itemOk itemKL Try.underlying64 zeroN (by omega) x HX.out (ci : Int)
  have rk5 := row_other hoth rk nk; have rx5 := row_other hoth rx nx
  have S5 : w7.cell? ⟨wk, 1, none⟩ = some (.map (some bi)) ∧ w7.cell? ⟨wk, 2, none⟩ = some (.map (some bl)) ∧ row? w7 gx = some (IV x) := ⟨row_cell rk5 1, row_cell rk5 2, rx5⟩
  have HS5 := Lib.hid S5; have HT4 := Lib.hid T4; have H8 := Lib.hid h8
  clear S5 T2 T3 T4 rk rx nk nx rk5 rx5 HT2 hoth h8 hsz hsz5
  refine wpAnyL_ready (rs := [23]) (by kernel_rfl) (by simp) ?_
  refine AllReadyL.cons1 (o := _) rfl (by kernel_rfl) (fun K hK => ?_) AllReadyL.nil
  go_simp
  refine hK.out _ _ HS5.out (fun hHeld => ?_)
  clear hK K HS5 h7
  refine tk2 24 HM.out rfl ?_
  simp only [Act.put, List.setIfInBounds_toArray, List.set_cons_zero, List.set_cons_succ]
  have T4 := HT4.out
  have rk := T4.row1; have rx := T4.row2
  have S5 : w8.cell? ⟨wk, 1, none⟩ = some (.map (some bi)) ∧ w8.cell? ⟨wk, 2, none⟩ = some (.map (some bl)) ∧ row? w8 gx = some (IV x) := ⟨row_cell rk 1, row_cell rk 2, rx⟩
  have HS5 := Lib.hid S5
  have h8 := H8.out
  clear S5 H8 rk rx HT4
  refine wpAnyL_ready (rs := [25]) (by kernel_rfl) (by simp) ?_
  refine AllReadyL.cons1 (o := _) rfl (by kernel_rfl) (fun K hK => ?_) AllReadyL.nil
  go_simp
  refine hK.out _ _ HS5.out (fun hHeld => ?_)
  clear hK K HS5 h8
  refine wpAnyL_done (by kernel_rfl) ?_ _
  simp only [Exit.then]
  have HT := Lib.hid (T4.ord [1, 2, 4, 3, 0]); clear T4 HM HFS
  go_upto_region 2 with fail
  have FS : ∀ W' X R', Sts w F W' (rowR wk X :: rowR gx (IV x) :: R') → X[3]? = some (.map (some bo)) → (W'.cell? ⟨wk, 3, none⟩ = some (.map (some bo)) ∧ row? W' gx = some (IV x)) := fun W' X R' T h1 => ⟨by rw [row_cell T.row 3, h1], T.row1⟩
  have HFS := Lib.hid FS
  have HT0 := Lib.hid HT.out.drew
  have S0 := HFS.out _ _ _ HT0.out rfl
  clear HT FS
  refine wp_region_held_drew (S := fun W' => (W'.cell? ⟨wk, 3, none⟩ = some (.map (some bo)) ∧ row? W' gx = some (IV x))) (by kernel_rfl) S0 (fun hHeld => ?_)
  clear S0
  refine tkH 0 rfl ?_
  simp only [Act.put, List.setIfInBounds_toArray, List.set_cons_zero, List.set_cons_succ]
  refine tkH 1 rfl ?_
  go_frame
  refine tkH 2 rfl ?_
  go_frame
  refine tkH 3 rfl ?_
  go_frame
  refine tkH 4 rfl ?_
  go_frame
  generalize w8.drew = w9 at *
  obtain ⟨w10, h10, T10, hsz⟩ := (HT0.out.ord [2, 0, 1]).mapCPut itemOk Try.underlying29 (by omega) x HX.out true
  have HT10 := Lib.hid (T10.ord [1, 2, 0]); clear T10 HT0 hsz
  refine wpAnyH_ready (rs := [5]) (by kernel_rfl) (by simp) ?_
  refine AllReadyH.cons (o := _) rfl (fun K hK => ?_) AllReadyH.nil
  go_simp
  refine hK.out _ _ (HFS.out _ _ _ HT10.out rfl) (fun hHeld => ?_)
  clear hK K HFS h10
  refine wpAnyH_done (by kernel_rfl) ?_ _
  simp only [Exit.then]
  have HT := HT10; clear HT10
  go_upto_region 3 with fail
  have FS : ∀ W' X R', Sts w F W' (rowR wk X :: rowR gx (IV x) :: R') → X[4]? = some vs → (W'.cell? ⟨wk, 4, none⟩ = some vs ∧ row? W' gx = some (IV x)) := fun W' X R' T h1 => ⟨by rw [row_cell T.row 4, h1], T.row1⟩
  have HFS := Lib.hid FS
  have HT0 := Lib.hid HT.out.drew
  have S0 := HFS.out _ _ _ HT0.out rfl
  have HM := Lib.hid (show ∀ W' : World, (W'.cell? ⟨wk, 4, none⟩ = some vs ∧ row? W' gx = some (IV x)) → True from fun _ _ => trivial)
  clear HT FS
  refine wp_region_stage (fun W' => (W'.cell? ⟨wk, 4, none⟩ = some vs ∧ row? W' gx = some (IV x))) (fun _ => True) 10 (by kernel_rfl) S0 (fun hHeld => ?_)
  clear S0
  refine tk0 0 rfl ?_
  simp only [Act.put, List.setIfInBounds_toArray, List.set_cons_zero, List.set_cons_succ]
  refine tk0 1 rfl ?_
  go_frame
  refine tk0 2 rfl ?_
  go_frame
  refine tk0 3 rfl ?_
  go_frame
  refine tk0 4 rfl ?_
  go_frame
  refine tk0 5 rfl ?_
  go_frame
  generalize w10.drew = w11 at *
  refine wpAnyL_ready (rs := [6]) (by kernel_rfl) (by simp) ?_
  refine AllReadyL.cons0 (o := _) rfl (by kernel_rfl) (fun K hK => ?_) AllReadyL.nil
  have Ta := HT0.out.new (IV x) 35
  have HTa := Lib.hid Ta; clear Ta HT0
  go_simp
  refine hK.out _ _ ?_ (fun hHeld => ?_)
  · exact HFS.out _ _ _ HTa.out.drop rfl
  clear hK K
  refine wpAnyL_ready (rs := [7]) (by kernel_rfl) (by simp) ?_
  refine AllReadyL.cons0 (o := _) rfl (by kernel_rfl) (fun K hK => ?_) AllReadyL.nil
  have Tb := HTa.out.ord [6, 0, 1, 2, 3, 4, 5]
  clear HTa
  obtain ⟨i0, hi, hz0, hz1, hz2⟩ := itm_i
  have HOK := Lib.hid (itm_one x)
  refine step_append_vec (by rfl) _ _ _ (by rfl) 35 i0 _ 2 16 Try.underlying30 hi hz0 hz1 hz2 rfl (by omega) vs st.length (vl IV st) (by rfl) Tb ⟨w11.heap.size, 0, none⟩ 1 1 (IV x).toList (by rfl) (by rfl) (news_row Tb.row1) HOK.out (by omega) (by unfold maxLen; omega) (by omega) ?_
  intro gv' cap1 w12 T1
  have T1 := (T1.ord [2, 3, 0, 1])
  refine hK.out _ _ ?_ (fun hHeld => ?_)
  · exact HFS.out _ _ _ T1 rfl
  clear hK K Tb HOK
  refine tk1 8 HM.out rfl ?_
  simp only [Act.put, List.getElem_toArray, List.getElem_cons_succ, List.getElem_cons_zero, List.setIfInBounds_toArray, List.set_cons_zero, List.set_cons_succ]
  refine tk0 9 rfl ?_
  simp only [Act.put, List.setIfInBounds_toArray, List.set_cons_zero, List.set_cons_succ]
  have hf := row_frozen T1.row 4
  have T2 := T1.setCell 4 (.slice (some ⟨gv', 0, none⟩) (st.length + 1) cap1)
  have HT2 := Lib.hid T2; clear T1 T2
  refine wpAnyL_ready (rs := [10]) (by kernel_rfl) (by simp) ?_
  refine AllReadyL.cons1 (o := _) rfl (by kernel_rfl) (fun K hK => ?_) AllReadyL.nil
  go_simp
  refine hK.out _ _ trivial (fun hHeld => ?_)
  clear hK K hf HFS HM
  refine wpAnyL_done (by kernel_rfl) ?_ _
  simp only [Exit.then]
  have T3a := (HT2.out.ord [3, 0, 1, 2]).drop
  have T3 : Sts w F (w12.setCell ⟨wk, 4, none⟩ (.slice (some ⟨gv', 0, none⟩) (st.length + 1) cap1)) (rowR wk (wkC b bi bl bo (.slice (some ⟨gv', 0, none⟩) (st.length + 1) cap1) vf vp vm) :: rowR gx (IV x) :: vecR 35 2 (.slice (some ⟨gv', 0, none⟩) (st.length + 1) cap1) (st.length + 1) (vl IV st ++ (IV x).toList) :: bitR bo (n3 + 1) (if (on x).isSome then c3 else c3 + 1) (putF on x true) :: numR bi (n1 + 1) (if (ix x).isSome then ci else ci + 1) (putF ix x ci) :: numR bl (n2 + 1) (if (lo x).isSome then c2 else c2 + 1) (putF lo x ci) :: frR vf fr :: RR) := T3a
  clear HT2 T3a hi hz0 hz1 hz2
  rw [← HRR.out] at T3
  have HT := Lib.hid T3; clear T3 HRR
  generalize w12.setCell _ _ = w13 at *
  generalize Value.slice (some ⟨gv', 0, none⟩) (st.length + 1) cap1 = vs' at *
  go_upto_region 4 with fail
  have FS : ∀ W' X R', Sts w F W' (rowR wk X :: rowR gx (IV x) :: R') → X[5]? = some vf → (W'.cell? ⟨wk, 5, none⟩ = some vf ∧ row? W' gx = some (IV x)) := fun W' X R' T h1 => ⟨by rw [row_cell T.row 5, h1], T.row1⟩
  have HFS := Lib.hid FS
  have HT0 := Lib.hid HT.out.drew
  have S0 := HFS.out _ _ _ HT0.out rfl
  have HM := Lib.hid (show ∀ W' : World, (W'.cell? ⟨wk, 5, none⟩ = some vf ∧ row? W' gx = some (IV x)) → True from fun _ _ => trivial)
  clear HT FS
  refine wp_region_stage (fun W' => (W'.cell? ⟨wk, 5, none⟩ = some vf ∧ row? W' gx = some (IV x))) (fun _ => True) 14 (by kernel_rfl) S0 (fun hHeld => ?_)
  clear S0
  refine tk0 0 rfl ?_
  simp only [Act.put, List.setIfInBounds_toArray, List.set_cons_zero, List.set_cons_succ]
  refine tk0 1 rfl ?_
  go_frame
  refine tk0 2 rfl ?_
  go_frame
  refine tk0 3 rfl ?_
  go_frame
  refine tk0 4 rfl ?_
  go_frame
  refine tk0 5 rfl ?_
  go_frame
  refine tk0 6 rfl ?_
  go_frame
  refine tk0 7 rfl ?_
  go_frame
  generalize w13.drew = w14 at *
  refine wpAnyL_ready (rs := [8]) (by kernel_rfl) (by simp) ?_
  refine AllReadyL.cons0 (o := _) rfl (by kernel_rfl) (fun K hK => ?_) AllReadyL.nil
  go_simp
  have Tg : Sts w F w14 (rowR wk (wkC b bi bl bo vs' vf vp vm) :: rowR gx (IV x) :: vecR 35 2 vs' (st.length + 1) (vl IV st ++ (IV x).toList) :: bitR bo (n3 + 1) (if (on x).isSome then c3 else c3 + 1) (putF on x true) :: numR bi (n1 + 1) (if (ix x).isSome then ci else ci + 1) (putF ix x ci) :: numR bl (n2 + 1) (if (lo x).isSome then c2 else c2 + 1) (putF lo x ci) :: frR vf fr :: paR vp pa :: vecR 35 2 vm mi.length (vl IV mi) :: rowR b #[.pointer (some ⟨gc, 0, none⟩), .pointer (some ⟨gd, 0, none⟩)] :: rowsIRK gc m :: rowsIRL gd q :: R) := HT0.out
  have Tw := Tg.ord [0, 9, 10, 11, 1, 2, 3, 4, 5, 6, 7, 8]
  have HW := Lib.hid (grWaitsT (R := rowR gx (IV x) :: vecR 35 2 vs' (st.length + 1) (vl IV st ++ (IV x).toList) :: bitR bo (n3 + 1) (if (on x).isSome then c3 else c3 + 1) (putF on x true) :: numR bi (n1 + 1) (if (ix x).isSome then ci else ci + 1) (putF ix x ci) :: numR bl (n2 + 1) (if (lo x).isSome then c2 else c2 + 1) (putF lo x ci) :: frR vf fr :: paR vp pa :: vecR 35 2 vm mi.length (vl IV mi) :: R) wk (wkC b bi bl bo vs' vf vp vm) rfl hm hq x hd Tw)
  clear Tg
  clear Tw
  refine HW.out.mono ?_
  clear HW HT0
  rintro e w15 ⟨v, rfl, T⟩
  obtain ⟨A9, c9, rfl⟩ := vec_shape2 T
  have T : Sts w F w15 (vecR 35 2 (.slice A9 (waitsM m q x).length c9) (waitsM m q x).length (vl IV (waitsM m q x)) :: rowR wk (wkC b bi bl bo vs' vf vp vm) :: rowR b #[.pointer (some ⟨gc, 0, none⟩), .pointer (some ⟨gd, 0, none⟩)] :: rowsIRK gc m :: rowsIRL gd q :: rowR gx (IV x) :: vecR 35 2 vs' (st.length + 1) (vl IV st ++ (IV x).toList) :: bitR bo (n3 + 1) (if (on x).isSome then c3 else c3 + 1) (putF on x true) :: numR bi (n1 + 1) (if (ix x).isSome then ci else ci + 1) (putF ix x ci) :: numR bl (n2 + 1) (if (lo x).isSome then c2 else c2 + 1) (putF lo x ci) :: frR vf fr :: paR vp pa :: vecR 35 2 vm mi.length (vl IV mi) :: R) := T
  have T1 := T.ord [1, 5, 0, 2, 3, 4]
  have HT0 := Lib.hid T1
  clear T T1
  refine hK.out _ _ ?_ (fun hHeld => ?_)
  · exact HFS.out _ _ _ HT0.out rfl
  clear hK K
  refine tk0 9 rfl ?_
  simp only [Act.put, List.setIfInBounds_toArray, List.set_cons_zero, List.set_cons_succ]
  have Ta := HT0.out.new #[.int .i64 x.rep, .int .i64 x.num, .slice A9 (waitsM m q x).length c9] 105
  have hnw := Lib.hid (news_row Ta.row)
  have HTa := Lib.hid Ta; clear Ta HT0
  have hs1 := fun w : World => frm_slice1 w #[.int .i64 x.rep, .int .i64 x.num, .slice A9 (waitsM m q x).length c9] rfl
  refine wpAnyL_ready (rs := [10]) (by kernel_rfl) (by simp) ?_
  refine AllReadyL.cons0 (o := _) rfl (by kernel_rfl) (fun K hK => ?_) AllReadyL.nil
  go_simp
  refine hK.out _ _ ?_ (fun hHeld => ?_)
  · exact HFS.out _ _ _ HTa.out.drop rfl
  clear hK K hs1
  obtain ⟨fv, rfl, Tb⟩ := (HTa.out.ord [11, 0, 1, 2, 3, 4, 5, 6, 7, 8, 9, 10]).frOpen2
  clear HTa
  rw [List.length_map] at hfr
  refine wpAnyL_ready (rs := [11]) (by kernel_rfl) (by simp) ?_
  refine AllReadyL.cons0 (o := _) rfl (by kernel_rfl) (fun K hK => ?_) AllReadyL.nil
  obtain ⟨i0, hi, hz0, hz1, hz2⟩ := frm_i
  have HOK := Lib.hid (show ∀ u ∈ (FV (x, .slice A9 (waitsM m q x).length c9, waitsM m q x)).toList, u.oneCell' = true by simp [FV, Value.oneCell'])
  refine step_append_vec (by rfl) _ _ _ (by rfl) 105 i0 _ 3 40 Try.underlying80 hi hz0 hz1 hz2 rfl (by omega) vf fv.length (vl FV fv) (by rfl) Tb ⟨w15.heap.size, 0, none⟩ 1 1 (FV (x, .slice A9 (waitsM m q x).length c9, waitsM m q x)).toList (by rfl) (by rfl) hnw.out HOK.out (by omega) (by unfold maxLen; omega) (by omega) ?_
  intro gf' capf w16 T1
  have T1 := (T1.ord [3, 4, 0, 1, 5, 2])
  refine hK.out _ _ ?_ (fun hHeld => ?_)
  · exact HFS.out _ _ _ T1 rfl
  clear hK K Tb HOK hnw
  refine tk1 12 HM.out rfl ?_
  simp only [Act.put, List.getElem_toArray, List.getElem_cons_succ, List.getElem_cons_zero, List.setIfInBounds_toArray, List.set_cons_zero, List.set_cons_succ]
  refine tk0 13 rfl ?_
  simp only [Act.put, List.setIfInBounds_toArray, List.set_cons_zero, List.set_cons_succ]
  have hf := row_frozen T1.row 5
  have T2 := T1.setCell 5 (.slice (some ⟨gf', 0, none⟩) (fv.length + 1) capf)
  have HT2 := Lib.hid T2; clear T1 T2
  refine wpAnyL_ready (rs := [14]) (by kernel_rfl) (by simp) ?_
  refine AllReadyL.cons1 (o := _) rfl (by kernel_rfl) (fun K hK => ?_) AllReadyL.nil
  go_simp
  refine hK.out _ _ trivial (fun hHeld => ?_)
  clear hK K hf HFS HM hi hz0 hz1 hz2
  refine wpAnyL_done (by kernel_rfl) ?_ _
  try simp only [Exit.then]
  have T3a := (HT2.out.ord [1, 5, 2, 3, 4, 0]).drop.drop
  have T3b := (T3a.ord [2, 0, 1]).vecCut
  have T3c := T3b.ord [1, 2, 0]
  have T4 := T3c.frPush2
  have HT := Lib.hid T4; clear HT2 T3a T3b T3c T4
  go_wp2
  go_end0
  refine ⟨rfl, ⟨bi, bl, bo, n1 + 1, n2 + 1, if (lo x).isSome then c2 else c2 + 1, n3 + 1, if (on x).isSome then c3 else c3 + 1, vs', .slice (some ⟨gf', 0, none⟩) (fv.length + 1) capf, vp, vm⟩, ⟨Nat.add_le_add_right hA1 1, Nat.add_le_add_right hA2 1, Nat.add_le_add_right hA3 1⟩, ?_⟩
  have T5 := HT.out.ord [1, 7, 8, 6, 5, 0, 9, 10, 2, 3, 4]
  have hl : (st ++ [x]).length = st.length + 1 := by simp
  rw [← hl, show vl IV st ++ (IV x).toList = vl IV (st ++ [x]) from (vl_snoc IV st x).symm] at T5
  exact T5
end
end Go.Proofs.Ytnjgjhjilolanaa
/- Items in a slice of the call's own, sorted in their place by a graph's order: the insertion sort. -/
namespace Go.Proofs.Ytnjgjhjilolanaa
open Go.RowKit Go.Shelf
open Go.Sort (swp insInner insOuter insertionSort)
set_option linter.unusedVariables false
set_option maxRecDepth 20000
attribute [local go_sem] row_alloc row_drew row_drewN row_ext row_setCell row_setRow size_ext setRow_alloc setRow_drew loadOf storeOf piece_lit loadVal_at storeVal_at allOne_lit buildOf buildRes_some
attribute [local go_sem high] cell_alloc frozen_alloc setCell_alloc cell_ext frozen_ext cell_setRow frozen_setRow
attribute [local go_sem ↓] TDeed_ld0 TDeed_st0 TDeed_fd0 TDeed_bd0
attribute [local go_sem] TDeed_size TDeed_one TDeed_piece TDeed_c0 TDeed_c1 TDeed_c2 TDeed_c3 TDeed_c4 TDeed_c5 TDeed_set_kind TDeed_set_key TDeed_set_val TDeed_set_ver TDeed_set_ses TDeed_set_num TDeed_ld TDeed_st TDeed_f_kind TDeed_f_key TDeed_f_val TDeed_f_ver TDeed_f_ses TDeed_f_num TDeed_bd TDeed_fl TDeed_fl_kind TDeed_fl_key TDeed_fl_val TDeed_fl_ver TDeed_fl_ses TDeed_fl_num
attribute [local go_sem high] TDeed_eql TDeed_neq
attribute [local go_sem ↓] index_deps0 load_deps0 store_deps0
attribute [local go_sem] DV_piece DV_size DV_one index_deps load_deps store_deps
attribute [local go_sem high] TDeps_eql TDeps_neq
attribute [local go_sem ↓] TCall_ld0 TCall_st0 TCall_fd0 TCall_bd0
attribute [local go_sem] TCall_size TCall_one TCall_piece TCall_c0 TCall_c1 TCall_c2 TCall_c3 TCall_c4 TCall_c5 TCall_c6 TCall_c7 TCall_c8 TCall_c9 TCall_c10 TCall_c11 TCall_c12 TCall_c13 TCall_p_deed TCall_put_deed TCall_p_deps TCall_put_deps TCall_set_seq TCall_ld TCall_st TCall_f_deed TCall_f_deps TCall_f_seq TCall_bd TCall_fl TCall_fl_deed TCall_fl_deps TCall_fl_seq
attribute [local go_sem high] TCall_eql TCall_neq
attribute [local go_sem ↓] TItem_ld0 TItem_st0 TItem_fd0 TItem_bd0
attribute [local go_sem] TItem_size TItem_one TItem_piece TItem_c0 TItem_c1 TItem_set_rep TItem_set_num TItem_ld TItem_st TItem_f_rep TItem_f_num TItem_bd TItem_fl TItem_fl_rep TItem_fl_num
attribute [local go_sem high] TItem_eql TItem_neq
instance : Inhabited Item := ⟨noItem⟩
/-- Items in a slice of the call's own. -/
abbrev itR (g c : Nat) (d : Array Item) : Res := vecR 35 2 (.slice (some ⟨g, 0, none⟩) d.size c) d.size (vl IV d.toList)
abbrev cvB (b : Nat) : Value := .func (.func 73) #[.pointer (some ⟨b, 0, none⟩)] #[]
/-- What stands ahead of what. -/
noncomputable def ltM (m : RowsMK) : Item → Item → Bool := fun x y => decide (befM m x y < 0)
section
variable {w W : World} {F : Nat → Prop} {R : List Res} {b gc gd g c : Nat} {m : RowsMK} {q : RowsML} {d : Array Item}
theorem get_list (d : Array Item) {i : Nat} (hi : i < d.size) : d.toList[i]'(by simpa using hi) = d[i]! := by
  rw [getElem!_pos d i hi]; rfl
theorem Sts.itLoad (T : Sts w F W (itR g c d :: R)) {i : Nat} (hi : i < d.size) : loadVal Try.prog 35 2 W (.pointer (some ⟨g, i * 2, none⟩)) = .ok (.agg (IV d[i]!)) W := by
  have T' : Sts w F W (vecR 35 2 (.slice (some ⟨g, 0, none⟩) d.toList.length c) d.toList.length (vl IV d.toList) :: R) := T
  have hlen : d.toList.length ≤ 9223372036854775807 := by
    rcases T'.vec.2 with ⟨h, _⟩ | ⟨g', cap, cur, hv, _, _, hn, hm, _⟩
    · cases h
    · unfold maxLen at hm; omega
  obtain ⟨A, c', hv, hA, -, -⟩ := vec_rows TItem_size T' (by omega) hlen
  injection hv with e1 e2 e3
  subst e1
  have hld := hA.load (P := Try.prog) (T := 35) TItem_size TItem_und rfl (by kernel_rfl) (Below.refl _ _) rfl (show i < d.toList.length by simpa using hi)
  rw [add_none, Nat.zero_add, get_list d hi] at hld
  exact hld
theorem Sts.itSet (T : Sts w F W (itR g c d :: R)) {i : Nat} (hi : i < d.size) (x : Item) : ∃ W1, storeVal Try.prog 35 2 W (.pointer (some ⟨g, i * 2, none⟩)) (.agg (IV x)) = .ok () W1 ∧ Sts w F W1 (itR g c (d.setIfInBounds i x) :: R) := by
  have T' : Sts w F W (vecR 35 2 (.slice (some ⟨g, 0, none⟩) d.toList.length c) d.toList.length (vl IV d.toList) :: R) := T
  obtain ⟨g', c', cur, hv, hr, hs, hx⟩ := vec_at TItem_size T' (by omega) (show i < d.toList.length by simpa using hi)
  injection hv with e1 e2 e3
  injection e1 with e1
  injection e1 with e1
  subst e1
  have T1 := hx x
  have hsz : (IV x).size = 2 := rfl
  have hone : allOne (IV x) = true := TItem_one x
  have hd : d.toList.set i x = (d.setIfInBounds i x).toList := by simp
  refine ⟨W.setRow g (splice cur (i * 2) (IV x)), ?_, ?_⟩
  · show storeOf _ _ _ _ _ _ _ = _
    unfold storeOf
    rw [hr]
    simp only [hsz, hone, and_self, if_true]
    by_cases h0 : i * 2 = 0 ∧ cur.size = 2
    · rw [if_pos h0]
      have hZ : splice cur (i * 2) (IV x) = IV x := by
        rw [h0.1]
        refine append_of_gets (by rw [splice_size, h0.2]; rfl) fun q hq => ?_
        rw [splice_get, if_pos ⟨Nat.zero_le _, by omega, by omega⟩, Nat.sub_zero]
      rw [hZ]
    · rw [if_neg h0, if_pos hs]
  · rw [hd] at T1
    have hn : (d.setIfInBounds i x).size = d.size := by simp
    show Sts w F _ (vecR _ 2 (.slice _ (d.setIfInBounds i x).size c) (d.setIfInBounds i x).size _ :: R)
    rw [hn]
    exact T1
theorem set_set_swp (d : Array Item) (i j : Nat) : (d.setIfInBounds i d[j]!).setIfInBounds j d[i]! = swp d i j := rfl
theorem swp_sz (d : Array Item) (i j : Nat) : (swp d i j).size = d.size := by simp [swp]
end
end Go.Proofs.Ytnjgjhjilolanaa
/- Items in a slice of the call's own, sorted in their place by a graph's order: the insertion sort, walked. -/
namespace Go.Proofs.Ytnjgjhjilolanaa
open Go.RowKit Go.Shelf
open Go.Sort (swp insInner insOuter insertionSort)
set_option linter.unusedVariables false
set_option maxRecDepth 20000
attribute [local go_sem] row_alloc row_drew row_drewN row_ext row_setCell row_setRow size_ext setRow_alloc setRow_drew loadOf storeOf piece_lit loadVal_at storeVal_at allOne_lit buildOf buildRes_some
attribute [local go_sem high] cell_alloc frozen_alloc setCell_alloc cell_ext frozen_ext cell_setRow frozen_setRow
attribute [local go_sem ↓] TDeed_ld0 TDeed_st0 TDeed_fd0 TDeed_bd0
attribute [local go_sem] TDeed_size TDeed_one TDeed_piece TDeed_c0 TDeed_c1 TDeed_c2 TDeed_c3 TDeed_c4 TDeed_c5 TDeed_set_kind TDeed_set_key TDeed_set_val TDeed_set_ver TDeed_set_ses TDeed_set_num TDeed_ld TDeed_st TDeed_f_kind TDeed_f_key TDeed_f_val TDeed_f_ver TDeed_f_ses TDeed_f_num TDeed_bd TDeed_fl TDeed_fl_kind TDeed_fl_key TDeed_fl_val TDeed_fl_ver TDeed_fl_ses TDeed_fl_num
attribute [local go_sem high] TDeed_eql TDeed_neq
attribute [local go_sem ↓] index_deps0 load_deps0 store_deps0
attribute [local go_sem] DV_piece DV_size DV_one index_deps load_deps store_deps
attribute [local go_sem high] TDeps_eql TDeps_neq
attribute [local go_sem ↓] TCall_ld0 TCall_st0 TCall_fd0 TCall_bd0
attribute [local go_sem] TCall_size TCall_one TCall_piece TCall_c0 TCall_c1 TCall_c2 TCall_c3 TCall_c4 TCall_c5 TCall_c6 TCall_c7 TCall_c8 TCall_c9 TCall_c10 TCall_c11 TCall_c12 TCall_c13 TCall_p_deed TCall_put_deed TCall_p_deps TCall_put_deps TCall_set_seq TCall_ld TCall_st TCall_f_deed TCall_f_deps TCall_f_seq TCall_bd TCall_fl TCall_fl_deed TCall_fl_deps TCall_fl_seq
attribute [local go_sem high] TCall_eql TCall_neq
attribute [local go_sem ↓] TItem_ld0 TItem_st0 TItem_fd0 TItem_bd0
attribute [local go_sem] TItem_size TItem_one TItem_piece TItem_c0 TItem_c1 TItem_set_rep TItem_set_num TItem_ld TItem_st TItem_f_rep TItem_f_num TItem_bd TItem_fl TItem_fl_rep TItem_fl_num
attribute [local go_sem high] TItem_eql TItem_neq
section
variable {w W : World} {F : Nat → Prop} {R : List Res} {b gc gd g c : Nat} {m : RowsMK} {q : RowsML} {d : Array Item}
end
end Go.Proofs.Ytnjgjhjilolanaa
/- How many bits a small number has. -/
namespace Go.Proofs.Ytnjgjhjilolanaa
open Go.RowKit
open Go.Sort (bitsLen)
theorem bitsLen_le : ∀ n : Fin 512, bitsLen n.val ≤ 9 := by decide +kernel
theorem bitsLen_256 : ∀ n : Fin 256, bitsLen n.val ≤ 8 := by decide +kernel
theorem bitsLen_512 : ∀ n : Fin 256, bitsLen (256 + n.val) = 9 := by decide +kernel
set_option maxRecDepth 10000 in
theorem len64T (k : Nat) (hk : k < 512) (w : World) : Calls Try.prog 83 #[.int .u64 k] w fun e w' => e = .returned (.int .i64 (bitsLen k)) ∧ w' = w := by
  have h1 : ¬ (4294967296 : Int) ≤ (k : Int) := by omega
  have h2 : ¬ (65536 : Int) ≤ (k : Int) := by omega
  by_cases h256 : k < 256
  · have h3 : ¬ (256 : Int) ≤ (k : Int) := by omega
    have hl := bitsLen_256 ⟨k, h256⟩
    simp only at hl
    go_enter Try.func83, Try.ntmps83
    go_upto_region 10 with fail
    go_step
    go_step
    go_step
    go_step
    go_step
    go_step
    go_step
    refine wpList_step (fun K hK => ?_)
    simp only [Region.wanted, reduceIte]
    go_step
    go_step
    refine wpList_step (fun K hK => ?_)
    simp only [Region.wanted, reduceIte]
    generalize hB : Value.string { data := List.toArray _ } = B at *
    have hx : ∀ w : World, (Instr.index 9 B (.int .u8 k)).run Try.prog w = .ok (.int .u8 (bitsLen k)) w := by
      intro w
      rw [← hB]
      clear hB hK h1 h2 h3 hl
      iterate 256
        rcases k with _ | k
        · kernel_rfl
      omega
    clear hB
    go_simp
    go_wp2
    go_ret
    exact ⟨rfl, rfl⟩
  · have h3 : (256 : Int) ≤ (k : Int) := by omega
    have h4 : (k : Int) / 256 = 1 := by omega
    have hb := bitsLen_512 ⟨k - 256, by omega⟩
    simp only at hb
    rw [show 256 + (k - 256) = k by omega] at hb
    rw [hb]
    clear hb
    go_enter Try.func83, Try.ntmps83
    go_upto_region 10 with fail
    go_step
    go_step
    go_step
    go_step
    go_step
    go_step
    go_step
    refine wpList_step (fun K hK => ?_)
    simp only [Region.wanted, reduceIte]
    go_step
    go_step
    refine wpList_step (fun K hK => ?_)
    simp only [Region.wanted, reduceIte]
    generalize hB : Value.string { data := List.toArray _ } = B at *
    have hx : ∀ w : World, (Instr.index 9 B (.int .u8 1)).run Try.prog w = .ok (.int .u8 1) w := by
      intro w
      rw [← hB]
      kernel_rfl
    clear hB
    go_simp
    go_wp2
    go_ret
    exact ⟨rfl, rfl⟩
end Go.Proofs.Ytnjgjhjilolanaa
/- Items in a slice of the call's own, sorted in their place by a graph's order: few of them; how many bits a number has. -/
namespace Go.Proofs.Ytnjgjhjilolanaa
open Go.RowKit Go.Shelf
open Go.Sort (swp insertionSort pdq bitsLen)
set_option linter.unusedVariables false
set_option maxRecDepth 20000
attribute [local go_sem] row_alloc row_drew row_drewN row_ext row_setCell row_setRow size_ext setRow_alloc setRow_drew loadOf storeOf piece_lit loadVal_at storeVal_at allOne_lit buildOf buildRes_some
attribute [local go_sem high] cell_alloc frozen_alloc setCell_alloc cell_ext frozen_ext cell_setRow frozen_setRow
attribute [local go_sem ↓] TDeed_ld0 TDeed_st0 TDeed_fd0 TDeed_bd0
attribute [local go_sem] TDeed_size TDeed_one TDeed_piece TDeed_c0 TDeed_c1 TDeed_c2 TDeed_c3 TDeed_c4 TDeed_c5 TDeed_set_kind TDeed_set_key TDeed_set_val TDeed_set_ver TDeed_set_ses TDeed_set_num TDeed_ld TDeed_st TDeed_f_kind TDeed_f_key TDeed_f_val TDeed_f_ver TDeed_f_ses TDeed_f_num TDeed_bd TDeed_fl TDeed_fl_kind TDeed_fl_key TDeed_fl_val TDeed_fl_ver TDeed_fl_ses TDeed_fl_num
attribute [local go_sem high] TDeed_eql TDeed_neq
attribute [local go_sem ↓] index_deps0 load_deps0 store_deps0
attribute [local go_sem] DV_piece DV_size DV_one index_deps load_deps store_deps
attribute [local go_sem high] TDeps_eql TDeps_neq
attribute [local go_sem ↓] TCall_ld0 TCall_st0 TCall_fd0 TCall_bd0
attribute [local go_sem] TCall_size TCall_one TCall_piece TCall_c0 TCall_c1 TCall_c2 TCall_c3 TCall_c4 TCall_c5 TCall_c6 TCall_c7 TCall_c8 TCall_c9 TCall_c10 TCall_c11 TCall_c12 TCall_c13 TCall_p_deed TCall_put_deed TCall_p_deps TCall_put_deps TCall_set_seq TCall_ld TCall_st TCall_f_deed TCall_f_deps TCall_f_seq TCall_bd TCall_fl TCall_fl_deed TCall_fl_deps TCall_fl_seq
attribute [local go_sem high] TCall_eql TCall_neq
attribute [local go_sem ↓] TItem_ld0 TItem_st0 TItem_fd0 TItem_bd0
attribute [local go_sem] TItem_size TItem_one TItem_piece TItem_c0 TItem_c1 TItem_set_rep TItem_set_num TItem_ld TItem_st TItem_f_rep TItem_f_num TItem_bd TItem_fl TItem_fl_rep TItem_fl_num
attribute [local go_sem high] TItem_eql TItem_neq
section
variable {w W : World} {F : Nat → Prop} {R : List Res} {b gc gd g c : Nat} {m : RowsMK} {q : RowsML} {d : Array Item}
theorem bitsLenT (k : Nat) (hk : k < 512) (w : World) : Calls Try.prog 69 #[.int .u64 k] w fun e w' => e = .returned (.int .i64 (bitsLen k)) ∧ w' = w := by
  go_enter Try.func69, Try.ntmps69
  go_wp2_with fail
  refine (len64T k hk _).mono ?_
  rintro e w5 ⟨rfl, rfl⟩
  go_wp2
  go_ret
  exact ⟨rfl, rfl⟩
/-- A graph's order sorts so many items. -/
def SortsTo (K : Nat) : Prop := ∀ (w W : World) (F : Nat → Prop) (R : List Res) (b gc gd g c : Nat) (m : RowsMK) (q : RowsML) (d : Array Item) (n : Nat), d.size = n → n ≤ K → (0 ≤ m.n ∧ m.n ≤ 7) → Sts w F W (itR g c d :: (grL b gc gd m q ++ R)) →
  Calls Try.prog 53 #[.slice (some ⟨g, 0, none⟩) n c, cvB b] W fun e W' => e = .returned (.tuple #[]) ∧ Sts w F W' (itR g c (pdq (ltM m) d 0 n (bitsLen n) true true) :: (grL b gc gd m q ++ R))
end
end Go.Proofs.Ytnjgjhjilolanaa
/- A graph's order of items is an order; what is sorted by it. No walk stands here. -/
namespace Go.Proofs.Ytnjgjhjilolanaa
open Go.RowKit
open Go.Sort (pdq bitsLen SWO PermIn SortedIn pdq_sorts)
set_option linter.unusedVariables false
noncomputable def sortM (m : RowsMK) (l : List Item) : List Item := (pdq (ltM m) l.toArray 0 l.length (bitsLen l.length) true true).toList
theorem IV_eq {x y : Item} (h : IV x = IV y) : x = y := by
  unfold IV at h
  obtain ⟨a, b⟩ := x
  obtain ⟨c, d⟩ := y
  simp at h
  obtain ⟨rfl, rfl⟩ := h
  rfl
theorem ltM_iff (m : RowsMK) (x y : Item) : ltM m x y = true ↔ seqK m x < seqK m y ∨ seqK m x = seqK m y ∧ (x.num < y.num ∨ x.num = y.num ∧ x.rep < y.rep) := by
  unfold ltM befM
  by_cases h : eqA (IV x) (IV y) = true
  · rw [if_pos h]
    have := IV_eq (eqA_iff.1 h)
    subst this
    simp
  · rw [if_neg h]
    by_cases hb : befB m x y = true
    · rw [if_pos hb]
      unfold befB at hb
      simp [lessI] at hb
      exact ⟨fun _ => hb, fun _ => by decide⟩
    · rw [if_neg hb]
      unfold befB at hb
      simp [lessI] at hb
      have : ¬ ((1:Int) < 0) := by omega
      simp only [this, decide_false, Bool.false_eq_true, false_iff]
      omega
theorem ltM_swo (m : RowsMK) : SWO (ltM m) where
  irrefl x := by
    cases h : ltM m x x with
    | false => rfl
    | true => rw [ltM_iff] at h; omega
  trans x y z h1 h2 := by
    rw [ltM_iff] at h1 h2 ⊢
    omega
  ntrans x y z h1 h2 := by
    rw [← Bool.not_eq_true, ltM_iff] at h1 h2 ⊢
    omega
theorem ltM_total (m : RowsMK) (x y : Item) (h1 : ltM m x y = false) (h2 : ltM m y x = false) : x = y := by
  rw [← Bool.not_eq_true, ltM_iff] at h1 h2
  obtain ⟨a, b⟩ := x
  obtain ⟨c, d⟩ := y
  simp only at h1 h2
  have e1 : b = d := by omega
  have e2 : a = c := by omega
  rw [e1, e2]
theorem pdqM_sorts (m : RowsMK) (l : List Item) : PermIn 0 l.length l.toArray (pdq (ltM m) l.toArray 0 l.length (bitsLen l.length) true true) ∧ SortedIn (ltM m) 0 l.length (pdq (ltM m) l.toArray 0 l.length (bitsLen l.length) true true) :=
  pdq_sorts (ltM m) (ltM_swo m) l.toArray 0 l.length _ true true (Nat.zero_le _) (by simp) (.inl rfl)
theorem pdqM_size (m : RowsMK) (d : Array Item) (k : Nat) (hk : d.size = k) : (pdq (ltM m) d 0 k (bitsLen k) true true).size = k := by
  subst hk
  have := (pdqM_sorts m d.toList).1.1
  simpa using this
theorem sortM_length (m : RowsMK) (l : List Item) : (sortM m l).length = l.length := by
  unfold sortM
  rw [Array.length_toList, pdqM_size m _ _ (by simp)]
theorem sortM_perm (m : RowsMK) (l : List Item) : (sortM m l).Perm l := by
  have h := (pdqM_sorts m l).1.2.2
  have hs := (pdqM_sorts m l).1.1
  unfold sortM
  generalize pdq (ltM m) l.toArray 0 l.length (bitsLen l.length) true true = d at *
  simp at hs
  rw [← hs] at h
  simp at h
  rw [List.take_of_length_le (by omega)] at h
  exact h
theorem sortM_sorted (m : RowsMK) (l : List Item) : ∀ i j (hi : i < j) (hj : j < (sortM m l).length), ltM m (sortM m l)[j] (sortM m l)[i] = false := by
  intro i j hij hj
  have hl := sortM_length m l
  have h := (pdqM_sorts m l).2 i j (Nat.zero_le _) hij (by omega)
  have h2 : ∀ (d : Array Item) (k : List Item), d.toList = k → ∀ (i j : Nat) (hi : i < k.length) (hj : j < k.length), ltM m d[j]! d[i]! = false → ltM m k[j] k[i] = false := by
    rintro d k rfl i j hi hj h
    rw [Array.length_toList] at hi hj
    rw [getElem!_pos d j hj, getElem!_pos d i hi] at h
    simpa using h
  exact h2 _ _ rfl i j (by rw [hl] at hj; rw [Array.length_toList]; unfold sortM at hl; rw [Array.length_toList] at hl; omega) hj h
end Go.Proofs.Ytnjgjhjilolanaa
