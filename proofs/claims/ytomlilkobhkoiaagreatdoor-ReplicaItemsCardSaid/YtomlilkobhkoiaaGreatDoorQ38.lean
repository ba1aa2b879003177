/- Several texts in one. -/
import Derived.Test.YtomlilkobhkoiaaGreatDoorQ37
import Derived.Test.YtomlilkobhkoiaaGreatDoorQ36
import Derived.Test.YtomlilkobhkoiaaGreatDoorQ35
import Derived.Test.YtomlilkobhkoiaaGreatDoorQ3
import Derived.Test.YtomlilkobhkoiaaGreatDoorQ4
/- Layers 14, 16: a lead hears its own answer; a rescue that is none hears nothing. -/
namespace Go.Proofs.YtomlilkobhkoiaaGreatDoor
open Go.RowKit Go.Shelf
set_option linter.unusedVariables false
set_option maxRecDepth 20000
attribute [local go_sem] Oper.semAt_some
attribute [local go_sem] row_alloc row_drew row_drewN row_ext row_setCell row_setRow size_ext setRow_alloc setRow_drew loadOf storeOf piece_lit loadVal_at storeVal_at allOne_lit buildOf buildRes_some
attribute [local go_sem high] cell_alloc frozen_alloc setCell_alloc cell_ext frozen_ext cell_setRow frozen_setRow
attribute [local go_sem ↓] TItem_ld0 TItem_st0 TItem_fd0 TItem_bd0
attribute [local go_sem] TItem_size TItem_one TItem_piece TItem_c0 TItem_c1 TItem_set_rep TItem_set_num TItem_ld TItem_st TItem_f_rep TItem_f_num TItem_bd TItem_fl TItem_fl_rep TItem_fl_num
attribute [local go_sem high] TItem_eql TItem_neq
attribute [local go_sem ↓] TBallot_ld0 TBallot_st0 TBallot_fd0 TBallot_bd0
attribute [local go_sem] TBallot_size TBallot_one TBallot_piece TBallot_c0 TBallot_c1 TBallot_set_round TBallot_set_rep TBallot_ld TBallot_st TBallot_f_round TBallot_f_rep TBallot_bd TBallot_fl TBallot_fl_round TBallot_fl_rep
attribute [local go_sem high] TBallot_eql TBallot_neq
attribute [local go_sem ↓] TCall_ld0 TCall_st0 TCall_fd0 TCall_bd0
attribute [local go_sem] TCall_size TCall_one TCall_piece TCall_c0 TCall_c1 TCall_c2 TCall_c3 TCall_c4 TCall_c5 TCall_c6 TCall_c7 TCall_c8 TCall_c9 TCall_c10 TCall_c11 TCall_c12 TCall_c13 TCall_p_deed TCall_put_deed TCall_p_deps TCall_put_deps TCall_set_seq TCall_ld TCall_st TCall_f_deed TCall_f_deps TCall_f_seq TCall_bd TCall_fl TCall_fl_deed TCall_fl_deps TCall_fl_seq
attribute [local go_sem high] TCall_eql TCall_neq
attribute [local go_sem ↓] TDeed_ld0 TDeed_st0 TDeed_fd0 TDeed_bd0
attribute [local go_sem] TDeed_size TDeed_one TDeed_piece TDeed_c0 TDeed_c1 TDeed_c2 TDeed_c3 TDeed_c4 TDeed_c5 TDeed_set_kind TDeed_set_key TDeed_set_val TDeed_set_ver TDeed_set_ses TDeed_set_num TDeed_ld TDeed_st TDeed_f_kind TDeed_f_key TDeed_f_val TDeed_f_ver TDeed_f_ses TDeed_f_num TDeed_bd TDeed_fl TDeed_fl_kind TDeed_fl_key TDeed_fl_val TDeed_fl_ver TDeed_fl_ses TDeed_fl_num
attribute [local go_sem high] TDeed_eql TDeed_neq
attribute [local go_sem ↓] index_deps0 load_deps0 store_deps0
attribute [local go_sem] DV_piece DV_size DV_one index_deps load_deps store_deps
attribute [local go_sem high] TDeps_eql TDeps_neq
attribute [local go_sem ↓] TMsg_ld0 TMsg_st0 TMsg_fd0 TMsg_bd0
attribute [local go_sem] TMsg_size TMsg_one TMsg_piece TMsg_c0 TMsg_c1 TMsg_c2 TMsg_c3 TMsg_c4 TMsg_c5 TMsg_c6 TMsg_c7 TMsg_c8 TMsg_c9 TMsg_c10 TMsg_c11 TMsg_c12 TMsg_c13 TMsg_c14 TMsg_c15 TMsg_c16 TMsg_c17 TMsg_c18 TMsg_c19 TMsg_c20 TMsg_c21 TMsg_c22 TMsg_c23 TMsg_c24 TMsg_set_kind TMsg_set_frm TMsg_set_to TMsg_p_item TMsg_put_item TMsg_p_bal TMsg_put_bal TMsg_p_vote TMsg_put_vote TMsg_set_status TMsg_set_same TMsg_p_call TMsg_put_call TMsg_ld TMsg_st TMsg_f_kind TMsg_f_frm TMsg_f_to TMsg_f_item TMsg_f_bal TMsg_f_vote TMsg_f_status TMsg_f_same TMsg_f_call TMsg_bd TMsg_fl TMsg_fl_kind TMsg_fl_frm TMsg_fl_to TMsg_fl_item TMsg_fl_bal TMsg_fl_vote TMsg_fl_status TMsg_fl_same TMsg_fl_call
attribute [local go_sem high] TMsg_eql TMsg_neq
section
variable {w W : World} {F : Nat → Prop} {R : List Res} {g s f : Nat} {X : Array Value} {x : Item}
set_option maxHeartbeats 16000000 in
theorem ldHearT (hs : s < 7) (hf : 1 ≤ f ∧ f ≤ 3) (hsf : s < 2 * f + 1) (h : LdF X f s x) (hX0 : ∀ j, j < 7 → X[196 + j]? = some (.bool false)) (hX3 : X[203]? = some (.int .i64 0)) (m : Msg) (hk : m.kind = 2) (hfr : m.frm = (s : Int)) (hto : m.to = (s : Int)) (hit : m.item = x) (hbl : m.bal = ⟨0, x.rep⟩) (T : Sts w F W (rowR g X :: R)) :
  Calls Tryz.prog 161 #[.pointer (some ⟨g, 0, none⟩), .agg (MV m)] W fun e W' => e = .returned (.bool false) ∧ Sts w F W' R := by
 have hsz := h.size; have hib := h.item; have hbb := h.bal
 have T1 := T.new (MV m) 136
 have rm := T1.row; have lm := row_lt rm
 have m0 : (W.alloc (.cells (MV m) 136)).cell? ⟨W.heap.size, 0, none⟩ = some (.int .i64 2) := by rw [row_cell rm 0, ← hk]; rfl
 have m1 : (W.alloc (.cells (MV m) 136)).cell? ⟨W.heap.size, 1, none⟩ = some (.int .i64 s) := by rw [row_cell rm 1, ← hfr]; rfl
 have m2 : (W.alloc (.cells (MV m) 136)).cell? ⟨W.heap.size, 2, none⟩ = some (.int .i64 s) := by rw [row_cell rm 2, ← hto]; rfl
 have rg := T1.row1; have lg := row_lt rg
 have g0 : (W.alloc (.cells (MV m) 136)).cell? ⟨g, 0, none⟩ = some (.int .i64 ((2 * f + 1 : Nat) : Int)) := by rw [row_cell rg 0, h.n]
 have g1 : (W.alloc (.cells (MV m) 136)).cell? ⟨g, 1, none⟩ = some (.int .i64 s) := by rw [row_cell rg 1, h.slf]
 have g20 : (W.alloc (.cells (MV m) 136)).cell? ⟨g, 20, none⟩ = some (.int .i64 1) := by rw [row_cell rg 20, h.ph]
 have hpi : piece (MV m) 3 2 = IV x := by rw [TMsg_p_item, hit]
 have hpb : piece (MV m) 5 2 = BV ⟨0, x.rep⟩ := by rw [TMsg_p_bal, hbl]
 have hxx : eqA (IV x) (IV x) = true := eqA_refl _
 have hbx : eqA (BV ⟨0, x.rep⟩) (BV ⟨0, x.rep⟩) = true := eqA_refl _
 have hs0 : ¬ (s : Int) < 0 := by omega
 have hsn : ¬ ((2 * f + 1 : Nat) : Int) ≤ (s : Int) := by omega
 have hsn' : decide (2 * (f : Int) + 1 ≤ (s : Int)) = false := decide_eq_false (by omega)
 have HP := Lib.hid fun (W' : World) (T' : Sts w F W' (rowR g X :: rowR W.heap.size (MV m) :: R)) => ldPreT hs hf h hX0 hX3 m hfr T'
 have FS : ∀ W', Sts w F W' (rowR W.heap.size (MV m) :: rowR g X :: R) → (row? W' W.heap.size = some (MV m) ∧ W'.cell? ⟨W.heap.size, 0, none⟩ = some (.int .i64 2) ∧ row? W' g = some X ∧ W'.cell? ⟨g, 20, none⟩ = some (.int .i64 1)) := fun W' T' => ⟨T'.row, by rw [row_cell T'.row 0, ← hk]; rfl, T'.row1, by rw [row_cell T'.row1 20, h.ph]⟩
 have HFS := Lib.hid FS
 have HT := Lib.hid T1
 clear hX0 hX3 h hk hfr hto hit hbl hs hf hsf T T1 FS
 go_enter Tryz.func161, Tryz.ntmps161
 go_upto_region 1 with fail
 go_quiet (fail)
 have HT2 := Lib.hid (HT.out.drewN nq)
 clear rm lm rg lg m0 m1 m2 g0 g1 g20 HT
 generalize (W.alloc (.cells (MV m) 136)).drewN nq = w2 at *
 obtain ⟨rm, m0, rg, g20⟩ := HFS.out _ HT2.out
 have lm := row_lt rm; have lg := row_lt rg
 go_upto_region 6 with fail
 go_quiet (fail)
 have HT3 := Lib.hid (HT2.out.drewN nq)
 clear rm m0 rg g20 lm lg HT2
 generalize w2.drewN nq = w3 at *
 obtain ⟨rm, m0, rg, g20⟩ := HFS.out _ HT3.out
 have lm := row_lt rm; have lg := row_lt rg
 go_upto_region 9 with fail
 go_quiet (fail)
 have HT4 := Lib.hid (HT3.out.drewN nq)
 clear rm m0 rg g20 lm lg HT3
 generalize w3.drewN nq = w4 at *
 obtain ⟨rm, m0, rg, g20⟩ := HFS.out _ HT4.out
 have lm := row_lt rm; have lg := row_lt rg
 go_wp2_with fail
 refine (HP.out _ HT4.out.swap).mono ?_
 clear HP rm m0 rg g20 lm lg HT4 HFS
 rintro e w5 ⟨rfl, T⟩
 have HT5 := Lib.hid T.drop; clear T
 go_wp2
 go_ret
 exact ⟨rfl, HT5.out⟩
set_option maxHeartbeats 4000000 in
theorem rescueNilT (m : Msg) (T : Sts w F W R) :
  Calls Tryz.prog 158 #[.pointer none, .agg (MV m)] W fun e W' => e = .returned (.bool false) ∧ Sts w F W' R := by
 have T1 := T.new (MV m) 136
 have HT := Lib.hid T1; clear T T1
 go_enter Tryz.func158, Tryz.ntmps158
 go_upto_region 1 with fail
 go_quiet (fail)
 have HT2 := Lib.hid (HT.out.drewN nq).drop
 go_wp2
 go_ret
 exact ⟨rfl, HT2.out⟩
end
end Go.Proofs.YtomlilkobhkoiaaGreatDoor
/- Layer 22: a replica counts its own answer: too few. -/
namespace Go.Proofs.YtomlilkobhkoiaaGreatDoor
open Go.RowKit Go.Shelf
set_option linter.unusedVariables false
set_option maxRecDepth 20000
attribute [local go_sem] Oper.semAt_some
attribute [local go_sem] row_alloc row_drew row_drewN row_ext row_setCell row_setRow size_ext setRow_alloc setRow_drew loadOf storeOf piece_lit loadVal_at storeVal_at allOne_lit buildOf buildRes_some
attribute [local go_sem high] cell_alloc frozen_alloc setCell_alloc cell_ext frozen_ext cell_setRow frozen_setRow
attribute [local go_sem ↓] TItem_ld0 TItem_st0 TItem_fd0 TItem_bd0
attribute [local go_sem] TItem_size TItem_one TItem_piece TItem_c0 TItem_c1 TItem_set_rep TItem_set_num TItem_ld TItem_st TItem_f_rep TItem_f_num TItem_bd TItem_fl TItem_fl_rep TItem_fl_num
attribute [local go_sem high] TItem_eql TItem_neq
attribute [local go_sem ↓] TBallot_ld0 TBallot_st0 TBallot_fd0 TBallot_bd0
attribute [local go_sem] TBallot_size TBallot_one TBallot_piece TBallot_c0 TBallot_c1 TBallot_set_round TBallot_set_rep TBallot_ld TBallot_st TBallot_f_round TBallot_f_rep TBallot_bd TBallot_fl TBallot_fl_round TBallot_fl_rep
attribute [local go_sem high] TBallot_eql TBallot_neq
attribute [local go_sem ↓] TCall_ld0 TCall_st0 TCall_fd0 TCall_bd0
attribute [local go_sem] TCall_size TCall_one TCall_piece TCall_c0 TCall_c1 TCall_c2 TCall_c3 TCall_c4 TCall_c5 TCall_c6 TCall_c7 TCall_c8 TCall_c9 TCall_c10 TCall_c11 TCall_c12 TCall_c13 TCall_p_deed TCall_put_deed TCall_p_deps TCall_put_deps TCall_set_seq TCall_ld TCall_st TCall_f_deed TCall_f_deps TCall_f_seq TCall_bd TCall_fl TCall_fl_deed TCall_fl_deps TCall_fl_seq
attribute [local go_sem high] TCall_eql TCall_neq
attribute [local go_sem ↓] TDeed_ld0 TDeed_st0 TDeed_fd0 TDeed_bd0
attribute [local go_sem] TDeed_size TDeed_one TDeed_piece TDeed_c0 TDeed_c1 TDeed_c2 TDeed_c3 TDeed_c4 TDeed_c5 TDeed_set_kind TDeed_set_key TDeed_set_val TDeed_set_ver TDeed_set_ses TDeed_set_num TDeed_ld TDeed_st TDeed_f_kind TDeed_f_key TDeed_f_val TDeed_f_ver TDeed_f_ses TDeed_f_num TDeed_bd TDeed_fl TDeed_fl_kind TDeed_fl_key TDeed_fl_val TDeed_fl_ver TDeed_fl_ses TDeed_fl_num
attribute [local go_sem high] TDeed_eql TDeed_neq
attribute [local go_sem ↓] index_deps0 load_deps0 store_deps0
attribute [local go_sem] DV_piece DV_size DV_one index_deps load_deps store_deps
attribute [local go_sem high] TDeps_eql TDeps_neq
attribute [local go_sem ↓] TMsg_ld0 TMsg_st0 TMsg_fd0 TMsg_bd0
attribute [local go_sem] TMsg_size TMsg_one TMsg_piece TMsg_c0 TMsg_c1 TMsg_c2 TMsg_c3 TMsg_c4 TMsg_c5 TMsg_c6 TMsg_c7 TMsg_c8 TMsg_c9 TMsg_c10 TMsg_c11 TMsg_c12 TMsg_c13 TMsg_c14 TMsg_c15 TMsg_c16 TMsg_c17 TMsg_c18 TMsg_c19 TMsg_c20 TMsg_c21 TMsg_c22 TMsg_c23 TMsg_c24 TMsg_set_kind TMsg_set_frm TMsg_set_to TMsg_p_item TMsg_put_item TMsg_p_bal TMsg_put_bal TMsg_p_vote TMsg_put_vote TMsg_set_status TMsg_set_same TMsg_p_call TMsg_put_call TMsg_ld TMsg_st TMsg_f_kind TMsg_f_frm TMsg_f_to TMsg_f_item TMsg_f_bal TMsg_f_vote TMsg_f_status TMsg_f_same TMsg_f_call TMsg_bd TMsg_fl TMsg_fl_kind TMsg_fl_frm TMsg_fl_to TMsg_fl_item TMsg_fl_bal TMsg_fl_vote TMsg_fl_status TMsg_fl_same TMsg_fl_call
attribute [local go_sem high] TMsg_eql TMsg_neq
theorem noVotes_has (j : Nat) (hj : j < 7) : noVotes[175 + j]? = some (.bool false) := by
 have h0 : noVotes[175]? = some (.bool false) := by kernel_rfl
 have h1 : noVotes[176]? = some (.bool false) := by kernel_rfl
 have h2 : noVotes[177]? = some (.bool false) := by kernel_rfl
 have h3 : noVotes[178]? = some (.bool false) := by kernel_rfl
 have h4 : noVotes[179]? = some (.bool false) := by kernel_rfl
 have h5 : noVotes[180]? = some (.bool false) := by kernel_rfl
 have h6 : noVotes[181]? = some (.bool false) := by kernel_rfl
 have : j = 0 ∨ j = 1 ∨ j = 2 ∨ j = 3 ∨ j = 4 ∨ j = 5 ∨ j = 6 := by omega
 rcases this with rfl | rfl | rfl | rfl | rfl | rfl | rfl <;> assumption
theorem noVotes_n : noVotes[182]? = some (.int .i64 0) := by kernel_rfl
section
variable {w W : World} {F : Nat → Prop} {R : List Res} {g gl j s f : Nat} {q : RpB} {inb out : Value} {fl : Item → Option Nat} {same : Bool} {c c0 : Call}
theorem ldC_F (x : Item) (hxr : x.rep = (s : Int)) : LdF (ldC ((2 * f + 1 : Nat) : Int) s x ⟨0, s⟩ c 1 noVotes) f s x :=
 ⟨by rw [ld_size]; kernel_rfl, ld_c0 .., ld_c1 .., by rw [ld_c2], ld_item .., by rw [ld_bal, hxr], ld_c20 ..⟩
set_option maxHeartbeats 16000000 in
theorem rpCountT (hs : s < 7) (hf : 1 ≤ f ∧ f ≤ 3) (hsf : s < 2 * f + 1) (x : Item) (hx : InI x) (hxr : x.rep = (s : Int)) (hfl : fl x = some gl)
  (T : Sts w F W (rowR g (rpV q ((2 * f + 1 : Nat) : Int) s inb out) :: ldsR q.ml j fl :: rowR gl (ldC ((2 * f + 1 : Nat) : Int) s x ⟨0, s⟩ c 1 noVotes) :: ldsR q.mr 0 (fun _ => none) :: R)) :
  Calls Tryz.prog 96 #[.pointer (some ⟨g, 0, none⟩), .agg (MV (okMsg s x same c0))] W fun e W' => e = .returned (.tuple #[]) ∧ Sts w F W' (rowR g (rpV q ((2 * f + 1 : Nat) : Int) s inb out) :: ldsR q.ml j fl :: ldsR q.mr 0 (fun _ => none) :: R) := by
 have HLH := Lib.hid fun (W' : World) (R' : List Res) (T' : Sts w F W' (rowR gl (ldC ((2 * f + 1 : Nat) : Int) s x ⟨0, s⟩ c 1 noVotes) :: R')) => ldHearT hs hf hsf (ldC_F x hxr) (fun j hj => by rw [show 196 + j = 21 + (175 + j) by omega, ld_v, noVotes_has j hj]) (by rw [show 203 = 21 + 182 from rfl, ld_v, noVotes_n]) (okMsg s x same c0) rfl rfl rfl rfl (by rw [hxr]; rfl) T'
 generalize ldC ((2 * f + 1 : Nat) : Int) s x ⟨0, s⟩ c 1 noVotes = X at *
 generalize ((2 * f + 1 : Nat) : Int) = n at *
 obtain ⟨m, hm⟩ : ∃ m, m = okMsg s x same c0 := ⟨_, rfl⟩
 have hk : m.kind = 2 := by rw [hm]; rfl
 have hit : m.item = x := by rw [hm]; rfl
 rw [← hm] at HLH ⊢
 have hpi : piece (MV m) 3 2 = IV x := by rw [TMsg_p_item, hit]
 clear hm hit hs hf hsf
 have T1 := (T.new (MV m) 136).ord [0, 1, 2, 4, 3]
 have rm := T1.row; have lm := row_lt rm
 have m0 : (W.alloc (.cells (MV m) 136)).cell? ⟨W.heap.size, 0, none⟩ = some (.int .i64 2) := by rw [row_cell rm 0, ← hk]; rfl
 have HT := Lib.hid T1; have HF := Lib.hid hfl; clear T T1 hfl hk
 have FR : ∀ W' R' b, Sts w F W' (rowR b (MV m) :: rowR g (rpV q n s inb out) :: ldsR q.ml j fl :: ldsR q.mr 0 (fun _ => none) :: R') → (row? W' b = some (MV m) ∧ W'.cell? ⟨g, 5, none⟩ = some (.map (some q.mr)) ∧ (Instr.lookup 48 (.map (some q.mr)) (.agg (IV x)) false).run Tryz.prog W' = .ok (.pointer none) W') := fun W' R' b T' => by
  have hlk := (T'.ord [3, 0, 1, 2]).map.look1 itemOk Tryz.underlying48 (z := .pointer none) (fun w => by kernel_rfl) x hx
  exact ⟨T'.row, row_cell T'.row1 5, hlk⟩
 have FL : ∀ W' R' b, Sts w F W' (rowR b (MV m) :: rowR g (rpV q n s inb out) :: ldsR q.ml j fl :: R') → (row? W' b = some (MV m) ∧ W'.cell? ⟨g, 4, none⟩ = some (.map (some q.ml)) ∧ (Instr.lookup 47 (.map (some q.ml)) (.agg (IV x)) false).run Tryz.prog W' = .ok (.pointer (some ⟨gl, 0, none⟩)) W') := fun W' R' b T' => by
  have hlk := (T'.ord [2, 0, 1]).map.look1 itemOk Tryz.underlying47 (z := .pointer none) (fun w => by kernel_rfl) x hx
  rw [HF.out] at hlk
  exact ⟨T'.row, row_cell T'.row1 4, hlk⟩
 have HFR := Lib.hid FR; have HFL := Lib.hid FL; clear FR FL
 go_enter Tryz.func96, Tryz.ntmps96
 go_upto_region 3 with fail
 clear m0 rm lm
 generalize W.alloc _ = w1 at *
 generalize W.heap.size = b at *
 have HT2 := Lib.hid HT.out.drew; clear HT
 have S0 := HFR.out _ _ _ HT2.out
 refine wp_region_held_drew (S := fun W' => row? W' b = some (MV m) ∧ W'.cell? ⟨g, 5, none⟩ = some (.map (some q.mr)) ∧ (Instr.lookup 48 (.map (some q.mr)) (.agg (IV x)) false).run Tryz.prog W' = .ok (.pointer none) W') (by kernel_rfl) S0 (fun hHeld => ?_)
 clear S0
 generalize w1.drew = w2 at *
 refine tkH 0 rfl ?_
 simp only [Act.put, List.setIfInBounds_toArray, List.set_cons_zero, List.set_cons_succ]
 refine tkH 1 rfl ?_
 go_frame
 refine tkH 2 rfl ?_
 go_frame
 refine tkH 3 rfl ?_
 go_frame
 refine tkH 4 rfl ?_
 go_frame
 refine tkH 5 rfl ?_
 go_frame
 refine tkH 6 rfl ?_
 go_frame
 refine tkH 7 rfl ?_
 go_frame
 refine wpAnyH_done (by kernel_rfl) ?_ _
 try simp only [Exit.then]
 clear hHeld HFR
 have rm := HT2.out.row; have lm := row_lt rm
 go_wp2_with fail
 refine (rescueNilT m HT2.out).mono ?_
 clear HT2 rm lm
 rintro e3 w3 ⟨rfl, T⟩
 have HT := Lib.hid T; clear T
 go_upto_region 8 with fail
 have HT2 := Lib.hid HT.out.drew; clear HT
 have S0 := HFL.out _ _ _ HT2.out
 refine wp_region_held_drew (S := fun W' => row? W' b = some (MV m) ∧ W'.cell? ⟨g, 4, none⟩ = some (.map (some q.ml)) ∧ (Instr.lookup 47 (.map (some q.ml)) (.agg (IV x)) false).run Tryz.prog W' = .ok (.pointer (some ⟨gl, 0, none⟩)) W') (by kernel_rfl) S0 (fun hHeld => ?_)
 clear S0
 generalize w3.drew = w4 at *
 refine tkH 0 rfl ?_
 simp only [Act.put, List.setIfInBounds_toArray, List.set_cons_zero, List.set_cons_succ]
 refine tkH 1 rfl ?_
 go_frame
 refine tkH 2 rfl ?_
 go_frame
 refine tkH 3 rfl ?_
 go_frame
 refine tkH 4 rfl ?_
 go_frame
 refine tkH 5 rfl ?_
 go_frame
 refine tkH 6 rfl ?_
 go_frame
 refine tkH 7 rfl ?_
 go_frame
 refine wpAnyH_done (by kernel_rfl) ?_ _
 try simp only [Exit.then]
 clear hHeld HFL
 have rm := HT2.out.row; have lm := row_lt rm
 go_wp2_with fail
 refine (HLH.out _ _ (HT2.out.ord [4, 0, 1, 2, 3])).mono ?_
 clear HT2 rm lm HLH
 rintro e5 w5 ⟨rfl, T⟩
 have HT := Lib.hid T.drop; clear T
 go_wp2
 go_end0
 exact ⟨rfl, HT.out⟩
end
end Go.Proofs.YtomlilkobhkoiaaGreatDoor
/- Layer 5: calls merged. -/
namespace Go.Proofs.YtomlilkobhkoiaaGreatDoor
open Go.RowKit
set_option linter.unusedVariables false
set_option maxRecDepth 20000
attribute [local go_sem] row_alloc row_drew row_drewN row_ext row_setCell row_setRow size_ext setRow_alloc setRow_drew loadOf storeOf piece_lit loadVal_at storeVal_at allOne_lit buildOf buildRes_some
attribute [local go_sem high] cell_alloc frozen_alloc setCell_alloc cell_ext frozen_ext cell_setRow frozen_setRow
attribute [local go_sem ↓] TDeed_ld0 TDeed_st0 TDeed_fd0 TDeed_bd0
attribute [local go_sem] TDeed_size TDeed_one TDeed_piece TDeed_c0 TDeed_c1 TDeed_c2 TDeed_c3 TDeed_c4 TDeed_c5 TDeed_set_kind TDeed_set_key TDeed_set_val TDeed_set_ver TDeed_set_ses TDeed_set_num TDeed_ld TDeed_st TDeed_f_kind TDeed_f_key TDeed_f_val TDeed_f_ver TDeed_f_ses TDeed_f_num TDeed_bd TDeed_fl TDeed_fl_kind TDeed_fl_key TDeed_fl_val TDeed_fl_ver TDeed_fl_ses TDeed_fl_num
attribute [local go_sem high] TDeed_eql TDeed_neq
attribute [local go_sem ↓] index_deps0 load_deps0 store_deps0
attribute [local go_sem] DV_piece DV_size DV_one index_deps load_deps store_deps
attribute [local go_sem high] TDeps_eql TDeps_neq
attribute [local go_sem ↓] TCall_ld0 TCall_st0 TCall_fd0 TCall_bd0
attribute [local go_sem] TCall_size TCall_one TCall_piece TCall_c0 TCall_c1 TCall_c2 TCall_c3 TCall_c4 TCall_c5 TCall_c6 TCall_c7 TCall_c8 TCall_c9 TCall_c10 TCall_c11 TCall_c12 TCall_c13 TCall_p_deed TCall_put_deed TCall_p_deps TCall_put_deps TCall_set_seq TCall_ld TCall_st TCall_f_deed TCall_f_deps TCall_f_seq TCall_bd TCall_fl TCall_fl_deed TCall_fl_deps TCall_fl_seq
attribute [local go_sem high] TCall_eql TCall_neq
attribute [local go_sem ↓] slice_deps0
attribute [local go_sem] slice_deps2 LV_size
def stepC (c x : Call) : Call := ⟨c.deed, rjoin c.deps x.deps, maxI c.seq x.seq⟩
def mergeL (a : Call) (l : List Call) : Call := l.foldl stepC ⟨a.deed, rjoin a.deps a.deps, a.seq⟩
theorem joinV (a b : Nat → Int) (W : World) (g cap : Nat) (hg : row? W g = some (LV [a, b])) : Calls Tryz.prog 207 #[.slice (some ⟨g, 0, none⟩) 2 cap] W fun e w' => e = .returned (.agg (DV (rjoin a b))) ∧ Below W.heap.size W w' :=
 (join_any [a, b] W g cap (by simp) hg).mono fun _ _ ⟨he, hb⟩ => ⟨he, hb⟩
set_option maxHeartbeats 4000000 in
theorem merge_any (a : Call) (l : List Call) (hl : l.length ≤ 1000000) {a0 : Addr} {c : Nat} {W : World} (hx : RowsIn W (some a0) 14 CV l) :
  Calls Tryz.prog 183 #[.agg (CV a), .slice (some a0) l.length c] W fun e W' => e = .returned (.agg (CV (mergeL a l))) ∧ Below W.heap.size W W' := by
 have T2 := ((Sts.start0 W).new (CV a) 68).new (CV noCall) 68
 simp only [World.size_alloc] at T2
 have r1 := T2.row1; have l1 := row_lt r1; have r0 := T2.row; have l0 := row_lt r0
 have HT := Lib.hid T2; clear T2
 go_enter Tryz.func183, Tryz.ntmps183
 go_wp2_with fail
 refine (joinV a.deps a.deps _ _ _ (by go_simp)).mono ?_
 rintro e w1 ⟨rfl, hb⟩
 have T4 := ((HT.out.new (LV [a.deps, a.deps]) 66).pure hb).drop
 have r1 := T4.row1; have l1 := row_lt r1; have r0 := T4.row; have l0 := row_lt r0
 have T5 := (T4.swap.setRow (CV ⟨a.deed, rjoin a.deps a.deps, a.seq⟩)).swap
 have HT5 := Lib.hid T5; clear T4 T5 HT hb
 generalize W.heap.size + 1 = b4 at *
 generalize hb2 : W.heap.size = b2 at *
 go_wp2_with fail
 clear r1 r0 l1 l0
 go_loopw [16] (fun i wr => ∃ j : Nat, j ≤ l.length ∧ i = .int .i64 j ∧ Sts W (fun _ => False) wr [rowR b4 (CV noCall), rowR b2 (CV (mergeL a (l.take j)))]) (fun i _ => l.length - (intOf i).toNat)
 case atStart => exact ⟨0, by omega, rfl, HT5.out⟩
 case round =>
  clear HT5
  obtain ⟨j, hj, rfl, T⟩ := hrel
  by_cases hjl : j < l.length
  ·have hld := hx.load (P := Tryz.prog) (T := 68) TCall_size TCall_und rfl (by kernel_rfl) T.below rfl hjl
   have hst : mergeL a (l.take (j + 1)) = stepC (mergeL a (l.take j)) l[j] := by
    unfold mergeL; rw [List.take_succ_eq_append_getElem hjl, List.foldl_append]; rfl
   have Hst := Lib.hid hst; clear hst
   generalize l[j] = x at *
   generalize mergeL a (l.take j) = acc at *
   have T2 := T.new (CV x) 68
   have HT := Lib.hid T2; clear T T2
   go_upto_region 5 with fail
   clear hld
   generalize hw2 : wr.alloc _ = w2 at *
   generalize wr.heap.size = b6 at *
   clear hw2
   have FS : ∀ W' R' y, Sts W (fun _ => False) W' (rowR b6 (CV x) :: rowR b4 (CV noCall) :: rowR b2 (CV y) :: R') → (row? W' b2 = some (CV y) ∧ row? W' b6 = some (CV x) ∧ W'.cell? ⟨b2, 13, none⟩ = some (.int .i64 y.seq) ∧ W'.cell? ⟨b6, 13, none⟩ = some (.int .i64 x.seq)) := fun W' R' y T => ⟨T.row2, T.row, row_cell T.row2 13, row_cell T.row 13⟩
   have S0 := FS _ _ _ HT.out.drew
   have hm0 : ∀ W', (row? W' b2 = some (CV acc) ∧ row? W' b6 = some (CV x) ∧ W'.cell? ⟨b2, 13, none⟩ = some (.int .i64 acc.seq) ∧ W'.cell? ⟨b6, 13, none⟩ = some (.int .i64 x.seq)) → W'.cell? ⟨b6, 13, none⟩ = some (.int .i64 x.seq) := fun _ h => h.2.2.2
   have HFS := Lib.hid FS; have HM := Lib.hid hm0; have HTD := Lib.hid HT.out.drew
   clear FS hm0 HT
   refine wp_region_stage (fun W' => (row? W' b2 = some (CV acc) ∧ row? W' b6 = some (CV x) ∧ W'.cell? ⟨b2, 13, none⟩ = some (.int .i64 acc.seq) ∧ W'.cell? ⟨b6, 13, none⟩ = some (.int .i64 x.seq))) (fun W' => W'.cell? ⟨b6, 13, none⟩ = some (.int .i64 x.seq)) 12 (by kernel_rfl) S0 (fun hHeld => ?_)
   clear S0
   refine tk0 0 rfl ?_
   simp only [Act.put, List.setIfInBounds_toArray, List.set_cons_zero, List.set_cons_succ]
   refine tk0 1 rfl ?_
   go_frame
   refine tk0 2 rfl ?_
   go_frame
   refine tk0 3 rfl ?_
   go_frame
   refine tk0 6 rfl ?_
   simp only [Act.put, List.setIfInBounds_toArray, List.set_cons_zero, List.set_cons_succ]
   refine tk0 7 rfl ?_
   go_frame
   refine tk1 8 HM.out rfl ?_
   simp only [Act.put, List.setIfInBounds_toArray, List.set_cons_zero, List.set_cons_succ]
   refine tk1 9 HM.out rfl ?_
   go_frame
   refine tk1 10 HM.out rfl ?_
   go_frame
   refine wpAnyL_ready (rs := [4]) (by kernel_rfl) (by simp) ?_
   refine AllReadyL.cons0 (o := _) rfl (by kernel_rfl) (fun K hK => ?_) AllReadyL.nil
   have T3 := (HTD.out.new (LV [acc.deps, x.deps]) 66)
   have HT3 := Lib.hid T3; clear T3 HTD
   go_simp
   refine hK.out _ _ (HFS.out _ _ _ HT3.out.drop) (fun hHeld => ?_)
   clear hK K
   refine wpAnyL_ready (rs := [5]) (by kernel_rfl) (by simp) ?_
   refine AllReadyL.cons0 (o := _) rfl (by kernel_rfl) (fun K hK => ?_) AllReadyL.nil
   go_simp
   refine (joinV acc.deps x.deps _ _ _ HT3.out.row).mono ?_
   rintro e w3 ⟨rfl, hb⟩
   have T4 := (HT3.out.pure hb).drop
   have HT4 := Lib.hid T4; clear T4 HT3 hb
   refine hK.out _ _ (HFS.out _ _ _ HT4.out) (fun hHeld => ?_)
   clear hK K
   refine tk0 11 rfl ?_
   simp only [Act.put, List.setIfInBounds_toArray, List.set_cons_zero, List.set_cons_succ]
   have T5 := HT4.out.ord [2, 0, 1]
   have r5 := T5.row; have l5 := row_lt r5
   have T6 := T5.setRow (CV ⟨acc.deed, rjoin acc.deps x.deps, acc.seq⟩)
   have HT6 := Lib.hid T6; clear T5 T6 HT4
   refine wpAnyL_ready (rs := [12]) (by kernel_rfl) (by simp) ?_
   refine AllReadyL.cons1 (o := _) rfl (by kernel_rfl) (fun K hK => ?_) AllReadyL.nil
   go_simp
   refine hK.out _ _ (HFS.out _ _ _ (HT6.out.ord [1, 2, 0])).2.2.2 (fun hHeld => ?_)
   clear hK K r5 l5
   refine tk2 13 HM.out rfl ?_
   simp only [Act.put, List.setIfInBounds_toArray, List.set_cons_zero, List.set_cons_succ]
   generalize w3.setRow b2 _ = w4 at *
   have r5 := HT6.out.row; have l5 := row_lt r5; have c5 := row_cell r5 13; have f5 := row_frozen r5
   have T7 := HT6.out.setCell 13 (.int .i64 (maxI acc.seq x.seq))
   have T7 : Sts W (fun _ => False) (w4.setCell ⟨b2, 13, none⟩ (.int .i64 (maxI acc.seq x.seq))) [rowR b2 (CV ⟨acc.deed, rjoin acc.deps x.deps, maxI acc.seq x.seq⟩), rowR b6 (CV x), rowR b4 (CV noCall)] := T7
   have HT7 := Lib.hid T7; clear T7 HT6
   have emx : (if x.seq > acc.seq then x.seq else acc.seq) = maxI acc.seq x.seq := rfl
   try simp only [emx]
   generalize hmx : maxI acc.seq x.seq = mm at *
   refine wpAnyL_ready (rs := [14]) (by kernel_rfl) (by simp) ?_
   refine AllReadyL.cons1 (o := _) rfl (by kernel_rfl) (fun K hK => ?_) AllReadyL.nil
   go_simp
   refine hK.out _ _ (HFS.out _ _ _ (HT7.out.ord [1, 2, 0])).2.2.2 (fun hHeld => ?_)
   clear hK K r5 l5 c5 f5
   refine wpAnyL_done (by kernel_rfl) ?_ _
   try simp only [Exit.then]
   go_wp2
   go_roundw
   case rel =>
    have T8 := HT7.out.ord [2, 1, 0]
    refine ⟨j + 1, by omega, by go_num, ?_⟩
    rw [Hst.out, stepC, hmx]
    exact (T8.ord [1, 0, 2]).drop
   case measure => simp [intOf]; omega
  ·have : j = l.length := by omega
   subst this
   rw [List.take_length] at T
   have r1 := T.row1; have l1 := row_lt r1
   have r0 := T.row; have l0 := row_lt r0
   have n0 := T.rowsNe
   have T9 := T.setRow (CV (mergeL a l))
   have HT := Lib.hid T9; clear T T9
   go_wp2
   refine TCall_ret (mergeL a l) rfl rfl rfl HT.out.row ?_
   exact ⟨rfl, HT.out.below⟩
end Go.Proofs.YtomlilkobhkoiaaGreatDoor
/- Layer 15: a call is accepted, a ballot is promised. -/
namespace Go.Proofs.YtomlilkobhkoiaaGreatDoor
open Go.RowKit
set_option linter.unusedVariables false
set_option maxRecDepth 20000
attribute [local go_sem] row_alloc row_drew row_drewN row_ext row_setCell row_setRow size_ext setRow_alloc setRow_drew loadOf storeOf piece_lit loadVal_at storeVal_at allOne_lit buildOf buildRes_some
attribute [local go_sem high] cell_alloc frozen_alloc setCell_alloc cell_ext frozen_ext cell_setRow frozen_setRow
attribute [local go_sem ↓] TDeed_ld0 TDeed_st0 TDeed_fd0 TDeed_bd0
attribute [local go_sem] TDeed_size TDeed_one TDeed_piece TDeed_c0 TDeed_c1 TDeed_c2 TDeed_c3 TDeed_c4 TDeed_c5 TDeed_set_kind TDeed_set_key TDeed_set_val TDeed_set_ver TDeed_set_ses TDeed_set_num TDeed_ld TDeed_st TDeed_f_kind TDeed_f_key TDeed_f_val TDeed_f_ver TDeed_f_ses TDeed_f_num TDeed_bd TDeed_fl TDeed_fl_kind TDeed_fl_key TDeed_fl_val TDeed_fl_ver TDeed_fl_ses TDeed_fl_num
attribute [local go_sem high] TDeed_eql TDeed_neq
attribute [local go_sem ↓] index_deps0 load_deps0 store_deps0
attribute [local go_sem] DV_piece DV_size DV_one index_deps load_deps store_deps
attribute [local go_sem high] TDeps_eql TDeps_neq
attribute [local go_sem ↓] TCall_ld0 TCall_st0 TCall_fd0 TCall_bd0
attribute [local go_sem] TCall_size TCall_one TCall_piece TCall_c0 TCall_c1 TCall_c2 TCall_c3 TCall_c4 TCall_c5 TCall_c6 TCall_c7 TCall_c8 TCall_c9 TCall_c10 TCall_c11 TCall_c12 TCall_c13 TCall_p_deed TCall_put_deed TCall_p_deps TCall_put_deps TCall_set_seq TCall_ld TCall_st TCall_f_deed TCall_f_deps TCall_f_seq TCall_bd TCall_fl TCall_fl_deed TCall_fl_deps TCall_fl_seq
attribute [local go_sem high] TCall_eql TCall_neq
attribute [local go_sem ↓] TItem_ld0 TItem_st0 TItem_fd0 TItem_bd0
attribute [local go_sem] TItem_size TItem_one TItem_piece TItem_c0 TItem_c1 TItem_set_rep TItem_set_num TItem_ld TItem_st TItem_f_rep TItem_f_num TItem_bd TItem_fl TItem_fl_rep TItem_fl_num
attribute [local go_sem high] TItem_eql TItem_neq
attribute [local go_sem ↓] TBallot_ld0 TBallot_st0 TBallot_fd0 TBallot_bd0
attribute [local go_sem] TBallot_size TBallot_one TBallot_piece TBallot_c0 TBallot_c1 TBallot_set_round TBallot_set_rep TBallot_ld TBallot_st TBallot_f_round TBallot_f_rep TBallot_bd TBallot_fl TBallot_fl_round TBallot_fl_rep
attribute [local go_sem high] TBallot_eql TBallot_neq
attribute [local go_sem ↓] TInst_ld0 TInst_st0 TInst_fd0 TInst_bd0
attribute [local go_sem] TInst_size TInst_one TInst_piece TInst_c0 TInst_c1 TInst_c2 TInst_c3 TInst_c4 TInst_c5 TInst_c6 TInst_c7 TInst_c8 TInst_c9 TInst_c10 TInst_c11 TInst_c12 TInst_c13 TInst_c14 TInst_c15 TInst_c16 TInst_c17 TInst_c18 TInst_c19 TInst_p_prom TInst_put_prom TInst_p_vote TInst_put_vote TInst_set_status TInst_p_call TInst_put_call TInst_set_same TInst_ld TInst_st TInst_f_prom TInst_f_vote TInst_f_status TInst_f_call TInst_f_same TInst_bd TInst_fl TInst_fl_prom TInst_fl_vote TInst_fl_status TInst_fl_call TInst_fl_same
attribute [local go_sem high] TInst_eql TInst_neq
attribute [local go_sem ↓] TMsg_ld0 TMsg_st0 TMsg_fd0 TMsg_bd0
attribute [local go_sem] TMsg_size TMsg_one TMsg_piece TMsg_c0 TMsg_c1 TMsg_c2 TMsg_c3 TMsg_c4 TMsg_c5 TMsg_c6 TMsg_c7 TMsg_c8 TMsg_c9 TMsg_c10 TMsg_c11 TMsg_c12 TMsg_c13 TMsg_c14 TMsg_c15 TMsg_c16 TMsg_c17 TMsg_c18 TMsg_c19 TMsg_c20 TMsg_c21 TMsg_c22 TMsg_c23 TMsg_c24 TMsg_set_kind TMsg_set_frm TMsg_set_to TMsg_p_item TMsg_put_item TMsg_p_bal TMsg_put_bal TMsg_p_vote TMsg_put_vote TMsg_set_status TMsg_set_same TMsg_p_call TMsg_put_call TMsg_ld TMsg_st TMsg_f_kind TMsg_f_frm TMsg_f_to TMsg_f_item TMsg_f_bal TMsg_f_vote TMsg_f_status TMsg_f_same TMsg_f_call TMsg_bd TMsg_fl TMsg_fl_kind TMsg_fl_frm TMsg_fl_to TMsg_fl_item TMsg_fl_bal TMsg_fl_vote TMsg_fl_status TMsg_fl_same TMsg_fl_call
attribute [local go_sem high] TMsg_eql TMsg_neq
/-- What an answer of one of the three ways says, and what is known then. -/
def VotPost (n : Int) (k : Nat) (s lg p g bk bs : Nat) (m : RowsM) (y : Item) (a : AnsM) (w : World) (F : Nat → Prop) (R : List Res) (e : Ending) (W' : World) : Prop :=
 e = .returned (.tuple #[.agg (MV a.out), .bool a.ok]) ∧ ∃ I' D' safe', VotI n (k + growV m y a.now) I' D' (nowR m y a.now) ∧ Sts w F W' (spL s lg p g bk bs I' D' safe' (nowR m y a.now) ++ R)
theorem nowR_same {m : RowsM} {y : Item} {i : Inst} (h : atM m y = i) : nowR m y i = m := by
 unfold nowR; rw [h, if_pos (eqA_refl _)]
set_option maxHeartbeats 8000000 in
theorem vacc {n : Int} {k : Nat} {I : Idx} {D : List UInt8} {m : RowsM} (hv : VotI n k I D m) (hk : k ≤ 100) {safe s lg p g bk bs : Nat} (x : Msg) (i : Inst) (hw : atM m x.item = i) (hg : goodM x n = true) (h3 : x.kind = 3) {w W : World} {F : Nat → Prop} {R : List Res} (T : Sts w F W (spL s lg p g bk bs I D safe m ++ R)) :
  Calls Tryz.prog 149 #[.pointer (some ⟨s, 0, none⟩), .agg (MV x), .agg (NV i)] W (VotPost n k s lg p g bk bs m x.item (accM x i) w F R) := by
 have hmn := hv.sp.mn
 obtain ⟨hx1, hx2, hx3, hx4⟩ := goodM_in hg
 have hi : goodN i n = true := by rw [← hw, ← hmn]; exact atM_good hv.sp.good (by rw [hmn]; exact hv.pos) _
 have hgn := voteM_good (st := 2) (same := false) hi hx2 (by omega) (hx3 (by rw [h3]; decide))
 have hac := lacc_any i x.bal x.call
 have hacc : accM x i = if (voteM i x.bal 2 x.call false).2 = true then ⟨backM x 4, true, (voteM i x.bal 2 x.call false).1⟩ else refM x i := rfl
 generalize voteM i x.bal 2 x.call false = q at *
 obtain ⟨now, ok⟩ := q
 dsimp only at hgn hac hacc
 have HV := Lib.hid hv; have HAC := Lib.hid hac; have HX := Lib.hid hx1; have HGN := Lib.hid hgn; have HACC := Lib.hid hacc; have HW := Lib.hid hw
 clear hv hac hx1 hx2 hx3 hx4 hgn hacc hw hi h3 hg hmn
 have T1 : Sts w F W (idxR s lg bk bs I :: rowR lg (ledCells p g m.n) :: plR p D safe :: rowsIR g m :: R) := T
 have T2 := (((T1.new (MV x) 136).new (NV i) 70).new (MV noMsg) 136).ord [3, 4, 5, 6, 0, 1, 2]
 simp only [World.size_alloc] at T2
 have r6 := (T2.ord [4, 0, 1, 2, 3, 5, 6]).row; have l6 := row_lt r6
 have r5 := (T2.ord [5, 0, 1, 2, 3, 4, 6]).row; have l5 := row_lt r5
 have r4 := (T2.ord [6, 0, 1, 2, 3, 4, 5]).row; have l4 := row_lt r4
 have HT := Lib.hid T2; clear T T1 T2
 go_enter Tryz.func149, Tryz.ntmps149
 go_wp2_with fail
 refine (Ans.at HAC.out HT.out).mono ?_
 clear HT HAC r6 l6 r5 l5 r4 l4
 rintro e w1 ⟨rfl, T⟩
 generalize W.heap.size + 1 + 1 = b6 at *
 generalize W.heap.size + 1 = b5 at *
 generalize W.heap.size = b4 at *
 have T2 := T.new (NV now) 70
 have HT := Lib.hid T2; clear T T2
 cases ok
 case false =>
  have T := HT.out
  have r5 := (T.ord [6, 0, 1, 2, 3, 4, 5, 7]).row; have l5 := row_lt r5
  have r4 := (T.ord [7, 0, 1, 2, 3, 4, 5, 6]).row; have l4 := row_lt r4
  have HRF := Lib.hid (Ans.at (refuse_any x i) T); clear T HT
  go_wp2_with fail
  refine HRF.out.mono ?_
  clear HRF r5 l5 r4 l4
  rintro e w2 ⟨rfl, T⟩
  have T2 := T.ord [5, 0, 1, 2, 3, 4, 6, 7]
  have r6 := T2.row; have l6 := row_lt r6
  have T3 := T2.setRow (MV (refM x i).out)
  have HT := Lib.hid T3; clear T T2 T3
  go_wp2
  have ea : accM x i = refM x i := by rw [HACC.out]; exact if_neg (by simp)
  refine ret_row_tmp (MV (refM x i).out) (.bool (refM x i).ok) TMsg_und rfl (by kernel_rfl) rfl rfl rfl rfl (TMsg_size _) HT.out.row ?_
  unfold VotPost
  rw [ea, refM_now, nowR_same HW.out]
  have T9 := (HT.out.ord [0, 1, 6, 7, 2, 3, 4, 5]).drop.drop.drop.drop
  exact ⟨rfl, I, D, safe, HV.out.same HW.out, T9⟩
 case true =>
  go_upto_region 4 with fail
  generalize hw2 : w1.alloc _ = w2 at *
  generalize w1.heap.size = b8 at *
  clear hw2
  have FS : ∀ W' R', Sts w F W' (rowR b8 (NV now) :: rowR b5 (NV i) :: rowR b4 (MV x) :: R') → (row? W' b8 = some (NV now) ∧ row? W' b5 = some (NV i) ∧ row? W' b4 = some (MV x)) := fun W' R' T => ⟨T.row, T.row1, T.row2⟩
  have T0 := HT.out.drew.ord [0, 6, 7, 1, 2, 3, 4, 5]
  have S0 := FS _ _ T0
  have hm0 : ∀ W', (row? W' b8 = some (NV now) ∧ row? W' b5 = some (NV i) ∧ row? W' b4 = some (MV x)) → (row? W' b8 = some (NV now) ∧ row? W' b5 = some (NV i) ∧ row? W' b4 = some (MV x)) := fun _ h => h
  have HFS := Lib.hid FS; have HM := Lib.hid hm0; have HTD := Lib.hid T0
  clear FS hm0 HT T0
  refine wp_region_stage (fun W' => (row? W' b8 = some (NV now) ∧ row? W' b5 = some (NV i) ∧ row? W' b4 = some (MV x))) (fun W' => (row? W' b8 = some (NV now) ∧ row? W' b5 = some (NV i) ∧ row? W' b4 = some (MV x))) 8 (by kernel_rfl) S0 (fun hHeld => ?_)
  clear S0
  refine tk0 0 rfl ?_
  simp only [Act.put, List.setIfInBounds_toArray, List.set_cons_zero, List.set_cons_succ]
  refine tk1 2 HM.out rfl ?_
  simp only [Act.put, List.setIfInBounds_toArray, List.set_cons_zero, List.set_cons_succ]
  refine tk1 3 HM.out rfl ?_
  go_frame
  refine tk1 4 HM.out rfl ?_
  go_frame
  refine tk1 5 HM.out rfl ?_
  go_frame
  refine tk1 6 HM.out rfl ?_
  go_frame
  refine wpAnyL_ready (rs := [1]) (by kernel_rfl) (by simp) ?_
  refine AllReadyL.cons0 (o := _) rfl (by kernel_rfl) (fun K hK => ?_) AllReadyL.nil
  go_simp
  refine (Ans.at (back_any x 4) HTD.out).mono ?_
  clear HTD
  rintro e w3 ⟨rfl, T⟩
  refine hK.out _ _ (HFS.out _ _ T) (fun hHeld => ?_)
  clear hK K
  refine wpAnyL_ready (rs := [7]) (by kernel_rfl) (by simp) ?_
  refine AllReadyL.cons0 (o := _) rfl (by kernel_rfl) (fun K hK => ?_) AllReadyL.nil
  go_simp
  have T2 := T.ord [3, 4, 5, 6, 7, 0, 1, 2]
  refine (vknow (R := rowR b6 (MV noMsg) :: rowR b8 (NV now) :: rowR b5 (NV i) :: rowR b4 (MV x) :: R) HV.out hk x.item i now HW.out HX.out HGN.out T2).mono ?_
  clear T T2
  rintro e w4 ⟨rfl, I', D', safe', hv', T⟩
  have T : Sts w F w4 (idxR s lg bk bs I' :: rowR lg (ledCells p g (nowR m x.item now).n) :: plR p D' safe' :: rowsIR g (nowR m x.item now) :: rowR b6 (MV noMsg) :: rowR b8 (NV now) :: rowR b5 (NV i) :: rowR b4 (MV x) :: R) := T
  have T2 := T.ord [4, 5, 6, 7, 0, 1, 2, 3]
  refine hK.out _ _ (HFS.out _ _ T2.drop) (fun hHeld => ?_)
  clear hK K
  have r6 := T2.row; have l6 := row_lt r6
  have T3 := T2.setRow (MV (backM x 4))
  have HT := Lib.hid T3; have HV' := Lib.hid hv'; clear T T2 T3 hv'
  refine wpAnyL_ready (rs := [8]) (by kernel_rfl) (by simp) ?_
  refine AllReadyL.cons1 (o := _) rfl (by kernel_rfl) (fun K hK => ?_) AllReadyL.nil
  go_simp
  refine hK.out _ _ (HFS.out _ _ HT.out.drop) (fun hHeld => ?_)
  clear hK K r6 l6
  refine tk2 9 HM.out rfl ?_
  simp only [Act.put, List.setIfInBounds_toArray, List.set_cons_zero, List.set_cons_succ]
  refine wpAnyL_done (by kernel_rfl) ?_ _
  try simp only [Exit.then]
  go_wp2
  have ea : accM x i = ⟨backM x 4, true, now⟩ := by rw [HACC.out, if_pos trivial]
  refine ret_row_tmp (MV (backM x 4)) (.bool true) TMsg_und rfl (by kernel_rfl) rfl rfl rfl rfl (TMsg_size _) HT.out.row ?_
  unfold VotPost
  rw [ea]
  have T9 := HT.out.drop.drop.drop.drop
  exact ⟨rfl, I', D', safe', HV'.out, T9⟩
end Go.Proofs.YtomlilkobhkoiaaGreatDoor
