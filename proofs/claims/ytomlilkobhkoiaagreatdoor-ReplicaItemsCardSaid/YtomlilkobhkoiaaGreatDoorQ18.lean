/- Several texts in one. -/
import Derived.Test.YtomlilkobhkoiaaGreatDoorQ16
import Derived.Test.YtomlilkobhkoiaaGreatDoorQ17
import Derived.Test.YtomlilkobhkoiaaGreatDoorQ10
import Derived.Deep.RegionHeld3
import Derived.Deep.DeepCutAuto
import Derived.Test.YtomlilkobhkoiaaGreatDoorQ2
/- Layer 9: a record is read. -/
namespace Go.Proofs.YtomlilkobhkoiaaGreatDoor
open Go.RowKit
set_option linter.unusedVariables false
set_option maxRecDepth 20000
attribute [local go_sem] row_alloc row_drew row_drewN row_ext row_setCell row_setRow size_ext setRow_alloc setRow_drew loadOf storeOf piece_lit loadVal_at storeVal_at allOne_lit buildOf buildRes_some
attribute [local go_sem high] cell_alloc frozen_alloc setCell_alloc cell_ext frozen_ext cell_setRow frozen_setRow
attribute [local go_sem ↓] TDeed_ld0 TDeed_st0 TDeed_fd0 TDeed_bd0
attribute [local go_sem] TDeed_size TDeed_one TDeed_piece TDeed_c0 TDeed_c1 TDeed_c2 TDeed_c3 TDeed_c4 TDeed_c5 TDeed_set_kind TDeed_set_key TDeed_set_val TDeed_set_ver TDeed_set_ses TDeed_set_num TDeed_ld TDeed_st TDeed_f_kind TDeed_f_key TDeed_f_val TDeed_f_ver TDeed_f_ses TDeed_f_num TDeed_bd TDeed_fl TDeed_fl_kind TDeed_fl_key TDeed_fl_val TDeed_fl_ver TDeed_fl_ses TDeed_fl_num
attribute [local go_sem high] TDeed_eql TDeed_neq
attribute [local go_sem ↓] index_deps0 load_deps0 store_deps0
attribute [local go_sem] DV_piece DV_size DV_one index_deps load_deps store_deps
attribute [local go_sem high] TDeps_eql TDeps_neq
attribute [local go_sem ↓] TCall_ld0 TCall_st0 TCall_fd0 TCall_bd0
attribute [local go_sem] TCall_size TCall_one TCall_piece TCall_c0 TCall_c1 TCall_c2 TCall_c3 TCall_c4 TCall_c5 TCall_c6 TCall_c7 TCall_c8 TCall_c9 TCall_c10 TCall_c11 TCall_c12 TCall_c13 TCall_p_deed TCall_put_deed TCall_p_deps TCall_put_deps TCall_set_seq TCall_ld TCall_st TCall_f_deed TCall_f_deps TCall_f_seq TCall_bd TCall_fl TCall_fl_deed TCall_fl_deps TCall_fl_seq
attribute [local go_sem high] TCall_eql TCall_neq
attribute [local go_sem ↓] TItem_ld0 TItem_st0 TItem_fd0 TItem_bd0
attribute [local go_sem] TItem_size TItem_one TItem_piece TItem_c0 TItem_c1 TItem_set_rep TItem_set_num TItem_ld TItem_st TItem_f_rep TItem_f_num TItem_bd TItem_fl TItem_fl_rep TItem_fl_num
attribute [local go_sem high] TItem_eql TItem_neq
attribute [local go_sem ↓] TBallot_ld0 TBallot_st0 TBallot_fd0 TBallot_bd0
attribute [local go_sem] TBallot_size TBallot_one TBallot_piece TBallot_c0 TBallot_c1 TBallot_set_round TBallot_set_rep TBallot_ld TBallot_st TBallot_f_round TBallot_f_rep TBallot_bd TBallot_fl TBallot_fl_round TBallot_fl_rep
attribute [local go_sem high] TBallot_eql TBallot_neq
attribute [local go_sem ↓] TInst_ld0 TInst_st0 TInst_fd0 TInst_bd0
attribute [local go_sem] TInst_size TInst_one TInst_piece TInst_c0 TInst_c1 TInst_c2 TInst_c3 TInst_c4 TInst_c5 TInst_c6 TInst_c7 TInst_c8 TInst_c9 TInst_c10 TInst_c11 TInst_c12 TInst_c13 TInst_c14 TInst_c15 TInst_c16 TInst_c17 TInst_c18 TInst_c19 TInst_p_prom TInst_put_prom TInst_p_vote TInst_put_vote TInst_set_status TInst_p_call TInst_put_call TInst_set_same TInst_ld TInst_st TInst_f_prom TInst_f_vote TInst_f_status TInst_f_call TInst_f_same TInst_bd TInst_fl TInst_fl_prom TInst_fl_vote TInst_fl_status TInst_fl_call TInst_fl_same
attribute [local go_sem high] TInst_eql TInst_neq
/-- What is read of a record, and what is left. -/
noncomputable def readS (s : Src) : Item × Inst × Src :=
 let x := getI s
 let p := getBal x.2
 let v := getBal p.2
 let st := natS v.2 3
 let sm := natS st.2 1
 let c := getC sm.2
 (x.1, ⟨p.1, v.1, st.1, c.1, sm.1 == 1⟩, c.2)
theorem ret_row3 {P : Program} {fn : Func} {R : Ending → World → Prop} {a : Act} {w : World} {p q u : Tmp} {T U : TypeId} {n k : Nat} {d e : TypeDesc} (X Y : Array Value) {g h : Nat} (hu : P.underlying T = some d) (hd : d.isRow = true)
  (hi : (P.info? T).map (·.size) = some n) (hu2 : P.underlying U = some e) (hd2 : e.isRow = true) (hi2 : (P.info? U).map (·.size) = some k) (hr : fn.results = #[.cell p T, .cell q U, .tmp u]) (hp : a.tmps.getD p undef = .pointer (some ⟨g, 0, none⟩)) (hq : a.tmps.getD q undef = .pointer (some ⟨h, 0, none⟩))
  (hdf : a.defers = []) (hX : X.size = n) (hY : Y.size = k) (hrow : row? w g = some X) (hrow2 : row? w h = some Y) (hR : R (.returned (.tuple #[.agg X, .agg Y, a.tmps.getD u undef])) w) : bodyPost P fn R .ret a w := by
 obtain ⟨t, ht⟩ := row_some hrow
 obtain ⟨t2, ht2⟩ := row_some hrow2
 refine bodyPost_ret (v := .tuple #[.agg X, .agg Y, a.tmps.getD u undef]) ?_ hdf hR
 have hp' : a.tmps[p]?.getD undef = .pointer (some ⟨g, 0, none⟩) := by simpa using hp
 have hq' : a.tmps[q]?.getD undef = .pointer (some ⟨h, 0, none⟩) := by simpa using hq
 simp [results, hr, hp', hq', asAddr, run_loadVar_row w g t T X (0, 0) d ht hu (by cases d <;> first | rfl | exact hd) (by rw [hi, hX]), run_loadVar_row w h t2 U Y (0, 0) e ht2 hu2 (by cases e <;> first | rfl | exact hd2) (by rw [hi2, hY])]
set_option maxHeartbeats 4000000 in
theorem ledRead_any (b : List UInt8) (n : Int) :
  Ans Tryz.prog 60 #[.string (strL b), .int .i64 n] (.tuple #[.agg (IV (readS ⟨b, false⟩).1), .agg (NV (readS ⟨b, false⟩).2.1), .bool (!(readS ⟨b, false⟩).2.2.dry && (readS ⟨b, false⟩).2.2.left.isEmpty && goodI (readS ⟨b, false⟩).1 n && goodN (readS ⟨b, false⟩).2.1 n)]) := by
 intro W
 obtain ⟨w1, hw1⟩ : ∃ w1, w1 = (W.alloc (.cells (IV noItem) 33)).alloc (.cells (NV noInst) 70) := ⟨_, rfl⟩
 have T := ((Sts.start0 W).new (IV noItem) 33).new (NV noInst) 70
 simp only [World.size_alloc] at T
 rw [← hw1] at T
 have eI : IV noItem = #[.int .i64 0, .int .i64 0] := rfl
 rw [noInst_lit, eI] at hw1
 have hrd : readS ⟨b, false⟩ = ((getI ⟨b, false⟩).1, ⟨(getBal (getI ⟨b, false⟩).2).1, (getBal (getBal (getI ⟨b, false⟩).2).2).1, (natS (getBal (getBal (getI ⟨b, false⟩).2).2).2 3).1, (getC (natS (natS (getBal (getBal (getI ⟨b, false⟩).2).2).2 3).2 1).2).1, (natS (natS (getBal (getBal (getI ⟨b, false⟩).2).2).2 3).2 1).1 == 1⟩, (getC (natS (natS (getBal (getBal (getI ⟨b, false⟩).2).2).2 3).2 1).2).2) := rfl
 have HRD := Lib.hid hrd; clear hrd
 generalize readS ⟨b, false⟩ = q at *
 go_enter Tryz.func60, Tryz.ntmps60
 go_wp2_with fail
 rw [← hw1]
 clear hw1 eI
 generalize W.heap.size + 1 = g5 at *
 generalize W.heap.size = g4 at *
 refine (fromS T b).mono ?_; clear T; rintro e w2 ⟨rfl, T⟩
 generalize w1.heap.size = gs at *
 go_wp2_with fail
 refine (Does.at1 (itemGetD gs _) T).mono ?_; clear T; rintro e w3 ⟨rfl, T⟩
 have T := (T.new (IV (getI ⟨b, false⟩).1) 33).swap
 go_wp2_with fail
 generalize w3.alloc _ = w4 at *
 generalize w3.heap.size = g8 at *
 refine (Does.at1 (balGetD gs _) T).mono ?_; clear T; rintro e w5 ⟨rfl, T⟩
 go_wp2_with fail
 refine (Does.at1 (balGetD gs _) T).mono ?_; clear T; rintro e w6 ⟨rfl, T⟩
 go_wp2_with fail
 refine (Does.at1 (natD gs _ 3 (by omega)) T).mono ?_; clear T; rintro e w7 ⟨rfl, T⟩
 go_wp2_with fail
 refine (Does.at1 (bitD gs _) T).mono ?_; clear T; rintro e w8 ⟨rfl, T⟩
 go_wp2_with fail
 refine (Does.at1 (callGetD gs _) T).mono ?_; clear T; rintro e w9 ⟨rfl, T⟩
 have hq := HRD.out
 obtain ⟨qx, qi, qs⟩ := q
 simp only [Prod.mk.injEq] at hq
 obtain ⟨e1, e2, e3⟩ := hq
 rw [← e1] at T
 rw [← e3] at T
 have E2 := Lib.hid e2
 clear HRD e1 e2 e3
 dsimp only
 have T := (T.new (NV qi) 70)
 rw [E2.out] at T
 go_upto_region 4 with fail
 rw [← E2.out] at T ⊢
 clear E2
 generalize w9.alloc _ = w10 at *
 generalize w9.heap.size = g9 at *
 have T0 := T.swap.drew
 have hne := (T.drop.drop.drop).ne
 have hne2 : ¬ g4 = g5 := fun e => hne e.symm
 obtain ⟨L0, hL0⟩ : ∃ L0, L0 = [srcR gs qs, rowR g9 (NV qi), rowR g8 (IV qx)] := ⟨_, rfl⟩
 obtain ⟨S, hSd⟩ : ∃ S : World → Prop, ∀ W', S W' ↔ ∃ X Y, Sts W (fun _ => False) W' (rowR g4 X :: rowR g5 Y :: L0) := ⟨_, fun _ => Iff.rfl⟩
 have s0 : S w10.drew := (hSd _).2 ⟨_, _, by
  rw [hL0]
  exact (T0.perm (List.perm_append_comm (l₁ := [srcR gs qs, rowR g9 (NV qi), rowR g8 (IV qx)]) (l₂ := [rowR g5 (NV noInst), rowR g4 (IV noItem)]))).swap⟩
 have KS4 : ∀ W' X, S W' → S (W'.setRow g4 X) := fun W' X h => let ⟨A, B, h⟩ := (hSd _).1 h; (hSd _).2 ⟨X, B, h.setRow X⟩
 have KS5 : ∀ W' X, S W' → S (W'.setRow g5 X) := fun W' X h => let ⟨A, B, h⟩ := (hSd _).1 h; (hSd _).2 ⟨A, X, (h.swap.setRow X).swap⟩
 have KB : ∀ W' W'', S W' → Below W'.heap.size W' W'' → S W'' := fun W' W'' h hb => let ⟨A, B, h⟩ := (hSd _).1 h; (hSd _).2 ⟨A, B, h.pure hb⟩
 have q1 : ∀ W', S W' → row? W' g8 = some (IV qx) := fun W' h => by obtain ⟨A, B, h⟩ := (hSd _).1 h; rw [hL0] at h; exact h.row4
 have q2 : ∀ W', S W' → row? W' g9 = some (NV qi) := fun W' h => by obtain ⟨A, B, h⟩ := (hSd _).1 h; rw [hL0] at h; exact h.row3
 have ra5 := T0.drop.drop.drop.row; have ra4 := T0.drop.drop.drop.row1; have la5 := row_lt ra5; have la4 := row_lt ra4
 have rz5 : row? w10 g5 = some (NV noInst) := ra5
 have lz5 := row_lt rz5
 have FS : ∀ W', S W' → (S W' ∧ row? W' g8 = some (IV qx) ∧ row? W' g9 = some (NV qi)) := fun W' h => ⟨h, q1 W' h, q2 W' h⟩
 have K4 : ∀ W' X, (S W' ∧ row? W' g8 = some (IV qx) ∧ row? W' g9 = some (NV qi)) → (S (W'.setRow g4 X) ∧ row? (W'.setRow g4 X) g8 = some (IV qx) ∧ row? (W'.setRow g4 X) g9 = some (NV qi)) := fun W' X h => FS _ (KS4 W' X h.1)
 have K5 : ∀ W' X, (S W' ∧ row? W' g8 = some (IV qx) ∧ row? W' g9 = some (NV qi)) → (S (W'.setRow g5 X) ∧ row? (W'.setRow g5 X) g8 = some (IV qx) ∧ row? (W'.setRow g5 X) g9 = some (NV qi)) := fun W' X h => FS _ (KS5 W' X h.1)
 have K6 : ∀ W' W'', (S W' ∧ row? W' g8 = some (IV qx) ∧ row? W' g9 = some (NV qi)) → Below W'.heap.size W' W'' → (S W'' ∧ row? W'' g8 = some (IV qx) ∧ row? W'' g9 = some (NV qi)) := fun W' W'' h hb => FS _ (KB W' W'' h.1 hb)
 have s1 := FS _ s0
 have HK4 := Lib.hid K4; have HK5 := Lib.hid K5; have HKB := Lib.hid K6
 clear hSd hL0 T KS4 KS5 KB K4 K5 K6 FS q1 q2 s0
 cases hov : (!qs.dry && qs.left.isEmpty)
 case false =>
  refine wp_region_held_drew (S := fun W' => (S W' ∧ row? W' g8 = some (IV qx) ∧ row? W' g9 = some (NV qi))) (by kernel_rfl) s1 (fun hHeld => ?_)
  refine wpAnyH_take (i := 0) (oi := _) (v := ?_) rfl (by kernel_rfl) (by kernel_rfl) (by kernel_rfl) (fun _ _ _ h => h) (Or.inl ⟨by kernel_rfl, ?_⟩) (by assumption) ?_
  rotate_left
  ·(intro w hSw; (try dsimp only at hSw); go_simp; try (with_reducible rfl))
  simp only [Act.put, List.getElem_toArray, List.getElem_cons_zero, List.setIfInBounds_toArray, List.set_cons_zero, List.set_cons_succ]
  refine wpAnyH_take (i := 1) (oi := _) (v := ?_) rfl (by kernel_rfl) (by kernel_rfl) (by kernel_rfl) (fun _ _ _ h => h) (Or.inl ⟨by kernel_rfl, ?_⟩) (by assumption) ?_
  rotate_left
  ·(intro w hSw; (try dsimp only at hSw); go_simp; try (with_reducible rfl))
  simp only [Act.put, List.getElem_toArray, List.getElem_cons_succ, List.getElem_cons_zero, List.setIfInBounds_toArray, List.set_cons_zero, List.set_cons_succ]
  refine wpAnyH_take (i := 2) (oi := _) (v := ?_) rfl (by kernel_rfl) (by kernel_rfl) (by kernel_rfl) (fun _ _ _ h => h) (Or.inl ⟨by kernel_rfl, ?_⟩) (by assumption) ?_
  rotate_left
  ·(intro w hSw; (try dsimp only at hSw); go_simp; try (with_reducible rfl))
  simp only [Act.put, List.getElem_toArray, List.getElem_cons_succ, List.getElem_cons_zero, List.setIfInBounds_toArray, List.set_cons_zero, List.set_cons_succ]
  refine wpAnyH_ready (rs := [3]) (by kernel_rfl) (by simp) ?_
  refine AllReadyH.cons (o := _) rfl (fun K hK => ?_) AllReadyH.nil
  go_simp
  (go_at_call 106; with_reducible refine (overQ T0).mono ?_; rintro e w' ⟨rfl, rfl⟩; rw [hov])
  refine hK.out _ _ ?_ (fun hHeld => ?_)
  ·first | assumption | exact s1 | exact HK4.out _ _ (by assumption) | exact HK5.out _ _ (by assumption) | exact HKB.out _ _ (by assumption) hb
  clear hK K
  refine wpAnyH_take (i := 4) (oi := _) (v := ?_) rfl (by kernel_rfl) (by kernel_rfl) (by kernel_rfl) (fun _ _ _ h => h) (Or.inl ⟨by kernel_rfl, ?_⟩) (by assumption) ?_
  rotate_left
  ·(intro w hSw; (try dsimp only at hSw); go_simp; try (with_reducible rfl))
  simp only [Act.put, List.getElem_toArray, List.getElem_cons_succ, List.getElem_cons_zero, List.setIfInBounds_toArray, List.set_cons_zero, List.set_cons_succ]
  refine wpAnyH_take (i := 5) (oi := _) (v := undef) rfl (by kernel_rfl) (by kernel_rfl) (by kernel_rfl) (fun _ _ _ h => h) (Or.inr ⟨by kernel_rfl, rfl⟩) (by assumption) ?_
  simp only [Act.put, List.getElem_toArray, List.getElem_cons_succ, List.getElem_cons_zero, List.setIfInBounds_toArray, List.set_cons_zero, List.set_cons_succ]
  refine wpAnyH_take (i := 6) (oi := _) (v := undef) rfl (by kernel_rfl) (by kernel_rfl) (by kernel_rfl) (fun _ _ _ h => h) (Or.inr ⟨by kernel_rfl, rfl⟩) (by assumption) ?_
  simp only [Act.put, List.getElem_toArray, List.getElem_cons_succ, List.getElem_cons_zero, List.setIfInBounds_toArray, List.set_cons_zero, List.set_cons_succ]
  refine wpAnyH_take (i := 7) (oi := _) (v := undef) rfl (by kernel_rfl) (by kernel_rfl) (by kernel_rfl) (fun _ _ _ h => h) (Or.inr ⟨by kernel_rfl, rfl⟩) (by assumption) ?_
  simp only [Act.put, List.getElem_toArray, List.getElem_cons_succ, List.getElem_cons_zero, List.setIfInBounds_toArray, List.set_cons_zero, List.set_cons_succ]
  refine wpAnyH_take (i := 8) (oi := _) (v := ?_) rfl (by kernel_rfl) (by kernel_rfl) (by kernel_rfl) (fun _ _ _ h => h) (Or.inl ⟨by kernel_rfl, ?_⟩) (by assumption) ?_
  rotate_left
  ·(intro w hSw; (try dsimp only at hSw); go_simp; try (with_reducible rfl))
  simp only [Act.put, List.getElem_toArray, List.getElem_cons_succ, List.getElem_cons_zero, List.setIfInBounds_toArray, List.set_cons_zero, List.set_cons_succ]
  refine wpAnyH_take (i := 9) (oi := _) (v := ?_) rfl (by kernel_rfl) (by kernel_rfl) (by kernel_rfl) (fun _ _ _ h => h) (Or.inl ⟨by kernel_rfl, ?_⟩) (by assumption) ?_
  rotate_left
  ·(intro w hSw; (try dsimp only at hSw); go_simp; try (with_reducible rfl))
  simp only [Act.put, List.getElem_toArray, List.getElem_cons_succ, List.getElem_cons_zero, List.setIfInBounds_toArray, List.set_cons_zero, List.set_cons_succ]
  refine wpAnyH_take (i := 10) (oi := _) (v := undef) rfl (by kernel_rfl) (by kernel_rfl) (by kernel_rfl) (fun _ _ _ h => h) (Or.inr ⟨by kernel_rfl, rfl⟩) (by assumption) ?_
  simp only [Act.put, List.getElem_toArray, List.getElem_cons_succ, List.getElem_cons_zero, List.setIfInBounds_toArray, List.set_cons_zero, List.set_cons_succ]
  refine wpAnyH_take (i := 11) (oi := _) (v := undef) rfl (by kernel_rfl) (by kernel_rfl) (by kernel_rfl) (fun _ _ _ h => h) (Or.inr ⟨by kernel_rfl, rfl⟩) (by assumption) ?_
  simp only [Act.put, List.getElem_toArray, List.getElem_cons_succ, List.getElem_cons_zero, List.setIfInBounds_toArray, List.set_cons_zero, List.set_cons_succ]
  refine wpAnyH_take (i := 12) (oi := _) (v := undef) rfl (by kernel_rfl) (by kernel_rfl) (by kernel_rfl) (fun _ _ _ h => h) (Or.inr ⟨by kernel_rfl, rfl⟩) (by assumption) ?_
  simp only [Act.put, List.getElem_toArray, List.getElem_cons_succ, List.getElem_cons_zero, List.setIfInBounds_toArray, List.set_cons_zero, List.set_cons_succ]
  refine wpAnyH_take (i := 13) (oi := _) (v := ?_) rfl (by kernel_rfl) (by kernel_rfl) (by kernel_rfl) (fun _ _ _ h => h) (Or.inl ⟨by kernel_rfl, ?_⟩) (by assumption) ?_
  rotate_left
  ·(intro w hSw; (try dsimp only at hSw); go_simp; try (with_reducible rfl))
  simp only [Act.put, List.getElem_toArray, List.getElem_cons_succ, List.getElem_cons_zero, List.setIfInBounds_toArray, List.set_cons_zero, List.set_cons_succ]
  refine wpAnyH_ready (rs := [14]) (by kernel_rfl) (by simp) ?_
  refine AllReadyH.cons (o := _) rfl (fun K hK => ?_) AllReadyH.nil
  go_simp
  refine hK.out _ _ ?_ (fun hHeld => ?_)
  ·first | assumption | exact s1 | exact HK4.out _ _ (by assumption) | exact HK5.out _ _ (by assumption) | exact HKB.out _ _ (by assumption) hb
  clear hK K
  refine wpAnyH_ready (rs := [15]) (by kernel_rfl) (by simp) ?_
  refine AllReadyH.cons (o := _) rfl (fun K hK => ?_) AllReadyH.nil
  go_simp
  refine hK.out _ _ ?_ (fun hHeld => ?_)
  ·first | assumption | exact s1 | exact HK4.out _ _ (by assumption) | exact HK5.out _ _ (by assumption) | exact HKB.out _ _ (by assumption) hb
  clear hK K
  refine wpAnyH_take (i := 16) (oi := _) (v := ?_) rfl (by kernel_rfl) (by kernel_rfl) (by kernel_rfl) (fun _ _ _ h => h) (Or.inl ⟨by kernel_rfl, ?_⟩) (by assumption) ?_
  rotate_left
  ·(intro w hSw; (try dsimp only at hSw); go_simp; try (with_reducible rfl))
  simp only [Act.put, List.getElem_toArray, List.getElem_cons_succ, List.getElem_cons_zero, List.setIfInBounds_toArray, List.set_cons_zero, List.set_cons_succ]
  refine wpAnyH_done (by kernel_rfl) ?_ _
  have TF := ((T0.perm (List.perm_append_comm (l₁ := [srcR gs qs, rowR g9 (NV qi), rowR g8 (IV qx)]) (l₂ := [rowR g5 (NV noInst), rowR g4 (IV noItem)]))).swap.setRow (IV qx)).swap.setRow (NV qi)
  simp only [Exit.then]
  go_wp2_with fail
  refine ret_row3 (IV qx) (NV qi) TItem_und rfl (by kernel_rfl) TInst_und rfl (by kernel_rfl) rfl rfl rfl rfl (TItem_size _) (TInst_size _) TF.row1 TF.row ?_
  exact ⟨by first | rfl | (simp [hov]; done) | (simp [hov, hgi]; done), TF.below⟩
 case true =>
  have ci := itemGood_any qx n
  cases hgi : goodI qx n
  case false =>
   rw [hgi] at ci
   have CI := Lib.hid ci; clear ci
   refine wp_region_held_drew (S := fun W' => (S W' ∧ row? W' g8 = some (IV qx) ∧ row? W' g9 = some (NV qi))) (by kernel_rfl) s1 (fun hHeld => ?_)
   refine wpAnyH_take (i := 0) (oi := _) (v := ?_) rfl (by kernel_rfl) (by kernel_rfl) (by kernel_rfl) (fun _ _ _ h => h) (Or.inl ⟨by kernel_rfl, ?_⟩) (by assumption) ?_
   rotate_left
   ·(intro w hSw; (try dsimp only at hSw); go_simp; try (with_reducible rfl))
   simp only [Act.put, List.getElem_toArray, List.getElem_cons_zero, List.setIfInBounds_toArray, List.set_cons_zero, List.set_cons_succ]
   refine wpAnyH_take (i := 1) (oi := _) (v := ?_) rfl (by kernel_rfl) (by kernel_rfl) (by kernel_rfl) (fun _ _ _ h => h) (Or.inl ⟨by kernel_rfl, ?_⟩) (by assumption) ?_
   rotate_left
   ·(intro w hSw; (try dsimp only at hSw); go_simp; try (with_reducible rfl))
   simp only [Act.put, List.getElem_toArray, List.getElem_cons_succ, List.getElem_cons_zero, List.setIfInBounds_toArray, List.set_cons_zero, List.set_cons_succ]
   refine wpAnyH_take (i := 2) (oi := _) (v := ?_) rfl (by kernel_rfl) (by kernel_rfl) (by kernel_rfl) (fun _ _ _ h => h) (Or.inl ⟨by kernel_rfl, ?_⟩) (by assumption) ?_
   rotate_left
   ·(intro w hSw; (try dsimp only at hSw); go_simp; try (with_reducible rfl))
   simp only [Act.put, List.getElem_toArray, List.getElem_cons_succ, List.getElem_cons_zero, List.setIfInBounds_toArray, List.set_cons_zero, List.set_cons_succ]
   refine wpAnyH_ready (rs := [3]) (by kernel_rfl) (by simp) ?_
   refine AllReadyH.cons (o := _) rfl (fun K hK => ?_) AllReadyH.nil
   go_simp
   (go_at_call 106; with_reducible refine (overQ T0).mono ?_; rintro e w' ⟨rfl, rfl⟩; rw [hov])
   refine hK.out _ _ ?_ (fun hHeld => ?_)
   ·first | assumption | exact s1 | exact HK4.out _ _ (by assumption) | exact HK5.out _ _ (by assumption) | exact HKB.out _ _ (by assumption) hb
   clear hK K
   refine wpAnyH_take (i := 4) (oi := _) (v := ?_) rfl (by kernel_rfl) (by kernel_rfl) (by kernel_rfl) (fun _ _ _ h => h) (Or.inl ⟨by kernel_rfl, ?_⟩) (by assumption) ?_
   rotate_left
   ·(intro w hSw; (try dsimp only at hSw); go_simp; try (with_reducible rfl))
   simp only [Act.put, List.getElem_toArray, List.getElem_cons_succ, List.getElem_cons_zero, List.setIfInBounds_toArray, List.set_cons_zero, List.set_cons_succ]
   refine wpAnyH_take (i := 5) (oi := _) (v := ?_) rfl (by kernel_rfl) (by kernel_rfl) (by kernel_rfl) (fun _ _ _ h => h) (Or.inl ⟨by kernel_rfl, ?_⟩) (by assumption) ?_
   rotate_left
   ·(intro w hSw; (try dsimp only at hSw); go_simp; try (with_reducible rfl))
   simp only [Act.put, List.getElem_toArray, List.getElem_cons_succ, List.getElem_cons_zero, List.setIfInBounds_toArray, List.set_cons_zero, List.set_cons_succ]
   refine wpAnyH_take (i := 6) (oi := _) (v := ?_) rfl (by kernel_rfl) (by kernel_rfl) (by kernel_rfl) (fun _ _ _ h => h) (Or.inl ⟨by kernel_rfl, ?_⟩) (by assumption) ?_
   rotate_left
   ·(intro w hSw; (try dsimp only at hSw); go_simp; try (with_reducible rfl))
   simp only [Act.put, List.getElem_toArray, List.getElem_cons_succ, List.getElem_cons_zero, List.setIfInBounds_toArray, List.set_cons_zero, List.set_cons_succ]
   refine wpAnyH_ready (rs := [7]) (by kernel_rfl) (by simp) ?_
   refine AllReadyH.cons (o := _) rfl (fun K hK => ?_) AllReadyH.nil
   go_simp
   (go_at_call 107; with_reducible refine (Ans.call CI.out _).mono ?_; rintro e wA ⟨rfl, hb⟩; have TA := T0.pure hb; have ra5 := TA.drop.drop.drop.row; have ra4 := TA.drop.drop.drop.row1; have la5 := row_lt ra5; have la4 := row_lt ra4)
   refine hK.out _ _ ?_ (fun hHeld => ?_)
   ·first | assumption | exact s1 | exact HK4.out _ _ (by assumption) | exact HK5.out _ _ (by assumption) | exact HKB.out _ _ (by assumption) hb
   clear hK K
   refine wpAnyH_take (i := 8) (oi := _) (v := ?_) rfl (by kernel_rfl) (by kernel_rfl) (by kernel_rfl) (fun _ _ _ h => h) (Or.inl ⟨by kernel_rfl, ?_⟩) (by assumption) ?_
   rotate_left
   ·(intro w hSw; (try dsimp only at hSw); go_simp; try (with_reducible rfl))
   simp only [Act.put, List.getElem_toArray, List.getElem_cons_succ, List.getElem_cons_zero, List.setIfInBounds_toArray, List.set_cons_zero, List.set_cons_succ]
   refine wpAnyH_take (i := 9) (oi := _) (v := ?_) rfl (by kernel_rfl) (by kernel_rfl) (by kernel_rfl) (fun _ _ _ h => h) (Or.inl ⟨by kernel_rfl, ?_⟩) (by assumption) ?_
   rotate_left
   ·(intro w hSw; (try dsimp only at hSw); go_simp; try (with_reducible rfl))
   simp only [Act.put, List.getElem_toArray, List.getElem_cons_succ, List.getElem_cons_zero, List.setIfInBounds_toArray, List.set_cons_zero, List.set_cons_succ]
   refine wpAnyH_take (i := 10) (oi := _) (v := undef) rfl (by kernel_rfl) (by kernel_rfl) (by kernel_rfl) (fun _ _ _ h => h) (Or.inr ⟨by kernel_rfl, rfl⟩) (by assumption) ?_
   simp only [Act.put, List.getElem_toArray, List.getElem_cons_succ, List.getElem_cons_zero, List.setIfInBounds_toArray, List.set_cons_zero, List.set_cons_succ]
   refine wpAnyH_take (i := 11) (oi := _) (v := undef) rfl (by kernel_rfl) (by kernel_rfl) (by kernel_rfl) (fun _ _ _ h => h) (Or.inr ⟨by kernel_rfl, rfl⟩) (by assumption) ?_
   simp only [Act.put, List.getElem_toArray, List.getElem_cons_succ, List.getElem_cons_zero, List.setIfInBounds_toArray, List.set_cons_zero, List.set_cons_succ]
   refine wpAnyH_take (i := 12) (oi := _) (v := undef) rfl (by kernel_rfl) (by kernel_rfl) (by kernel_rfl) (fun _ _ _ h => h) (Or.inr ⟨by kernel_rfl, rfl⟩) (by assumption) ?_
   simp only [Act.put, List.getElem_toArray, List.getElem_cons_succ, List.getElem_cons_zero, List.setIfInBounds_toArray, List.set_cons_zero, List.set_cons_succ]
   refine wpAnyH_take (i := 13) (oi := _) (v := ?_) rfl (by kernel_rfl) (by kernel_rfl) (by kernel_rfl) (fun _ _ _ h => h) (Or.inl ⟨by kernel_rfl, ?_⟩) (by assumption) ?_
   rotate_left
   ·(intro w hSw; (try dsimp only at hSw); go_simp; try (with_reducible rfl))
   simp only [Act.put, List.getElem_toArray, List.getElem_cons_succ, List.getElem_cons_zero, List.setIfInBounds_toArray, List.set_cons_zero, List.set_cons_succ]
   refine wpAnyH_ready (rs := [14]) (by kernel_rfl) (by simp) ?_
   refine AllReadyH.cons (o := _) rfl (fun K hK => ?_) AllReadyH.nil
   go_simp
   refine hK.out _ _ ?_ (fun hHeld => ?_)
   ·first | assumption | exact s1 | exact HK4.out _ _ (by assumption) | exact HK5.out _ _ (by assumption) | exact HKB.out _ _ (by assumption) hb
   clear hK K
   refine wpAnyH_ready (rs := [15]) (by kernel_rfl) (by simp) ?_
   refine AllReadyH.cons (o := _) rfl (fun K hK => ?_) AllReadyH.nil
   go_simp
   refine hK.out _ _ ?_ (fun hHeld => ?_)
   ·first | assumption | exact s1 | exact HK4.out _ _ (by assumption) | exact HK5.out _ _ (by assumption) | exact HKB.out _ _ (by assumption) hb
   clear hK K
   refine wpAnyH_take (i := 16) (oi := _) (v := ?_) rfl (by kernel_rfl) (by kernel_rfl) (by kernel_rfl) (fun _ _ _ h => h) (Or.inl ⟨by kernel_rfl, ?_⟩) (by assumption) ?_
   rotate_left
   ·(intro w hSw; (try dsimp only at hSw); go_simp; try (with_reducible rfl))
   simp only [Act.put, List.getElem_toArray, List.getElem_cons_succ, List.getElem_cons_zero, List.setIfInBounds_toArray, List.set_cons_zero, List.set_cons_succ]
   refine wpAnyH_done (by kernel_rfl) ?_ _
   have TF := ((TA.perm (List.perm_append_comm (l₁ := [srcR gs qs, rowR g9 (NV qi), rowR g8 (IV qx)]) (l₂ := [rowR g5 (NV noInst), rowR g4 (IV noItem)]))).swap.setRow (IV qx)).swap.setRow (NV qi)
   simp only [Exit.then]
   go_wp2_with fail
   refine ret_row3 (IV qx) (NV qi) TItem_und rfl (by kernel_rfl) TInst_und rfl (by kernel_rfl) rfl rfl rfl rfl (TItem_size _) (TInst_size _) TF.row1 TF.row ?_
   exact ⟨by first | rfl | (simp [hov]; done) | (simp [hov, hgi]; done), TF.below⟩
  case true =>
   rw [hgi] at ci
   have CI := Lib.hid ci; clear ci
   have CN := Lib.hid (goodN_any qi n)
   refine wp_region_held_drew (S := fun W' => (S W' ∧ row? W' g8 = some (IV qx) ∧ row? W' g9 = some (NV qi))) (by kernel_rfl) s1 (fun hHeld => ?_)
   refine wpAnyH_take (i := 0) (oi := _) (v := ?_) rfl (by kernel_rfl) (by kernel_rfl) (by kernel_rfl) (fun _ _ _ h => h) (Or.inl ⟨by kernel_rfl, ?_⟩) (by assumption) ?_
   rotate_left
   ·(intro w hSw; (try dsimp only at hSw); go_simp; try (with_reducible rfl))
   simp only [Act.put, List.getElem_toArray, List.getElem_cons_zero, List.setIfInBounds_toArray, List.set_cons_zero, List.set_cons_succ]
   refine wpAnyH_take (i := 1) (oi := _) (v := ?_) rfl (by kernel_rfl) (by kernel_rfl) (by kernel_rfl) (fun _ _ _ h => h) (Or.inl ⟨by kernel_rfl, ?_⟩) (by assumption) ?_
   rotate_left
   ·(intro w hSw; (try dsimp only at hSw); go_simp; try (with_reducible rfl))
   simp only [Act.put, List.getElem_toArray, List.getElem_cons_succ, List.getElem_cons_zero, List.setIfInBounds_toArray, List.set_cons_zero, List.set_cons_succ]
   refine wpAnyH_take (i := 2) (oi := _) (v := ?_) rfl (by kernel_rfl) (by kernel_rfl) (by kernel_rfl) (fun _ _ _ h => h) (Or.inl ⟨by kernel_rfl, ?_⟩) (by assumption) ?_
   rotate_left
   ·(intro w hSw; (try dsimp only at hSw); go_simp; try (with_reducible rfl))
   simp only [Act.put, List.getElem_toArray, List.getElem_cons_succ, List.getElem_cons_zero, List.setIfInBounds_toArray, List.set_cons_zero, List.set_cons_succ]
   refine wpAnyH_ready (rs := [3]) (by kernel_rfl) (by simp) ?_
   refine AllReadyH.cons (o := _) rfl (fun K hK => ?_) AllReadyH.nil
   go_simp
   (go_at_call 106; with_reducible refine (overQ T0).mono ?_; rintro e w' ⟨rfl, rfl⟩; rw [hov])
   refine hK.out _ _ ?_ (fun hHeld => ?_)
   ·first | assumption | exact s1 | exact HK4.out _ _ (by assumption) | exact HK5.out _ _ (by assumption) | exact HKB.out _ _ (by assumption) hb
   clear hK K
   refine wpAnyH_take (i := 4) (oi := _) (v := ?_) rfl (by kernel_rfl) (by kernel_rfl) (by kernel_rfl) (fun _ _ _ h => h) (Or.inl ⟨by kernel_rfl, ?_⟩) (by assumption) ?_
   rotate_left
   ·(intro w hSw; (try dsimp only at hSw); go_simp; try (with_reducible rfl))
   simp only [Act.put, List.getElem_toArray, List.getElem_cons_succ, List.getElem_cons_zero, List.setIfInBounds_toArray, List.set_cons_zero, List.set_cons_succ]
   refine wpAnyH_take (i := 5) (oi := _) (v := ?_) rfl (by kernel_rfl) (by kernel_rfl) (by kernel_rfl) (fun _ _ _ h => h) (Or.inl ⟨by kernel_rfl, ?_⟩) (by assumption) ?_
   rotate_left
   ·(intro w hSw; (try dsimp only at hSw); go_simp; try (with_reducible rfl))
   simp only [Act.put, List.getElem_toArray, List.getElem_cons_succ, List.getElem_cons_zero, List.setIfInBounds_toArray, List.set_cons_zero, List.set_cons_succ]
   refine wpAnyH_take (i := 6) (oi := _) (v := ?_) rfl (by kernel_rfl) (by kernel_rfl) (by kernel_rfl) (fun _ _ _ h => h) (Or.inl ⟨by kernel_rfl, ?_⟩) (by assumption) ?_
   rotate_left
   ·(intro w hSw; (try dsimp only at hSw); go_simp; try (with_reducible rfl))
   simp only [Act.put, List.getElem_toArray, List.getElem_cons_succ, List.getElem_cons_zero, List.setIfInBounds_toArray, List.set_cons_zero, List.set_cons_succ]
   refine wpAnyH_ready (rs := [7]) (by kernel_rfl) (by simp) ?_
   refine AllReadyH.cons (o := _) rfl (fun K hK => ?_) AllReadyH.nil
   go_simp
   (go_at_call 107; with_reducible refine (Ans.call CI.out _).mono ?_; rintro e wA ⟨rfl, hb⟩; have TA := T0.pure hb; have ra5 := TA.drop.drop.drop.row; have ra4 := TA.drop.drop.drop.row1; have la5 := row_lt ra5; have la4 := row_lt ra4)
   refine hK.out _ _ ?_ (fun hHeld => ?_)
   ·first | assumption | exact s1 | exact HK4.out _ _ (by assumption) | exact HK5.out _ _ (by assumption) | exact HKB.out _ _ (by assumption) hb
   clear hK K
   refine wpAnyH_take (i := 8) (oi := _) (v := ?_) rfl (by kernel_rfl) (by kernel_rfl) (by kernel_rfl) (fun _ _ _ h => h) (Or.inl ⟨by kernel_rfl, ?_⟩) (by assumption) ?_
   rotate_left
   ·(intro w hSw; (try dsimp only at hSw); go_simp; try (with_reducible rfl))
   simp only [Act.put, List.getElem_toArray, List.getElem_cons_succ, List.getElem_cons_zero, List.setIfInBounds_toArray, List.set_cons_zero, List.set_cons_succ]
   refine wpAnyH_take (i := 9) (oi := _) (v := ?_) rfl (by kernel_rfl) (by kernel_rfl) (by kernel_rfl) (fun _ _ _ h => h) (Or.inl ⟨by kernel_rfl, ?_⟩) (by assumption) ?_
   rotate_left
   ·(intro w hSw; (try dsimp only at hSw); go_simp; try (with_reducible rfl))
   simp only [Act.put, List.getElem_toArray, List.getElem_cons_succ, List.getElem_cons_zero, List.setIfInBounds_toArray, List.set_cons_zero, List.set_cons_succ]
   refine wpAnyH_take (i := 10) (oi := _) (v := ?_) rfl (by kernel_rfl) (by kernel_rfl) (by kernel_rfl) (fun _ _ _ h => h) (Or.inl ⟨by kernel_rfl, ?_⟩) (by assumption) ?_
   rotate_left
   ·(intro w hSw; (try dsimp only at hSw); go_simp; try (with_reducible rfl))
   simp only [Act.put, List.getElem_toArray, List.getElem_cons_succ, List.getElem_cons_zero, List.setIfInBounds_toArray, List.set_cons_zero, List.set_cons_succ]
   refine wpAnyH_take (i := 11) (oi := _) (v := ?_) rfl (by kernel_rfl) (by kernel_rfl) (by kernel_rfl) (fun _ _ _ h => h) (Or.inl ⟨by kernel_rfl, ?_⟩) (by assumption) ?_
   rotate_left
   ·(intro w hSw; (try dsimp only at hSw); go_simp; try (with_reducible rfl))
   simp only [Act.put, List.getElem_toArray, List.getElem_cons_succ, List.getElem_cons_zero, List.setIfInBounds_toArray, List.set_cons_zero, List.set_cons_succ]
   refine wpAnyH_ready (rs := [12]) (by kernel_rfl) (by simp) ?_
   refine AllReadyH.cons (o := _) rfl (fun K hK => ?_) AllReadyH.nil
   go_simp
   (go_at_call 108; with_reducible refine (Ans.call CN.out _).mono ?_; rintro e wB ⟨rfl, hb⟩; have TB := TA.pure hb; have rb5 := TB.drop.drop.drop.row; have rb4 := TB.drop.drop.drop.row1; have lb5 := row_lt rb5; have lb4 := row_lt rb4)
   refine hK.out _ _ ?_ (fun hHeld => ?_)
   ·first | assumption | exact s1 | exact HK4.out _ _ (by assumption) | exact HK5.out _ _ (by assumption) | exact HKB.out _ _ (by assumption) hb
   clear hK K
   refine wpAnyH_take (i := 13) (oi := _) (v := ?_) rfl (by kernel_rfl) (by kernel_rfl) (by kernel_rfl) (fun _ _ _ h => h) (Or.inl ⟨by kernel_rfl, ?_⟩) (by assumption) ?_
   rotate_left
   ·(intro w hSw; (try dsimp only at hSw); go_simp; try (with_reducible rfl))
   simp only [Act.put, List.getElem_toArray, List.getElem_cons_succ, List.getElem_cons_zero, List.setIfInBounds_toArray, List.set_cons_zero, List.set_cons_succ]
   refine wpAnyH_ready (rs := [14]) (by kernel_rfl) (by simp) ?_
   refine AllReadyH.cons (o := _) rfl (fun K hK => ?_) AllReadyH.nil
   go_simp
   refine hK.out _ _ ?_ (fun hHeld => ?_)
   ·first | assumption | exact s1 | exact HK4.out _ _ (by assumption) | exact HK5.out _ _ (by assumption) | exact HKB.out _ _ (by assumption) hb
   clear hK K
   refine wpAnyH_ready (rs := [15]) (by kernel_rfl) (by simp) ?_
   refine AllReadyH.cons (o := _) rfl (fun K hK => ?_) AllReadyH.nil
   go_simp
   refine hK.out _ _ ?_ (fun hHeld => ?_)
   ·first | assumption | exact s1 | exact HK4.out _ _ (by assumption) | exact HK5.out _ _ (by assumption) | exact HKB.out _ _ (by assumption) hb
   clear hK K
   refine wpAnyH_take (i := 16) (oi := _) (v := ?_) rfl (by kernel_rfl) (by kernel_rfl) (by kernel_rfl) (fun _ _ _ h => h) (Or.inl ⟨by kernel_rfl, ?_⟩) (by assumption) ?_
   rotate_left
   ·(intro w hSw; (try dsimp only at hSw); go_simp; try (with_reducible rfl))
   simp only [Act.put, List.getElem_toArray, List.getElem_cons_succ, List.getElem_cons_zero, List.setIfInBounds_toArray, List.set_cons_zero, List.set_cons_succ]
   refine wpAnyH_done (by kernel_rfl) ?_ _
   have TF := ((TB.perm (List.perm_append_comm (l₁ := [srcR gs qs, rowR g9 (NV qi), rowR g8 (IV qx)]) (l₂ := [rowR g5 (NV noInst), rowR g4 (IV noItem)]))).swap.setRow (IV qx)).swap.setRow (NV qi)
   simp only [Exit.then]
   go_wp2_with fail
   refine ret_row3 (IV qx) (NV qi) TItem_und rfl (by kernel_rfl) TInst_und rfl (by kernel_rfl) rfl rfl rfl rfl (TItem_size _) (TInst_size _) TF.row1 TF.row ?_
   exact ⟨by first | rfl | (simp [hov]; done) | (simp [hov, hgi]; done), TF.below⟩
end Go.Proofs.YtomlilkobhkoiaaGreatDoor
/- Layer 8: a plate in memory, and what each call does to it. -/
namespace Go.Proofs.YtomlilkobhkoiaaGreatDoor
open Go.RowKit
/-- Block g is a plate: these bytes, so many safe; b: the block of its bytes. -/
def PL (W : World) (g : Nat) (b : Option Nat) (data : List UInt8) (safe : Nat) : Prop :=
 ∃ v, v.ownBlock = b ∧ row? W g = some #[v, .int .i64 safe] ∧ OwnR W (g + 1) 5 v data.length (bytesV data) ∧ safe ≤ data.length
theorem plate_info : (Tryz.prog.info? 5).map (fun i => (i.zero, i.size, i.bytes)) = some (some (.int .u8 0), 1, 1) := by kernel_rfl
set_option maxHeartbeats 1000000 in
theorem new_any (w : World) : Calls Tryz.prog 6 #[] w fun e w' => e = .returned (.pointer (some ⟨w.heap.size, 0, none⟩)) ∧ PL w' w.heap.size none [] 0 ∧ Below w.heap.size w w' ∧ w'.heap.size = w.heap.size + 1 := by
 go_enter Tryz.func6, Tryz.ntmps6
 go_wp2
 go_ret
 refine ⟨rfl, ⟨.slice none 0 0, rfl, ?_, ?_, Nat.le_refl _⟩, (Below.refl _ _).alloc (Nat.le_refl _) _, by simp⟩
 ·rw [row_alloc, if_pos rfl]; rfl
 ·exact OwnR.nil _ _ _
section
variable {W : World} {g : Nat} {b : Option Nat} {data : List UInt8} {safe : Nat}
set_option maxHeartbeats 1000000 in
theorem len_any (h : PL W g b data safe) : Calls Tryz.prog 223 #[.pointer (some ⟨g, 0, none⟩)] W fun e w' => e = .returned (.int .i64 data.length) ∧ W = w' := by
 obtain ⟨v, hv, hr, ho, hs⟩ := h
 have hc := row_cell hr
 have hf : ∃ A c, v = .slice A data.length c := by
  rcases ho.2 with ⟨rfl, h0⟩ | ⟨g', cap, cur, fz, rfl, _⟩
  ·exact ⟨none, 0, by rw [h0]⟩
  ·exact ⟨_, _, rfl⟩
 obtain ⟨A, c, rfl⟩ := hf
 clear ho hr hv
 go_enter Tryz.func223, Tryz.ntmps223
 go_wp2
 go_ret
 exact ⟨rfl, rfl⟩
end
end Go.Proofs.YtomlilkobhkoiaaGreatDoor
/- Layer 8: Sync, Read, and Append of a row of texts. -/
namespace Go.Proofs.YtomlilkobhkoiaaGreatDoor
open Go.RowKit
set_option linter.unusedVariables false
attribute [local go_sem] row_alloc row_drew row_drewN row_ext row_setCell row_setRow size_ext setRow_alloc setRow_drew
attribute [local go_sem high] cell_alloc frozen_alloc setCell_alloc cell_ext frozen_ext
def cat (l : List ByteArray) : List UInt8 := l.flatMap fun s => s.data.toList
theorem cat_succ (l : List ByteArray) (k : Nat) (h : k < l.length) : cat (l.take (k + 1)) = cat (l.take k) ++ l[k].data.toList := by
 unfold cat; rw [List.take_succ_eq_append_getElem h, List.flatMap_append]; simp
theorem cat_le (l : List ByteArray) (k : Nat) : (cat (l.take k)).length ≤ (cat l).length := by
 conv => rhs; rw [← List.take_append_drop k l]
 unfold cat; rw [List.flatMap_append, List.length_append]; omega
theorem PL.len {W : World} {g : Nat} {b : Option Nat} {data : List UInt8} {safe : Nat} (h : PL W g b data safe) : ∃ A c, row? W g = some #[.slice A data.length c, .int .i64 safe] := by
 obtain ⟨v, hv, hr, ho, hs⟩ := h
 rcases ho.2 with ⟨rfl, h0⟩ | ⟨g', cap, cur, fz, rfl, _⟩
 ·exact ⟨none, 0, by rw [h0]; exact hr⟩
 ·exact ⟨_, _, hr⟩
theorem PL.lt {W : World} {g : Nat} {b : Option Nat} {data : List UInt8} {safe : Nat} (h : PL W g b data safe) : g < W.heap.size := by
 obtain ⟨v, hv, hr, ho, hs⟩ := h; exact row_lt hr
theorem PL.blk {W : World} {g : Nat} {b : Option Nat} {data : List UInt8} {safe : Nat} (h : PL W g b data safe) {k : Nat} (hk : b = some k) : g < k ∧ k < W.heap.size := by
 obtain ⟨v, hv, hr, ho, hs⟩ := h
 have := ho.lt k (hv.trans hk); omega
section
variable {W : World} {g : Nat} {b : Option Nat} {data : List UInt8} {safe : Nat}
set_option maxHeartbeats 1000000 in
theorem read_any (h : PL W g b data safe) : Calls Tryz.prog 58 #[.pointer (some ⟨g, 0, none⟩)] W fun e w' => e = .returned (.string ⟨data.toArray⟩) ∧ W = w' := by
 obtain ⟨v, hv, hr, ho, hs⟩ := h
 have hc := row_cell hr
 have hcv : (convert 73 9 v).run Tryz.prog W = .ok (.string ⟨data.toArray⟩) W := by
  rcases ho.2 with ⟨rfl, h0⟩ | ⟨g', cap, cur, fz, rfl, hg', _⟩
  ·have : data = [] := List.eq_nil_of_length_eq_zero h0
   subst this
   exact run_convert_bytes_nil W _ _ Tryz.underlying73 Tryz.underlying5 0 0 _ Tryz.underlying9
  ·refine run_convert_bytes_back W _ _ _ _ _ data Tryz.underlying73 Tryz.underlying5 Tryz.underlying9 fun j hj => ?_
   refine OwnR.cells ho (g := g') rfl j _ ?_
   simp [bytesV, byteV, List.getElem?_eq_getElem hj]
 clear ho hr hv
 go_enter Tryz.func58, Tryz.ntmps58
 go_wp2
 go_ret
 exact ⟨rfl, rfl⟩
set_option maxHeartbeats 1000000 in
theorem sync_any (h : PL W g b data safe) : Calls Tryz.prog 97 #[.pointer (some ⟨g, 0, none⟩)] W fun e w' => e = .returned (.int .i64 0) ∧ PL w' g b data data.length ∧ Touch W w' g none ∧ w'.heap.size = W.heap.size := by
 have h0 := h
 obtain ⟨A, c, hr⟩ := h.len
 have hc := row_cell hr
 have hf := row_frozen hr
 have hlt := row_lt hr
 obtain ⟨v, hv, hr1, ho, hs⟩ := h0
 obtain rfl : Value.slice A data.length c = v := by rw [hr] at hr1; injection hr1 with e; injection e with e; injection e
 have Hr := Lib.hid hr; have Ho := Lib.hid ho; clear hr hr1 ho
 go_enter Tryz.func97, Tryz.ntmps97
 go_wp2
 go_ret
 refine ⟨rfl, ⟨_, hv, ?_, (grown_cell _ _ _ _).own Ho.out (by omega), Nat.le_refl _⟩, grown_cell _ _ _ _, by simp [World.setCell]⟩
 rw [row_setCell, if_pos rfl, Hr.out]; rfl
end
end Go.Proofs.YtomlilkobhkoiaaGreatDoor
