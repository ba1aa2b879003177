/- Several texts in one. -/
import Derived.Test.YtomlilkobhkoiaaGreatDoorQ9
import Derived.Test.YtomlilkobhkoiaaGreatDoorQ5
import Derived.Deep.Cut
import Derived.Test.YtomlilkobhkoiaaGreatDoorQ27
import Derived.Test.YtomlilkobhkoiaaGreatDoorQ4
import Derived.ArgAppend
import Derived.Test.YtomlilkobhkoiaaGreatDoorQ7
import Derived.WideKeyEntry
import Derived.Deep.RegionLaw
import Derived.Deep.RegionLawGrows
import Derived.Test.YtomlilkobhkoiaaGreatDoorQ3
import Derived.Test.YtomlilkobhkoiaaGreatDoorQ16
import Derived.Test.YtomlilkobhkoiaaGreatDoorQ6
/- Layer 22: a client's deed is refused; the space of a replica; what goes out. -/
namespace Go.Proofs.YtomlilkobhkoiaaGreatDoor
open Go.RowKit Go.Shelf
set_option linter.unusedVariables false
set_option maxRecDepth 20000
attribute [local go_sem] Oper.semAt_some
attribute [local go_sem] row_alloc row_drew row_drewN row_ext row_setCell row_setRow size_ext setRow_alloc setRow_drew loadOf storeOf piece_lit loadVal_at storeVal_at allOne_lit buildOf buildRes_some
attribute [local go_sem high] cell_alloc frozen_alloc setCell_alloc cell_ext frozen_ext cell_setRow frozen_setRow
attribute [local go_sem ↓] TItem_ld0 TItem_st0 TItem_fd0 TItem_bd0
attribute [local go_sem] TItem_size TItem_one TItem_piece TItem_c0 TItem_c1 TItem_set_rep TItem_set_num TItem_ld TItem_st TItem_f_rep TItem_f_num TItem_bd TItem_fl TItem_fl_rep TItem_fl_num
attribute [local go_sem high] TItem_eql TItem_neq
attribute [local go_sem ↓] TBallot_ld0 TBallot_st0 TBallot_fd0 TBallot_bd0
attribute [local go_sem] TBallot_size TBallot_one TBallot_piece TBallot_c0 TBallot_c1 TBallot_set_round TBallot_set_rep TBallot_ld TBallot_st TBallot_f_round TBallot_f_rep TBallot_bd TBallot_fl TBallot_fl_round TBallot_fl_rep
attribute [local go_sem high] TBallot_eql TBallot_neq
attribute [local go_sem ↓] TCall_ld0 TCall_st0 TCall_fd0 TCall_bd0
attribute [local go_sem] TCall_size TCall_one TCall_piece TCall_c0 TCall_c1 TCall_c2 TCall_c3 TCall_c4 TCall_c5 TCall_c6 TCall_c7 TCall_c8 TCall_c9 TCall_c10 TCall_c11 TCall_c12 TCall_c13 TCall_p_deed TCall_put_deed TCall_p_deps TCall_put_deps TCall_set_seq TCall_ld TCall_st TCall_f_deed TCall_f_deps TCall_f_seq TCall_bd TCall_fl TCall_fl_deed TCall_fl_deps TCall_fl_seq
attribute [local go_sem high] TCall_eql TCall_neq
attribute [local go_sem ↓] TDeed_ld0 TDeed_st0 TDeed_fd0 TDeed_bd0
attribute [local go_sem] TDeed_size TDeed_one TDeed_piece TDeed_c0 TDeed_c1 TDeed_c2 TDeed_c3 TDeed_c4 TDeed_c5 TDeed_set_kind TDeed_set_key TDeed_set_val TDeed_set_ver TDeed_set_ses TDeed_set_num TDeed_ld TDeed_st TDeed_f_kind TDeed_f_key TDeed_f_val TDeed_f_ver TDeed_f_ses TDeed_f_num TDeed_bd TDeed_fl TDeed_fl_kind TDeed_fl_key TDeed_fl_val TDeed_fl_ver TDeed_fl_ses TDeed_fl_num
attribute [local go_sem high] TDeed_eql TDeed_neq
attribute [local go_sem ↓] index_deps0 load_deps0 store_deps0
attribute [local go_sem] DV_piece DV_size DV_one index_deps load_deps store_deps
attribute [local go_sem high] TDeps_eql TDeps_neq
attribute [local go_sem ↓] TMsg_ld0 TMsg_st0 TMsg_fd0 TMsg_bd0
attribute [local go_sem] TMsg_size TMsg_one TMsg_piece TMsg_c0 TMsg_c1 TMsg_c2 TMsg_c3 TMsg_c4 TMsg_c5 TMsg_c6 TMsg_c7 TMsg_c8 TMsg_c9 TMsg_c10 TMsg_c11 TMsg_c12 TMsg_c13 TMsg_c14 TMsg_c15 TMsg_c16 TMsg_c17 TMsg_c18 TMsg_c19 TMsg_c20 TMsg_c21 TMsg_c22 TMsg_c23 TMsg_c24 TMsg_set_kind TMsg_set_frm TMsg_set_to TMsg_p_item TMsg_put_item TMsg_p_bal TMsg_put_bal TMsg_p_vote TMsg_put_vote TMsg_set_status TMsg_set_same TMsg_p_call TMsg_put_call TMsg_ld TMsg_st TMsg_f_kind TMsg_f_frm TMsg_f_to TMsg_f_item TMsg_f_bal TMsg_f_vote TMsg_f_status TMsg_f_same TMsg_f_call TMsg_bd TMsg_fl TMsg_fl_kind TMsg_fl_frm TMsg_fl_to TMsg_fl_item TMsg_fl_bal TMsg_fl_vote TMsg_fl_status TMsg_fl_same TMsg_fl_call
attribute [local go_sem high] TMsg_eql TMsg_neq
section
variable {w W : World} {F : Nat → Prop} {R : List Res} {g lg p gx bk bs safe s n : Nat} {q : RpB} {inb out : Value} {I : Idx} {D : List UInt8} {m : RowsM} {d : Deed}
set_option maxHeartbeats 8000000 in
theorem rpSubmitBad (hb : (goodB d && !(d.kind == 0)) = false) (T : Sts w F W R) :
    Calls Tryz.prog 7 #[.pointer (some ⟨g, 0, none⟩), .agg (EV d)] W fun e W' => e = .returned (.tuple #[.agg (IV noItem), .int .i64 1]) ∧ Sts w F W' R := by
  have hdg := good4_any d
  have T3 := (T.new (EV d) 31).new (IV noItem) 33
  simp only [World.size_alloc] at T3
  have HT := Lib.hid T3; clear T T3
  cases hg : goodB d
  case false =>
    rw [hg] at hdg
    have HDG := Lib.hid hdg; clear hdg hb
    go_enter Tryz.func7, Tryz.ntmps7
    have rd := HT.out.row1; have ld := row_lt rd
    go_wp2_with fail
    refine (HDG.out.at HT.out).mono ?_
    clear HT rd ld HDG
    rintro e3 w3 ⟨rfl, T⟩
    generalize W.heap.size + 1 = bx at *
    generalize W.heap.size = bd at *
    have rx := T.row; have lx := row_lt rx
    have HT := Lib.hid (T.setRow (IV noItem)); clear T
    go_wp2
    refine ret_row2 (IV noItem) TItem_und rfl (by kernel_rfl) rfl rfl rfl (TItem_size _) HT.out.row ?_
    exact ⟨rfl, HT.out.drop.drop⟩
  case true =>
    rw [hg] at hdg hb
    have hd0 : (d.kind == 0) = true := by simpa using hb
    have HDG := Lib.hid hdg; clear hdg hb
    go_enter Tryz.func7, Tryz.ntmps7
    have rd := HT.out.row1; have ld := row_lt rd
    go_wp2_with fail
    refine (HDG.out.at HT.out).mono ?_
    clear HT rd ld HDG
    rintro e3 w3 ⟨rfl, T⟩
    generalize W.heap.size + 1 = bx at *
    generalize W.heap.size = bd at *
    have rd := T.row1; have ld := row_lt rd
    have hd0' : w3.cell? ⟨bd, 0, none⟩ = some (.int .i64 d.kind) := row_cell rd 0
    have rx := T.row; have lx := row_lt rx
    have HT := Lib.hid (T.setRow (IV noItem)); clear T
    go_wp2
    refine ret_row2 (IV noItem) TItem_und rfl (by kernel_rfl) rfl rfl rfl (TItem_size _) HT.out.row ?_
    exact ⟨rfl, HT.out.drop.drop⟩
set_option maxHeartbeats 16000000 in
theorem rpSubmitFull (hm : RowsOk m) (ht0 : topM m s = 64) (hd : goodB d = true) (hd0 : (d.kind == 0) = false) (T : Sts w F W (spL q.sp lg p gx bk bs I D safe m ++ (rowR g (rpV q n s inb out) :: R))) :
    Calls Tryz.prog 7 #[.pointer (some ⟨g, 0, none⟩), .agg (EV d)] W fun e W' => e = .returned (.tuple #[.agg (IV noItem), .int .i64 6]) ∧ Sts w F W' (spL q.sp lg p gx bk bs I D safe m ++ (rowR g (rpV q n s inb out) :: R)) := by
  obtain ⟨y, hy⟩ : ∃ y : Item, y = ⟨s, topM m s + 1⟩ := ⟨_, rfl⟩
  have hdg := good4_any d
  rw [hd] at hdg
  have hNX : ∀ W' R', Sts w F W' (packR (spL q.sp lg p gx bk bs I D safe m) :: R') → Calls Tryz.prog 21 #[.pointer (some ⟨q.sp, 0, none⟩), .int .i64 s] W' fun e W2 => e = .returned (.tuple #[.agg (IV y), .bool false]) ∧ Sts w F W2 (packR (spL q.sp lg p gx bk bs I D safe m) :: R') := by
    intro W' R' T'
    have h := spNextT hm (s : Int) T'.unpack
    have h2 : canNext m (s : Int) = false := by unfold canNext; rw [ht0]; simp
    rw [h2, ← hy] at h
    exact h.mono fun _ _ ⟨h1, h3⟩ => ⟨h1, Sts.pack (L := spL q.sp lg p gx bk bs I D safe m) h3⟩
  have T0 := Sts.pack (L := spL q.sp lg p gx bk bs I D safe m) T
  have HUS := Lib.hid fun (W' : World) (R' : List Res) (T' : Sts w F W' (packR (spL q.sp lg p gx bk bs I D safe m) :: R')) => T'.unpack
  clear T hd hm ht0 hy
  generalize packR (spL q.sp lg p gx bk bs I D safe m) = SP at *
  have T3 := (T0.new (EV d) 31).new (IV noItem) 33
  simp only [World.size_alloc] at T3
  have T4 := T3.ord [3, 1, 0, 2]
  have HT := Lib.hid T4; have HNX := Lib.hid hNX; have HDG := Lib.hid hdg
  clear T0 T3 T4 hNX hdg
  go_enter Tryz.func7, Tryz.ntmps7
  have rd := HT.out.row1; have ld := row_lt rd
  go_wp2_with fail
  refine (HDG.out.at HT.out).mono ?_
  clear HT rd ld HDG
  rintro e3 w3 ⟨rfl, T⟩
  generalize W.heap.size + 1 = bx at *
  generalize W.heap.size = bd at *
  have rd := T.row1; have ld := row_lt rd
  have hd0' : w3.cell? ⟨bd, 0, none⟩ = some (.int .i64 d.kind) := row_cell rd 0
  have HT := Lib.hid T; clear T
  go_upto_region 5 with fail
  clear hd0' rd ld
  go_cut [6, 7] (fun u6 u7 wx => u7 = .bool false ∧ ∃ b6, u6 = .pointer (some ⟨b6, 0, none⟩) ∧ Sts w F wx (rowR b6 (IV y) :: rowR g (rpV q n s inb out) :: rowR bd (EV d) :: rowR bx (IV noItem) :: SP :: R))
  case first =>
    have FS : ∀ W' R', Sts w F W' (rowR g (rpV q n s inb out) :: R') → (W'.cell? ⟨g, 3, none⟩ = some (.pointer (some ⟨q.sp, 0, none⟩)) ∧ W'.cell? ⟨g, 1, none⟩ = some (.int .i64 s)) := fun W' R' T' => ⟨row_cell T'.row 3, row_cell T'.row 1⟩
    have HT2 := Lib.hid HT.out.drew
    have S0 := FS _ _ HT2.out
    have HFS := Lib.hid FS
    clear FS HT
    refine wp_region_held_drew (S := fun W' => W'.cell? ⟨g, 3, none⟩ = some (.pointer (some ⟨q.sp, 0, none⟩)) ∧ W'.cell? ⟨g, 1, none⟩ = some (.int .i64 s)) (by kernel_rfl) S0 (fun hHeld => ?_)
    clear S0
    generalize w3.drew = w4 at *
    refine tkH 0 rfl ?_
    simp only [Act.put, List.setIfInBounds_toArray, List.set_cons_zero, List.set_cons_succ]
    refine tkH 1 rfl ?_
    go_frame
    refine tkH 2 rfl ?_
    go_frame
    refine tkH 3 rfl ?_
    go_frame
    refine tkH 4 rfl ?_
    go_frame
    refine tkH 5 rfl ?_
    go_frame
    refine tkH 6 rfl ?_
    go_frame
    refine tkH 7 rfl ?_
    go_frame
    refine wpAnyH_ready (rs := [8, 12]) (by kernel_rfl) (by simp) ?_
    refine AllReadyH.cons (o := _) rfl (fun K hK => ?_) ?_
    · go_simp
      refine (HNX.out _ _ (HT2.out.ord [3, 0, 1, 2])).mono ?_
      clear HT2
      rintro e5 w5 ⟨rfl, T⟩
      have T := T.ord [1, 2, 3, 0]
      refine hK.out _ _ (HFS.out _ _ T) (fun hHeld => ?_)
      clear hK K
      refine tkH 9 rfl ?_
      simp only [Act.put, List.setIfInBounds_toArray, List.set_cons_zero, List.set_cons_succ]
      refine tkH 10 rfl ?_
      go_frame
      refine tkH 11 rfl ?_
      go_frame
      have T2 := T.new (IV noItem) 33
      refine wpAnyH_ready (rs := [12]) (by kernel_rfl) (by simp) ?_
      refine AllReadyH.cons (o := _) rfl (fun K hK => ?_) AllReadyH.nil
      go_simp
      refine hK.out _ _ (HFS.out _ _ T2.drop) (fun hHeld => ?_)
      clear hK K
      have rn := T2.row; have ln := row_lt rn
      have HT3 := Lib.hid (T.new (IV y) 33); clear T T2
      refine wpAnyH_ready (rs := [13]) (by kernel_rfl) (by simp) ?_
      refine AllReadyH.cons (o := _) rfl (fun K hK => ?_) AllReadyH.nil
      go_simp
      refine hK.out _ _ (HFS.out _ _ HT3.out.drop) (fun hHeld => ?_)
      clear hK K rn ln
      refine tkH 14 rfl ?_
      simp only [Act.put, List.setIfInBounds_toArray, List.set_cons_zero, List.set_cons_succ]
      refine wpAnyH_done (by kernel_rfl) ?_ _
      try simp only [Exit.then]
      go_step
      go_meet
      case rel => exact ⟨rfl, _, rfl, HT3.out⟩
    · have T2 := HT2.out.new (IV noItem) 33
      refine AllReadyH.cons (o := _) rfl (fun K hK => ?_) AllReadyH.nil
      go_simp
      refine hK.out _ _ (HFS.out _ _ T2.drop) (fun hHeld => ?_)
      clear hK K HT2
      have HT2 := Lib.hid T2; clear T2
      refine wpAnyH_ready (rs := [8]) (by kernel_rfl) (by simp) ?_
      refine AllReadyH.cons (o := _) rfl (fun K hK => ?_) AllReadyH.nil
      go_simp
      refine (HNX.out _ _ (HT2.out.ord [4, 0, 1, 2, 3])).mono ?_
      clear HT2
      rintro e5 w5 ⟨rfl, T⟩
      have T := T.ord [1, 2, 3, 4, 0]
      refine hK.out _ _ (HFS.out _ _ T.drop) (fun hHeld => ?_)
      clear hK K
      refine tkH 9 rfl ?_
      simp only [Act.put, List.setIfInBounds_toArray, List.set_cons_zero, List.set_cons_succ]
      refine tkH 10 rfl ?_
      go_frame
      refine tkH 11 rfl ?_
      go_frame
      have rn := T.row; have ln := row_lt rn
      have HT3 := Lib.hid (T.setRow (IV y)); clear T
      refine wpAnyH_ready (rs := [13]) (by kernel_rfl) (by simp) ?_
      refine AllReadyH.cons (o := _) rfl (fun K hK => ?_) AllReadyH.nil
      go_simp
      refine hK.out _ _ (HFS.out _ _ HT3.out.drop) (fun hHeld => ?_)
      clear hK K rn ln
      refine tkH 14 rfl ?_
      simp only [Act.put, List.setIfInBounds_toArray, List.set_cons_zero, List.set_cons_succ]
      refine wpAnyH_done (by kernel_rfl) ?_ _
      try simp only [Exit.then]
      go_step
      go_meet
      case rel => exact ⟨rfl, _, rfl, HT3.out⟩
  case rest =>
    obtain ⟨rfl, b6, rfl, T⟩ := hcut
    clear HT HNX
    have T := T.ord [3, 4, 1, 0, 2]
    have rx := T.row; have lx := row_lt rx
    have HT := Lib.hid (T.setRow (IV noItem)); clear T
    go_wp2
    refine ret_row2 (IV noItem) TItem_und rfl (by kernel_rfl) rfl rfl rfl (TItem_size _) HT.out.row ?_
    exact ⟨rfl, HUS.out _ _ (HT.out.ord [0, 3, 4, 1, 2]).drop.drop.drop⟩
theorem rpSpaceT (T : Sts w F W (rowR g (rpV q n s inb out) :: R)) :
    Calls Tryz.prog 9 #[.pointer (some ⟨g, 0, none⟩)] W fun e W' => e = .returned (.pointer (some ⟨q.sp, 0, none⟩)) ∧ Sts w F W' (rowR g (rpV q n s inb out) :: R) := by
  have rg := T.row; have lgg := row_lt rg; have cg := row_cell rg 3
  have HT := Lib.hid T; clear T
  go_enter Tryz.func9, Tryz.ntmps9
  go_wp2
  go_ret
  exact ⟨rfl, HT.out⟩
set_option maxHeartbeats 8000000 in
theorem rpFlushT (T : Sts w F W (spL q.sp lg p gx bk bs I D safe m ++ (rowR g (rpV q n s inb out) :: R))) :
    Calls Tryz.prog 11 #[.pointer (some ⟨g, 0, none⟩)] W fun e W' => e = .returned (.tuple #[out, .slice none 0 0]) ∧ Sts w F W' (spL q.sp lg p gx bk bs I D D.length m ++ (rowR g (rpV q n s inb (.slice none 0 0)) :: R)) := by
  have HS := Lib.hid (spSyncT T)
  have T0 := Sts.pack (L := spL q.sp lg p gx bk bs I D safe m) T
  have rg := T0.row1; have lgg := row_lt rg; have cg := row_cell rg 3
  clear T T0
  go_enter Tryz.func11, Tryz.ntmps11
  go_wp2_with fail
  refine HS.out.mono ?_
  clear HS rg lgg cg
  rintro e w3 ⟨rfl, T⟩
  have T0 := (Sts.pack (L := spL q.sp lg p gx bk bs I D D.length m) T).swap
  have rg := T0.row; have lgg := row_lt rg; have c12 := row_cell rg 12; have c13 := row_cell rg 13
  have HT := Lib.hid T0; clear T T0
  go_upto_region 4 with fail
  go_quiet (fail)
  have HT2 := Lib.hid (HT.out.drewN nq)
  clear rg lgg c12 c13 HT
  generalize w3.drewN nq = w4 at *
  have rg := HT2.out.row; have lgg := row_lt rg; have c12 := row_cell rg 12; have c13 := row_cell rg 13; have f12 := row_frozen rg 12; have f13 := row_frozen rg 13
  have HT3 := Lib.hid ((HT2.out.setCell 12 (.slice none 0 0)).setCell 13 (.slice none 0 0))
  clear HT2
  go_wp2
  go_ret2
  exact ⟨rfl, HT3.out.swap.unpack⟩
end
end Go.Proofs.YtomlilkobhkoiaaGreatDoor
/- A queue of at most one thing: a slice that is cut from the front, and appended to. Nothing of the program stands here. -/
namespace Go.Proofs.YtomlilkobhkoiaaGreatDoor
open Go.RowKit
set_option linter.unusedVariables false
/-- An empty slice of the call's own, wherever it lies. -/
def emptR (size : Nat) (v : Value) : Res := exR fun q : Option Addr ⊕ (Nat × Nat × Nat × Array Value) => match q with
  | .inl a => andR (v = .slice a 0 0) (packR [])
  | .inr q => andR (v = .slice (some ⟨q.1, q.2.1, none⟩) 0 q.2.2.1 ∧ q.2.1 + q.2.2.1 * size ≤ q.2.2.2.size) (rowR q.1 q.2.2.2)
/-- A slice of one thing. -/
def oneR (size : Nat) (v : Value) (X : Array Value) : Res := exR fun q : Nat × Nat × Nat × Array Value => andR (v = .slice (some ⟨q.1, q.2.1, none⟩) 1 q.2.2.1 ∧ 1 ≤ q.2.2.1 ∧ X.size = size ∧ q.2.1 + q.2.2.1 * size ≤ q.2.2.2.size ∧ ∀ j u, X[j]? = some u → q.2.2.2[q.2.1 + j]? = some u) (rowR q.1 q.2.2.2)
section
variable {P : Program} {w W : World} {F : Nat → Prop} {R : List Res} {v : Value} {size : Nat} {X : Array Value}
theorem Sts.emptNil (T : Sts w F W R) (a : Option Addr) : Sts w F W (emptR size (.slice a 0 0) :: R) :=
  Sts.close (f := fun q : Option Addr ⊕ (Nat × Nat × Nat × Array Value) => match q with
    | .inl a' => andR (Value.slice a 0 0 = .slice a' 0 0) (packR [])
    | .inr q => andR (Value.slice a 0 0 = .slice (some ⟨q.1, q.2.1, none⟩) 0 q.2.2.1 ∧ q.2.1 + q.2.2.1 * size ≤ q.2.2.2.size) (rowR q.1 q.2.2.2)) (.inl a) (Sts.with rfl (Sts.pack (L := []) T))
theorem Sts.empt (T : Sts w F W (emptR size v :: R)) : (∃ a, v = .slice a 0 0 ∧ Sts w F W R) ∨ ∃ g o c cur, v = .slice (some ⟨g, o, none⟩) 0 c ∧ o + c * size ≤ cur.size ∧ Sts w F W (rowR g cur :: R) := by
  obtain ⟨q, T⟩ := T.open
  rcases q with a | ⟨g, o, c, cur⟩
  · obtain ⟨h, T⟩ := T.and
    exact .inl ⟨a, h, T.drop⟩
  · obtain ⟨⟨h1, h2⟩, T⟩ := T.and
    exact .inr ⟨g, o, c, cur, h1, h2, T⟩
theorem Sts.emptShut {g o c : Nat} {cur : Array Value} (T : Sts w F W (rowR g cur :: R)) (h : o + c * size ≤ cur.size) : Sts w F W (emptR size (.slice (some ⟨g, o, none⟩) 0 c) :: R) :=
  Sts.close (f := fun q : Option Addr ⊕ (Nat × Nat × Nat × Array Value) => match q with
    | .inl a' => andR (Value.slice (some ⟨g, o, none⟩) 0 c = .slice a' 0 0) (packR [])
    | .inr q => andR (Value.slice (some ⟨g, o, none⟩) 0 c = .slice (some ⟨q.1, q.2.1, none⟩) 0 q.2.2.1 ∧ q.2.1 + q.2.2.1 * size ≤ q.2.2.2.size) (rowR q.1 q.2.2.2)) (.inr (g, o, c, cur)) (Sts.with ⟨rfl, h⟩ T)
theorem Sts.one (T : Sts w F W (oneR size v X :: R)) : ∃ g o c cur, v = .slice (some ⟨g, o, none⟩) 1 c ∧ 1 ≤ c ∧ X.size = size ∧ o + c * size ≤ cur.size ∧ (∀ j u, X[j]? = some u → cur[o + j]? = some u) ∧ Sts w F W (rowR g cur :: R) := by
  obtain ⟨⟨g, o, c, cur⟩, T⟩ := T.open
  obtain ⟨⟨h1, h2, h3, h4, h5⟩, T⟩ := T.and
  exact ⟨g, o, c, cur, h1, h2, h3, h4, h5, T⟩
theorem Sts.oneShut {g o c : Nat} {cur : Array Value} (T : Sts w F W (rowR g cur :: R)) (h1 : 1 ≤ c) (h2 : X.size = size) (h3 : o + c * size ≤ cur.size) (h4 : ∀ j u, X[j]? = some u → cur[o + j]? = some u) : Sts w F W (oneR size (.slice (some ⟨g, o, none⟩) 1 c) X :: R) :=
  Sts.close (f := fun q : Nat × Nat × Nat × Array Value => andR (Value.slice (some ⟨g, o, none⟩) 1 c = .slice (some ⟨q.1, q.2.1, none⟩) 1 q.2.2.1 ∧ 1 ≤ q.2.2.1 ∧ X.size = size ∧ q.2.1 + q.2.2.1 * size ≤ q.2.2.2.size ∧ ∀ j u, X[j]? = some u → q.2.2.2[q.2.1 + j]? = some u) (rowR q.1 q.2.2.2)) (g, o, c, cur) (Sts.with ⟨rfl, h1, h2, h3, h4⟩ T)
/-- The first one is taken. -/
theorem Sts.oneCut {g o c : Nat} {cur : Array Value} (T : Sts w F W (rowR g cur :: R)) (h1 : 1 ≤ c) (h3 : o + c * size ≤ cur.size) : Sts w F W (emptR size (.slice (if c = 1 then some ⟨g, o, none⟩ else some ⟨g, o + size, none⟩) 0 (c - 1)) :: R) := by
  by_cases hc : c = 1
  · subst hc
    rw [if_pos rfl]
    exact T.drop.emptNil _
  · rw [if_neg hc]
    refine T.emptShut ?_
    obtain ⟨d, rfl⟩ : ∃ d, c = d + 1 := ⟨c - 1, by omega⟩
    rw [Nat.add_sub_cancel]
    rw [Nat.add_mul] at h3
    omega
/-- A new slice of one thing. -/
theorem Sts.oneNew {e : TypeId} {W' : World} {v' : Value} (T : Sts w F W R) (hX : X.size = size) (h0 : 0 < size) (how : W'.ownsRow W.heap.size e size v' 1 X.toList) (hg : W.grownBy W' none) : Sts w F W' (oneR size v' X :: R) := by
  rcases how.2 with ⟨-, h⟩ | ⟨g, c, cur, rfl, hb, hgr, h1, h2, h3, h4⟩
  · cases h
  · have hr : row? W' g = some cur := by unfold row?; rw [hgr]; rfl
    have hbl : Below W.heap.size W W' := ⟨hg.os, hg.tape, hg.output, hg.size, fun k hk => hg.block k hk (by simp)⟩
    refine (T.found hbl hb hr).oneShut h1 hX (by omega) fun j u hj => ?_
    have hj1 : j < size := by have := (Array.getElem?_eq_some_iff.1 hj).1; omega
    rw [Nat.zero_add]
    have : (cur.toList.take (1 * size))[j]? = some u := by rw [h4]; simpa using hj
    rw [List.getElem?_take] at this
    split at this
    · simpa using this
    · cases this
end
end Go.Proofs.YtomlilkobhkoiaaGreatDoor
/- Appending to an empty queue inside a region that draws; a map's entry made ready, then stored. Nothing of the program stands here. -/
namespace Go.Proofs.YtomlilkobhkoiaaGreatDoor
open Go.RowKit
open Go.WideMaps (KeyLaw)
open Go.ChangeMaps (setBlock)
set_option linter.unusedVariables false
section
variable {P : Program} {w W : World} {F : Nat → Prop} {R : List Res}
theorem step_append_empt {ops : Array Oper} {o : Oper} {a : Act} {K : Act → World → Prop} {Q : Exit → Act → World → Prop} {E : Prop} (hgd : o.guard = none) (s x : Operand) (t : TypeId)
    (ho : o.op = .call { callee := .builtin .append, args := #[s, x], argTypes := #[t, t] })
    (e : TypeId) (i : TypeInfo) (z : Value) (size bytes : Nat) (ht : P.underlying t = some (.slice e)) (hi : P.info? e = some i) (hz : i.zero = some z)
    (hsize : i.size = size) (hby : i.bytes = bytes) (hzs : z.cells.size = size) (hsz : 0 < size)
    (v : Value) (hs : a.eval s = v) (T : Sts w F W (emptR size v :: R))
    (ad : Addr) (c : Nat) (X : Array Value) (hx : a.eval x = .slice (some ad) 1 c) (hX : X.size = size) (hnews : ∀ j u, X.toList[j]? = some u → W.cell? (ad.add j) = some u) (h1 : ∀ u ∈ X.toList, u.oneCell' = true)
    (hbytes : 1 * bytes ≤ 140737488355328)
    (h : ∀ g o' c' w', Sts w F w' (oneR size (.slice (some ⟨g, o', none⟩) 1 c') X :: R) → K (a.put o.dst (.slice (some ⟨g, o', none⟩) 1 c')) w') :
    if Region.wanted o (yielded ops a.tmps) = true then Oper.wp P o a W K Q else E := by
  have hl : X.toList.length = 1 * size := by simpa using hX
  have h' : ∀ v' w', Sts w F w' (oneR size v' X :: R) → K (a.put o.dst v') w' := fun v' w' T' => by
    obtain ⟨g, o', c', cur, rfl, -⟩ := T'.one
    exact h g o' c' w' T'
  rcases T.empt with ⟨ao, rfl, T1⟩ | ⟨g, of, cp, cur, rfl, hle, T1⟩ <;> clear T <;> have T := T1 <;> clear T1
  · refine step_append_grows (P := P) (w := W) hgd s x t ho e i z size bytes ht hi hz hsize hby hzs hsz ao 0 0 [] hs (fun _ => ⟨rfl, rfl⟩) (by simp) (fun _ _ j u hj => by simp at hj) ad 1 c X.toList hx hl hnews h1 (by omega) (by simp [maxLen]) (by omega) fun v' w' how hg => ?_
    exact h' v' w' (T.oneNew hX hsz how hg)
  · have hr := T.row
    by_cases hroom : 0 + 1 ≤ cp
    · have hm : 1 * size ≤ cp * size := Nat.mul_le_mul_right _ (by omega)
      refine step_append_room (P := P) (w := W) hgd s x t ho e i size ht hi hsize g of 0 cp hs ad 1 c X.toList hx hl hnews h1 hroom (fun j hj => ?_) ?_
      · rw [hl] at hj
        refine ⟨?_, row_frozen hr _⟩
        rw [row_cell hr, Array.getElem?_eq_getElem (by omega)]; rfl
      · refine h' _ _ ?_
        rw [setCells_row g X.toList W _ cur hr]
        refine (T.setRow _).oneShut hroom hX (by rw [setMany_size]; exact hle) fun j u hj => ?_
        have hj1 : j < X.size := (Array.getElem?_eq_some_iff.1 hj).1
        rw [setMany_get, if_pos ⟨by omega, by simp; omega, by omega⟩]
        rw [show of + j - (of + 0 * size) = j by omega]
        simpa using hj
    · refine step_append_grows (P := P) (w := W) hgd s x t ho e i z size bytes ht hi hz hsize hby hzs hsz (some ⟨g, of, none⟩) 0 cp [] hs (fun h => by cases h) (by simp) (fun _ _ j u hj => by simp at hj) ad 1 c X.toList hx hl hnews h1 (by omega) (by simp [maxLen]) (by omega) fun v' w' how hg => ?_
      exact h' v' w' (T.drop.oneNew hX hsz how hg)
end
section
variable {α β : Type} {P : Program} {k t e : TypeId} {kv : α → Value} {ev : β → Value} {ok : α → Prop} {w W : World} {F : Nat → Prop} {R : List Res} {b n : Nat} {f : α → Option β}
theorem mapR_entry (T : Sts w F W (mapR P k kv ev ok b n f :: R)) (K : KeyOk P k kv ok) (KL : KeyLaw P k) (ht : P.underlying t = some (.map k e)) {z : Value} (hz : ∀ u : World, (zeroValue e).run P u = .ok z u) (hn : n < maxLen) (x : α) (hx : ok x) (y : β) :
    ∃ v0 st W1 W2, (Instr.mapEntry t (.map (some b)) (kv x)).run P W = .ok (.tuple #[v0, .int .i64 st]) W1 ∧ (Instr.entryStore t (.map (some b)) (.int .i64 st) (ev y)).run P W1 = .ok () W2 ∧
      Sts w F W2 (mapR P k kv ev ok b (n + 1) (putF f x y) :: R) ∧ W2.heap.size = W.heap.size ∧ (∀ j, j ≠ b → W1.heap[j]? = W.heap[j]?) ∧ W1.heap.size = W.heap.size := by
  obtain ⟨W9, hput, T9, hsz⟩ := T.mapPut K ht hn x hx y
  obtain ⟨D, ⟨es, clock, hb, Fi, hle, hD⟩, -⟩ := T.map
  obtain ⟨l, hl⟩ := K.lit x hx
  obtain ⟨v0, st, es1, c1, he, -, hs⟩ := Go.WideElems.entry_then_store KL ht hz hb Fi hl
  have hb1 : (setBlock W b (.map es1 c1)).heap[b]? = some (.map es1 c1) := Go.ChangeMaps.heap_setBlock_same hb _
  obtain ⟨es2, c2, h1, h2⟩ := hs (setBlock W b (.map es1 c1)) (ev y) hb1
  have he9 : setBlock W b (.map es2 c2) = W9 := by rw [h2] at hput; injection hput
  refine ⟨v0, st, setBlock W b (.map es1 c1), W9, he, ?_, T9, hsz, fun j hj => Go.ChangeMaps.heap_setBlock_other hb _ hj, by simp [setBlock]⟩
  rw [← he9]
  have : setBlock (setBlock W b (.map es1 c1)) b (.map es2 c2) = setBlock W b (.map es2 c2) := by simp [setBlock]
  rw [← this]
  exact h1
theorem row_else {W W1 : World} {b g : Nat} {X : Array Value} (h : ∀ j, j ≠ b → W1.heap[j]? = W.heap[j]?) (hr : row? W g = some X) (hg : g ≠ b) : row? W1 g = some X := by
  unfold row? at hr ⊢
  rw [h g hg]; exact hr
end
end Go.Proofs.YtomlilkobhkoiaaGreatDoor
/- Carries as a value, as cells: its parts, equality, loads, stores, building. Printed by types.py. -/
namespace Go.Proofs.YtomlilkobhkoiaaGreatDoor
open Go.RowKit
set_option linter.unusedVariables false
structure Carries where
  call : Bool
  known : Bool
def KRV (x : Carries) : Array Value := #[.bool x.call, .bool x.known]
def noCarries : Carries := ⟨false, false⟩
section
variable (x y : Carries)
theorem TCarries_size : (KRV x).size = 2 := rfl
theorem TCarries_one : allOne (KRV x) = true := by simp [allOne, KRV, Value.oneCell']
theorem TCarries_piece : piece (KRV x) 0 2 = KRV x := piece_all _ _ rfl
theorem TCarries_c0 : (KRV x)[0]? = some (.bool x.call) := rfl
theorem TCarries_c1 : (KRV x)[1]? = some (.bool x.known) := rfl
theorem TCarries_set_call (v : Bool) : (KRV x).setIfInBounds 0 (.bool v) = KRV { x with call := v } := rfl
theorem TCarries_set_known (v : Bool) : (KRV x).setIfInBounds 1 (.bool v) = KRV { x with known := v } := rfl
theorem TCarries_cat : KRV x = #[.bool x.call] ++ #[.bool x.known] := by kernel_rfl
theorem TCarries_ext : KRV x = KRV y ↔ x.call = y.call ∧ x.known = y.known := by
  constructor
  · intro h
    refine ⟨?_, ?_⟩
    · have := congrArg (·[0]?) h; simpa [TCarries_c0, TCarries_size] using this
    · have := congrArg (·[1]?) h; simpa [TCarries_c1, TCarries_size] using this
  · rintro ⟨h0, h1⟩
    rw [TCarries_cat x, TCarries_cat y, h0, h1]
end
theorem TCarries_und : Tryz.prog.underlying 265 = some (.struct (Tryz.prog.fieldsOf 265)) := by kernel_rfl
theorem TCarries_eq (d : Nat) (x y : Carries) (w : World) : (Op.equalIn (d + 2) 265 (.agg (KRV x)) (.agg (KRV y))).run Tryz.prog w = .ok (eqA (KRV x) (KRV y)) w := by
  refine eq_struct (d := d + 1) (L := [(4, 0, x.call == y.call), (4, 1, x.known == y.known)]) TCarries_und (by kernel_rfl) (by kernel_rfl) ?_ ?_ w
  · simp only [List.forall_mem_cons]
    exact ⟨⟨_, _, part_cell Tryz.underlying4 rfl (by kernel_rfl) (TCarries_c0 x), part_cell Tryz.underlying4 rfl (by kernel_rfl) (TCarries_c0 y), fun w => run_equalIn_bool' w (d + 0) _ _ _ Tryz.underlying4⟩, ⟨_, _, part_cell Tryz.underlying4 rfl (by kernel_rfl) (TCarries_c1 x), part_cell Tryz.underlying4 rfl (by kernel_rfl) (TCarries_c1 y), fun w => run_equalIn_bool' w (d + 0) _ _ _ Tryz.underlying4⟩, by simp⟩
  · refine eqA_of ?_
    rw [TCarries_ext]
    simp
theorem TCarries_eql (x y : Carries) (w : World) : (binOp .eql 265 (.agg (KRV x)) (.agg (KRV y))).run Tryz.prog w = .ok (.bool (eqA (KRV x) (KRV y))) w := eql_of (TCarries_eq 9998 x y) w
theorem TCarries_neq (x y : Carries) (w : World) : (binOp .neq 265 (.agg (KRV x)) (.agg (KRV y))).run Tryz.prog w = .ok (.bool (!eqA (KRV x) (KRV y))) w := neq_of (TCarries_eq 9998 x y) w
theorem TCarries_ld0 (v : Value) : Instr.loadAt 265 v = loadSem 265 v := rfl
theorem TCarries_st0 (v u : Value) : Instr.storeAt 265 v u = storeSem 265 v u := rfl
theorem TCarries_fd0 (x : Value) (i : Nat) : Instr.field 265 x i = fieldSem 265 x i := rfl
theorem TCarries_bd0 (p : Array (Nat × Value)) : Instr.build 265 p = buildS 265 p := rfl
theorem TCarries_ld (w : World) (v : Value) : (loadSem 265 v).run Tryz.prog w = loadVal Tryz.prog 265 2 w v := load_val TCarries_und rfl (by kernel_rfl) w v
theorem TCarries_st (w : World) (v u : Value) : (storeSem 265 v u).run Tryz.prog w = storeVal Tryz.prog 265 2 w v u := store_val (by kernel_rfl) w v u
theorem TCarries_f_call (x : Carries) (w : World) : (fieldSem 265 (.agg (KRV x)) 0).run Tryz.prog w = .ok (.bool x.call) w := field_of TCarries_und (by kernel_rfl) (part_cell Tryz.underlying4 rfl (by kernel_rfl) (TCarries_c0 x)) w
theorem TCarries_f_known (x : Carries) (w : World) : (fieldSem 265 (.agg (KRV x)) 1).run Tryz.prog w = .ok (.bool x.known) w := field_of TCarries_und (by kernel_rfl) (part_cell Tryz.underlying4 rfl (by kernel_rfl) (TCarries_c1 x)) w
def TCarries_pl : Nat → Option (Nat × Nat) := fun i => (#[(0, 1), (1, 1)] : Array (Nat × Nat))[i]?
theorem TCarries_bd (w : World) (p : Array (Nat × Value)) : (buildS 265 p).run Tryz.prog w = buildOf Tryz.prog 265 TCarries_pl (KRV noCarries) p w := build_struct TCarries_und (by kernel_rfl) (fun w => by kernel_rfl) w p
theorem TCarries_fl (X : Array Value) : fillS TCarries_pl X [] = some X := rfl
theorem TCarries_fl_call (x : Carries) (v : Bool) (r : List (Nat × Value)) : fillS TCarries_pl (KRV x) ((0, .bool v) :: r) = fillS TCarries_pl (KRV { x with call := v }) r := rfl
theorem TCarries_fl_known (x : Carries) (v : Bool) (r : List (Nat × Value)) : fillS TCarries_pl (KRV x) ((1, .bool v) :: r) = fillS TCarries_pl (KRV { x with known := v }) r := rfl
end Go.Proofs.YtomlilkobhkoiaaGreatDoor
/- Layer 7: whether a message can be. -/
namespace Go.Proofs.YtomlilkobhkoiaaGreatDoor
open Go.RowKit
set_option linter.unusedVariables false
attribute [local go_sem] row_alloc row_drew row_drewN row_ext row_setCell row_setRow size_ext setRow_alloc setRow_drew loadOf storeOf piece_lit loadVal_at storeVal_at allOne_lit buildOf buildRes_some
attribute [local go_sem high] cell_alloc frozen_alloc setCell_alloc cell_ext frozen_ext cell_setRow frozen_setRow
attribute [local go_sem ↓] TDeed_ld0 TDeed_st0 TDeed_fd0 TDeed_bd0
attribute [local go_sem] TDeed_size TDeed_one TDeed_piece TDeed_c0 TDeed_c1 TDeed_c2 TDeed_c3 TDeed_c4 TDeed_c5 TDeed_set_kind TDeed_set_key TDeed_set_val TDeed_set_ver TDeed_set_ses TDeed_set_num TDeed_ld TDeed_st TDeed_f_kind TDeed_f_key TDeed_f_val TDeed_f_ver TDeed_f_ses TDeed_f_num TDeed_bd TDeed_fl TDeed_fl_kind TDeed_fl_key TDeed_fl_val TDeed_fl_ver TDeed_fl_ses TDeed_fl_num
attribute [local go_sem high] TDeed_eql TDeed_neq
attribute [local go_sem ↓] index_deps0 load_deps0 store_deps0
attribute [local go_sem] DV_piece DV_size DV_one index_deps load_deps store_deps
attribute [local go_sem high] TDeps_eql TDeps_neq
attribute [local go_sem ↓] TCall_ld0 TCall_st0 TCall_fd0 TCall_bd0
attribute [local go_sem] TCall_size TCall_one TCall_piece TCall_c0 TCall_c1 TCall_c2 TCall_c3 TCall_c4 TCall_c5 TCall_c6 TCall_c7 TCall_c8 TCall_c9 TCall_c10 TCall_c11 TCall_c12 TCall_c13 TCall_p_deed TCall_put_deed TCall_p_deps TCall_put_deps TCall_set_seq TCall_ld TCall_st TCall_f_deed TCall_f_deps TCall_f_seq TCall_bd TCall_fl TCall_fl_deed TCall_fl_deps TCall_fl_seq
attribute [local go_sem high] TCall_eql TCall_neq
attribute [local go_sem ↓] TItem_ld0 TItem_st0 TItem_fd0 TItem_bd0
attribute [local go_sem] TItem_size TItem_one TItem_piece TItem_c0 TItem_c1 TItem_set_rep TItem_set_num TItem_ld TItem_st TItem_f_rep TItem_f_num TItem_bd TItem_fl TItem_fl_rep TItem_fl_num
attribute [local go_sem high] TItem_eql TItem_neq
attribute [local go_sem ↓] TBallot_ld0 TBallot_st0 TBallot_fd0 TBallot_bd0
attribute [local go_sem] TBallot_size TBallot_one TBallot_piece TBallot_c0 TBallot_c1 TBallot_set_round TBallot_set_rep TBallot_ld TBallot_st TBallot_f_round TBallot_f_rep TBallot_bd TBallot_fl TBallot_fl_round TBallot_fl_rep
attribute [local go_sem high] TBallot_eql TBallot_neq
attribute [local go_sem ↓] TMsg_ld0 TMsg_st0 TMsg_fd0 TMsg_bd0
attribute [local go_sem] TMsg_size TMsg_one TMsg_piece TMsg_c0 TMsg_c1 TMsg_c2 TMsg_c3 TMsg_c4 TMsg_c5 TMsg_c6 TMsg_c7 TMsg_c8 TMsg_c9 TMsg_c10 TMsg_c11 TMsg_c12 TMsg_c13 TMsg_c14 TMsg_c15 TMsg_c16 TMsg_c17 TMsg_c18 TMsg_c19 TMsg_c20 TMsg_c21 TMsg_c22 TMsg_c23 TMsg_c24 TMsg_set_kind TMsg_set_frm TMsg_set_to TMsg_p_item TMsg_put_item TMsg_p_bal TMsg_put_bal TMsg_p_vote TMsg_put_vote TMsg_set_status TMsg_set_same TMsg_p_call TMsg_put_call TMsg_ld TMsg_st TMsg_f_kind TMsg_f_frm TMsg_f_to TMsg_f_item TMsg_f_bal TMsg_f_vote TMsg_f_status TMsg_f_same TMsg_f_call TMsg_bd TMsg_fl TMsg_fl_kind TMsg_fl_frm TMsg_fl_to TMsg_fl_item TMsg_fl_bal TMsg_fl_vote TMsg_fl_status TMsg_fl_same TMsg_fl_call
attribute [local go_sem high] TMsg_eql TMsg_neq
attribute [local go_sem ↓] TCarries_ld0 TCarries_st0 TCarries_fd0 TCarries_bd0
attribute [local go_sem] TCarries_size TCarries_one TCarries_piece TCarries_c0 TCarries_c1 TCarries_set_call TCarries_set_known TCarries_ld TCarries_st TCarries_f_call TCarries_f_known TCarries_bd TCarries_fl TCarries_fl_call TCarries_fl_known
attribute [local go_sem high] TCarries_eql TCarries_neq
def callsB (k : Int) : Bool := decide (k = 1 ∨ k = 2 ∨ k = 3 ∨ k = 5 ∨ k = 7)
def knownB (k : Int) : Bool := decide (k = 7)
/-- What the kinds of messages have. -/
def KndV : Array Value := #[.bool false, .bool false, .bool true, .bool false, .bool true, .bool false, .bool true, .bool false, .bool false, .bool false, .bool true, .bool false, .bool false, .bool false, .bool true, .bool true, .bool false, .bool false]
theorem KndV_size : KndV.size = 18 := rfl
attribute [local go_sem] KndV_size
theorem KndV_piece (k : Nat) (h : k ≤ 8) : piece KndV (k * 2) 2 = KRV ⟨callsB k, knownB k⟩ := by
  match k, h with
  | 0, _ => rfl
  | 1, _ => rfl
  | 2, _ => rfl
  | 3, _ => rfl
  | 4, _ => rfl
  | 5, _ => rfl
  | 6, _ => rfl
  | 7, _ => rfl
  | 8, _ => rfl
noncomputable def noVote (m : Msg) : Bool := eqA (BV m.vote) (BV noBallot)
noncomputable def noC (m : Msg) : Bool := eqA (CV m.call) (CV noCall)
noncomputable def goodM (m : Msg) (n : Int) : Bool :=
  decide (1 ≤ m.kind ∧ m.kind ≤ 8 ∧ 0 ≤ m.frm ∧ m.frm < n ∧ 0 ≤ m.to ∧ m.to < n) && goodI m.item n && goodBal m.bal n &&
  (if callsB m.kind then goodC m.call n else noC m) && (knownB m.kind || (noVote m && m.status == 0)) && (!m.same || m.kind == 2 || knownB m.kind) &&
  (!knownB m.kind || (goodBal m.vote n && decide (0 ≤ m.status ∧ m.status ≤ 3) && (m.status != 0 || (noVote m && noC m && !m.same))))
/-- A call that answers in each world that bears the kinds, and leaves alone what there was. -/
def AnsK (f : FuncId) (args : Array Value) (v : Value) : Prop := ∀ W : World, row? W 0 = some KndV → Calls Tryz.prog f args W fun e W' => e = .returned v ∧ Below W.heap.size W W'
theorem below_allocM {B : Nat} {a w : World} (h : Below B a w) (o : Obj) (hB : B ≤ w.heap.size) : Below B a (w.alloc o) := h.alloc hB o
theorem below_extM {B : Nat} {a w : World} (h : Below B a w) (hB : B ≤ w.heap.size) (x : World) : Below B a (ext w x) := below_ext h hB x
set_option maxHeartbeats 4000000 in
set_option maxRecDepth 100000 in
theorem mailGood_out (m : Msg) (n : Int) (h0 : ¬ (1 ≤ m.kind ∧ m.kind ≤ 8 ∧ 0 ≤ m.frm ∧ m.frm < n ∧ 0 ≤ m.to ∧ m.to < n)) : AnsK 90 #[.agg (MV m), .int .i64 n] (.bool (goodM m n)) := by
  intro W hK
  have hg : goodM m n = false := by unfold goodM; rw [decide_eq_false h0]; simp
  rw [hg]
  clear hg hK
  go_enter Tryz.func90, Tryz.ntmps90
  go_wp2_with fail
  all_goals first
    | (go_ret
       exact ⟨rfl, (Below.refl _ _).alloc (Nat.le_refl _) _⟩)
    | (exfalso; omega)
end Go.Proofs.YtomlilkobhkoiaaGreatDoor
