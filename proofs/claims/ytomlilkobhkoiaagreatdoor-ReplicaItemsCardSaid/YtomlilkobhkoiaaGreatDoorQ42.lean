/- Several texts in one. -/
import Derived.Test.YtomlilkobhkoiaaGreatDoorQ31
import Derived.Test.YtomlilkobhkoiaaGreatDoorQ38
import Derived.Test.YtomlilkobhkoiaaGreatDoorQ41
import Derived.Test.YtomlilkobhkoiaaGreatDoorQ36
import Derived.Test.YtomlilkobhkoiaaGreatDoorQ30
/- Layer 22: a replica hears its own first message, and its own answer to it. -/
namespace Go.Proofs.YtomlilkobhkoiaaGreatDoor
open Go.RowKit Go.Shelf
set_option linter.unusedVariables false
set_option maxRecDepth 20000
attribute [local go_sem] Oper.semAt_some
attribute [local go_sem] row_alloc row_drew row_drewN row_ext row_setCell row_setRow size_ext setRow_alloc setRow_drew loadOf storeOf piece_lit loadVal_at storeVal_at allOne_lit buildOf buildRes_some
attribute [local go_sem high] cell_alloc frozen_alloc setCell_alloc cell_ext frozen_ext cell_setRow frozen_setRow
attribute [local go_sem ↓] TItem_ld0 TItem_st0 TItem_fd0 TItem_bd0
attribute [local go_sem] TItem_size TItem_one TItem_piece TItem_c0 TItem_c1 TItem_set_rep TItem_set_num TItem_ld TItem_st TItem_f_rep TItem_f_num TItem_bd TItem_fl TItem_fl_rep TItem_fl_num
attribute [local go_sem high] TItem_eql TItem_neq
attribute [local go_sem ↓] TBallot_ld0 TBallot_st0 TBallot_fd0 TBallot_bd0
attribute [local go_sem] TBallot_size TBallot_one TBallot_piece TBallot_c0 TBallot_c1 TBallot_set_round TBallot_set_rep TBallot_ld TBallot_st TBallot_f_round TBallot_f_rep TBallot_bd TBallot_fl TBallot_fl_round TBallot_fl_rep
attribute [local go_sem high] TBallot_eql TBallot_neq
attribute [local go_sem ↓] TCall_ld0 TCall_st0 TCall_fd0 TCall_bd0
attribute [local go_sem] TCall_size TCall_one TCall_piece TCall_c0 TCall_c1 TCall_c2 TCall_c3 TCall_c4 TCall_c5 TCall_c6 TCall_c7 TCall_c8 TCall_c9 TCall_c10 TCall_c11 TCall_c12 TCall_c13 TCall_p_deed TCall_put_deed TCall_p_deps TCall_put_deps TCall_set_seq TCall_ld TCall_st TCall_f_deed TCall_f_deps TCall_f_seq TCall_bd TCall_fl TCall_fl_deed TCall_fl_deps TCall_fl_seq
attribute [local go_sem high] TCall_eql TCall_neq
attribute [local go_sem ↓] TDeed_ld0 TDeed_st0 TDeed_fd0 TDeed_bd0
attribute [local go_sem] TDeed_size TDeed_one TDeed_piece TDeed_c0 TDeed_c1 TDeed_c2 TDeed_c3 TDeed_c4 TDeed_c5 TDeed_set_kind TDeed_set_key TDeed_set_val TDeed_set_ver TDeed_set_ses TDeed_set_num TDeed_ld TDeed_st TDeed_f_kind TDeed_f_key TDeed_f_val TDeed_f_ver TDeed_f_ses TDeed_f_num TDeed_bd TDeed_fl TDeed_fl_kind TDeed_fl_key TDeed_fl_val TDeed_fl_ver TDeed_fl_ses TDeed_fl_num
attribute [local go_sem high] TDeed_eql TDeed_neq
attribute [local go_sem ↓] index_deps0 load_deps0 store_deps0
attribute [local go_sem] DV_piece DV_size DV_one index_deps load_deps store_deps
attribute [local go_sem high] TDeps_eql TDeps_neq
attribute [local go_sem ↓] TMsg_ld0 TMsg_st0 TMsg_fd0 TMsg_bd0
attribute [local go_sem] TMsg_size TMsg_one TMsg_piece TMsg_c0 TMsg_c1 TMsg_c2 TMsg_c3 TMsg_c4 TMsg_c5 TMsg_c6 TMsg_c7 TMsg_c8 TMsg_c9 TMsg_c10 TMsg_c11 TMsg_c12 TMsg_c13 TMsg_c14 TMsg_c15 TMsg_c16 TMsg_c17 TMsg_c18 TMsg_c19 TMsg_c20 TMsg_c21 TMsg_c22 TMsg_c23 TMsg_c24 TMsg_set_kind TMsg_set_frm TMsg_set_to TMsg_p_item TMsg_put_item TMsg_p_bal TMsg_put_bal TMsg_p_vote TMsg_put_vote TMsg_set_status TMsg_set_same TMsg_p_call TMsg_put_call TMsg_ld TMsg_st TMsg_f_kind TMsg_f_frm TMsg_f_to TMsg_f_item TMsg_f_bal TMsg_f_vote TMsg_f_status TMsg_f_same TMsg_f_call TMsg_bd TMsg_fl TMsg_fl_kind TMsg_fl_frm TMsg_fl_to TMsg_fl_item TMsg_fl_bal TMsg_fl_vote TMsg_fl_status TMsg_fl_same TMsg_fl_call
attribute [local go_sem high] TMsg_eql TMsg_neq
attribute [local go_sem ↓] mes_slice0
attribute [local go_sem] mes_slice1
/-- What a replica bears besides, one of its items being led. -/
abbrev rpRest (q : RpB) (j : Nat) (fl : Item → Option Nat) (gl : Nat) (n : Nat) (s : Nat) (x : Item) (c : Call) (bw bt : Nat) (v : Value) (turn : Nat) (l : List Spoke) : List Res :=
  [ldsR q.ml j fl, rowR gl (ldC n s x ⟨0, s⟩ c 1 noVotes), ldsR q.mr 0 (fun _ => none), pcR q.bp bw bt n s, rowR bw #[v, .int .i64 turn], skR v l, trR bt]
section
variable {w W : World} {F : Nat → Prop} {R : List Res} {g gl lg p gx bk bs bw bt safe j turn t0 s n k : Nat} {q : RpB} {inb out v : Value} {I : Idx} {D : List UInt8} {m : RowsM} {fl : Item → Option Nat} {l : List Spoke} {ls : List Letter} {t : TypeId} {d : Deed}
set_option maxHeartbeats 32000000 in
theorem rpHear1T (hv : VotI n k I D m) (hk : k ≤ 100) (hn7 : n ≤ 7) (hs : s < n) (ht0 : topM m s = (t0 : Int)) (ht1 : t0 < 64) (hd : goodB d = true) (x : Item) (hxx : x = ⟨s, (t0 : Int) + 1⟩) (c : Call) (hcc : c = rpC m d x) (hfl : fl x = some gl) (hls : ls.length ≤ 1000)
    (hl : l.length ≤ 1000) (hno : ∀ y ∈ l, eqA (IV y.key) (IV x) = false) (hall : ∀ y ∈ l, y.due = 4 ∧ y.turn < (turn : Int)) (ht : turn ≤ 1000)
    (T : Sts w F W (spL q.sp lg p gx bk bs I D safe m ++ (kndR t :: rowR g (rpV q n s inb out) :: emptR 25 inb :: vecR 148 3 out ls.length (vl LTV ls) :: (rpRest q j fl gl n s x c bw bt v turn l ++ R)))) :
    Calls Tryz.prog 53 #[.pointer (some ⟨g, 0, none⟩), .agg (MV (preMsg s x c s))] W fun e W' => ∃ v' inb' out' ls' I' D' safe' same c0, e = .returned (.tuple #[]) ∧ ls'.length = ls.length ∧ VotI n (k + 1) I' D' (setM m x (nowI s same c0)) ∧
      Sts w F W' (spL q.sp lg p gx bk bs I' D' safe' (setM m x (nowI s same c0)) ++ (kndR t :: rowR g (rpV q n s inb' out') :: oneR 25 inb' (MV (okMsg s x same c0)) :: vecR 148 3 out' ls'.length (vl LTV ls') :: (rpRest q j fl gl n s x c bw bt v' (turn + 1) (l ++ [⟨x, 4, turn⟩]) ++ R))) := by
  have hmn := hv.sp.mn
  have hn7' : (n : Int) ≤ 7 := by omega
  have hsn : (s : Int) < m.n := by rw [hmn]; omega
  have hat := rp_at ht0
  obtain ⟨hgi, htp, -⟩ := rp_set hsn ht0 ht1 noInst
  rw [← hxx] at hat hgi
  obtain ⟨same, c0, hans⟩ := rpM_in hv.sp.ok hv.sp.good hd hgi hsn hsn hat
  rw [← hcc] at hans
  have hset : atM (setM m x (nowI s same c0)) x = nowI s same c0 := by
    have h := (rp_set hsn ht0 ht1 (nowI s same c0)).2.2
    rw [← hxx] at h
    exact h
  have hxr : x.rep = (s : Int) := by rw [hxx]
  have hxi : InI x := by
    rw [hxx]; unfold InI; simp only; omega
  have hno2 := rp_now hat s same c0
  have hgr : growV m x (nowI s same c0) ≤ 1 := growV_le _ _ _
  have hVA : ∀ W' R', Sts w F W' (packR (spL q.sp lg p gx bk bs I D safe m) :: kndR t :: R') → Calls Tryz.prog 94 #[.pointer (some ⟨q.sp, 0, none⟩), .int .i64 s, .agg (MV (preMsg s x c s))] W' fun e W2 => e = .returned (.tuple #[.agg (MV (okMsg s x same c0)), .bool true]) ∧ ∃ I' D' safe', VotI n (k + 1) I' D' (setM m x (nowI s same c0)) ∧ Sts w F W2 (packR (spL q.sp lg p gx bk bs I' D' safe' (setM m x (nowI s same c0))) :: kndR t :: R') := by
    intro W' R' T'
    refine (vans hv hk s (preMsg s x c s) T'.unpack).mono ?_
    rw [hans]
    rintro e W2 ⟨rfl, I', D', safe', hv', T2⟩
    refine ⟨rfl, I', D', safe', ?_, ?_⟩
    · have h := hv'.up (j := k + 1) (by have : growV m (preMsg s x c s).item (nowI s same c0) ≤ 1 := growV_le _ _ _; dsimp only at this ⊢; omega)
      rw [show (preMsg s x c s).item = x from rfl] at h
      dsimp only at h
      rw [hno2] at h
      exact h
    · have h := Sts.pack (L := spL q.sp lg p gx bk bs I' D' safe' (nowR m x (nowI s same c0))) T2
      rw [hno2] at h
      exact h
  have T0 := Sts.pack (L := spL q.sp lg p gx bk bs I D safe m) T
  have T1 : Sts w F W (ldsR q.ml j fl :: rowR gl (ldC n s x ⟨0, s⟩ c 1 noVotes) :: ldsR q.mr 0 (fun _ => none) :: pcR q.bp bw bt n s :: rowR bw #[v, .int .i64 turn] :: skR v l :: trR bt :: packR (spL q.sp lg p gx bk bs I D safe m) :: kndR t :: rowR g (rpV q n s inb out) :: emptR 25 inb :: vecR 148 3 out ls.length (vl LTV ls) :: R) := T0.ord [5, 6, 7, 8, 9, 10, 11, 0, 1, 2, 3, 4]
  have T2 := Sts.pack (L := rpRest q j fl gl n s x c bw bt v turn l) T1
  have HKN := Lib.hid fun (W' : World) (I' : Idx) (D' : List UInt8) (safe' : Nat) (inb' out' : Value) (R' : List Res) (hv' : VotI n (k + 1) I' D' (setM m x (nowI s same c0))) (T' : Sts w F W' (spL q.sp lg p gx bk bs I' D' safe' (setM m x (nowI s same c0)) ++ (rowR g (rpV q n x.rep inb' out') :: ldsR q.ml j fl :: rowR gl (ldC n x.rep x ⟨0, x.rep⟩ c 1 noVotes) :: ldsR q.mr 0 (fun _ => none) :: pcR q.bp bw bt n x.rep :: rowR bw #[v, .int .i64 turn] :: skR v l :: trR bt :: R'))) => rpKnownT (same := same) (c0 := c0) hv'.sp.ok x hxi (by omega) hn7 (by rw [hset, hxr]) hfl hl hno hall ht T'
  rw [hxr] at HKN
  have hse : ∀ (W' : World) (R' : List Res) (v' : Value), Sts w F W' (rowR g (rpV q n s inb out) :: emptR 25 inb :: vecR 148 3 out ls.length (vl LTV ls) :: vecR 136 25 v' 1 (MV (okMsg s x same c0)).toList :: kndR t :: R') → Calls Tryz.prog 25 #[.pointer (some ⟨g, 0, none⟩), v'] W' fun e W2 => ∃ inb' out' ls', e = .returned (.tuple #[]) ∧ ls'.length = ls.length ∧ Sts w F W2 (rowR g (rpV q n s inb' out') :: oneR 25 inb' (MV (okMsg s x same c0)) :: vecR 148 3 out' ls'.length (vl LTV ls') :: kndR t :: R') :=
    fun W' R' v' T' => rpSend1T hn7' (okMsg s x same c0) rfl hls T'
  have HSE := Lib.hid hse; clear hse
  obtain ⟨am, ham⟩ : ∃ am, am = okMsg s x same c0 := ⟨_, rfl⟩
  obtain ⟨pm, hpm⟩ : ∃ pm, pm = preMsg s x c s := ⟨_, rfl⟩
  have hpk : pm.kind = 1 := by rw [hpm]; rfl
  have hpi : piece (MV pm) 3 2 = IV x := by rw [TMsg_p_item, hpm]; rfl
  rw [← ham] at hVA HSE
  have HAM := Lib.hid ham
  rw [← hpm] at hVA ⊢
  clear ham hpm hans hset hno2 hgr hat hgi htp T T0 T1 hcc hd ht0 ht1 hmn hsn hxi hno hall hl ht hls hfl hv hxx
  obtain ⟨m', hm'⟩ : ∃ m', m' = setM m x (nowI s same c0) := ⟨_, rfl⟩
  rw [← hm'] at hVA HKN
  have HM' := Lib.hid hm'; clear hm'
  obtain ⟨RR, hRR⟩ : ∃ r, r = packR (rpRest q j fl gl n s x c bw bt v turn l) := ⟨_, rfl⟩
  rw [← hRR] at T2
  have HRR := Lib.hid hRR; clear hRR
  obtain ⟨SP, hSP⟩ : ∃ r, r = packR (spL q.sp lg p gx bk bs I D safe m) := ⟨_, rfl⟩
  rw [← hSP] at T2 hVA
  clear hSP
  have T3 := (T2.new (MV pm) 136).ord [0, 4, 2, 3, 5, 6, 1]
  have rm := T3.row; have lm := row_lt rm
  have m0 : (W.alloc (.cells (MV pm) 136)).cell? ⟨W.heap.size, 0, none⟩ = some (.int .i64 1) := by rw [row_cell rm 0, ← hpk]; rfl
  have HT := Lib.hid T3; have HVA := Lib.hid hVA
  clear T2 T3 hVA hpk
  go_enter Tryz.func53, Tryz.ntmps53
  go_upto_region 7 with fail
  clear m0 rm lm
  generalize W.alloc _ = w1 at *
  generalize W.heap.size = b at *
  go_cut [4, 5] (fun u4 u5 wx => u5 = .bool true ∧ ∃ ga I' D' safe', u4 = .pointer (some ⟨ga, 0, none⟩) ∧ VotI n (k + 1) I' D' m' ∧ Sts w F wx (rowR ga (MV am) :: rowR b (MV pm) :: rowR g (rpV q n s inb out) :: packR (spL q.sp lg p gx bk bs I' D' safe' m') :: kndR t :: emptR 25 inb :: vecR 148 3 out ls.length (vl LTV ls) :: RR :: R))
  case first =>
    have FS : ∀ W' R', Sts w F W' (rowR b (MV pm) :: rowR g (rpV q n s inb out) :: R') → (W'.cell? ⟨g, 3, none⟩ = some (.pointer (some ⟨q.sp, 0, none⟩)) ∧ W'.cell? ⟨g, 1, none⟩ = some (.int .i64 s) ∧ row? W' b = some (MV pm)) := fun W' R' T' => ⟨row_cell T'.row1 3, row_cell T'.row1 1, T'.row⟩
    have HT2 := Lib.hid HT.out.drew
    have S0 := FS _ _ HT2.out
    have HFS := Lib.hid FS
    clear FS HT
    refine wp_region_held_drew (S := fun W' => W'.cell? ⟨g, 3, none⟩ = some (.pointer (some ⟨q.sp, 0, none⟩)) ∧ W'.cell? ⟨g, 1, none⟩ = some (.int .i64 s) ∧ row? W' b = some (MV pm)) (by kernel_rfl) S0 (fun hHeld => ?_)
    clear S0
    generalize w1.drew = w2 at *
    refine tkH 0 rfl ?_
    simp only [Act.put, List.setIfInBounds_toArray, List.set_cons_zero, List.set_cons_succ]
    refine tkH 1 rfl ?_
    go_frame
    refine tkH 2 rfl ?_
    go_frame
    refine tkH 3 rfl ?_
    go_frame
    refine tkH 4 rfl ?_
    go_frame
    refine tkH 5 rfl ?_
    go_frame
    refine tkH 6 rfl ?_
    go_frame
    refine tkH 7 rfl ?_
    go_frame
    refine tkH 8 rfl ?_
    go_frame
    refine wpAnyH_ready (rs := [9, 13]) (by kernel_rfl) (by simp) ?_
    refine AllReadyH.cons (o := _) rfl (fun K hK => ?_) ?_
    · go_simp
      refine (HVA.out _ _ (HT2.out.ord [2, 3, 0, 1])).mono ?_
      clear HT2
      rintro e3 w3 ⟨rfl, I2, D2, safe2, hv2, T⟩
      have HV2 := Lib.hid hv2; clear hv2
      have T := T.ord [2, 3, 0, 1]
      refine hK.out _ _ (HFS.out _ _ T) (fun hHeld => ?_)
      clear hK K
      refine tkH 10 rfl ?_
      simp only [Act.put, List.setIfInBounds_toArray, List.set_cons_zero, List.set_cons_succ]
      refine tkH 11 rfl ?_
      go_frame
      refine tkH 12 rfl ?_
      go_frame
      have T2 := T.new (MV noMsg) 136
      refine wpAnyH_ready (rs := [13]) (by kernel_rfl) (by simp) ?_
      refine AllReadyH.cons (o := _) rfl (fun K hK => ?_) AllReadyH.nil
      go_simp
      refine hK.out _ _ (HFS.out _ _ T2.drop) (fun hHeld => ?_)
      clear hK K
      have rn := T2.row; have ln := row_lt rn
      have HT3 := Lib.hid (T.new (MV am) 136); clear T T2
      refine wpAnyH_ready (rs := [14]) (by kernel_rfl) (by simp) ?_
      refine AllReadyH.cons (o := _) rfl (fun K hK => ?_) AllReadyH.nil
      go_simp
      refine hK.out _ _ (HFS.out _ _ HT3.out.drop) (fun hHeld => ?_)
      clear hK K rn ln
      refine tkH 15 rfl ?_
      simp only [Act.put, List.setIfInBounds_toArray, List.set_cons_zero, List.set_cons_succ]
      refine wpAnyH_done (by kernel_rfl) ?_ _
      try simp only [Exit.then]
      go_step
      go_meet
      case rel => exact ⟨rfl, _, I2, D2, safe2, rfl, HV2.out, HT3.out⟩
    · have T2 := HT2.out.new (MV noMsg) 136
      refine AllReadyH.cons (o := _) rfl (fun K hK => ?_) AllReadyH.nil
      go_simp
      refine hK.out _ _ (HFS.out _ _ T2.drop) (fun hHeld => ?_)
      clear hK K HT2
      have HT2 := Lib.hid T2; clear T2
      refine wpAnyH_ready (rs := [9]) (by kernel_rfl) (by simp) ?_
      refine AllReadyH.cons (o := _) rfl (fun K hK => ?_) AllReadyH.nil
      go_simp
      refine (HVA.out _ _ (HT2.out.ord [3, 4, 0, 1, 2])).mono ?_
      clear HT2
      rintro e3 w3 ⟨rfl, I2, D2, safe2, hv2, T⟩
      have HV2 := Lib.hid hv2; clear hv2
      have T := T.ord [2, 3, 4, 0, 1]
      refine hK.out _ _ (HFS.out _ _ T.drop) (fun hHeld => ?_)
      clear hK K
      refine tkH 10 rfl ?_
      simp only [Act.put, List.setIfInBounds_toArray, List.set_cons_zero, List.set_cons_succ]
      refine tkH 11 rfl ?_
      go_frame
      refine tkH 12 rfl ?_
      go_frame
      have rn := T.row; have ln := row_lt rn
      have HT3 := Lib.hid (T.setRow (MV am)); clear T
      refine wpAnyH_ready (rs := [14]) (by kernel_rfl) (by simp) ?_
      refine AllReadyH.cons (o := _) rfl (fun K hK => ?_) AllReadyH.nil
      go_simp
      refine hK.out _ _ (HFS.out _ _ HT3.out.drop) (fun hHeld => ?_)
      clear hK K rn ln
      refine tkH 15 rfl ?_
      simp only [Act.put, List.setIfInBounds_toArray, List.set_cons_zero, List.set_cons_succ]
      refine wpAnyH_done (by kernel_rfl) ?_ _
      try simp only [Exit.then]
      go_step
      go_meet
      case rel => exact ⟨rfl, _, I2, D2, safe2, rfl, HV2.out, HT3.out⟩
  case rest =>
    obtain ⟨rfl, ga, I2, D2, safe2, rfl, hv2, T⟩ := hcut
    clear HT HVA
    have HV2 := Lib.hid hv2; clear hv2
    have ra := T.row; have la := row_lt ra
    have rb := T.row1; have lb := row_lt rb
    have HT := Lib.hid T; clear T
    go_wp2_with fail
    have TV := HT.out.vecNew (MV am) 136 25 1 rfl (by unfold maxLen; omega)
    refine (HSE.out _ _ _ (TV.ord [3, 6, 7, 0, 5, 1, 2, 4, 8])).mono ?_
    clear TV HT HSE ra la rb lb
    rintro e5 w5 ⟨inb2, out2, ls2, rfl, hl2, T⟩
    have T := T.ord [5, 0, 1, 2, 3, 4, 6, 7]
    have rb := T.row; have lb := row_lt rb
    have HT := Lib.hid T; clear T
    go_wp2_with fail
    have T := HT.out.ord [7, 6, 1, 0, 2, 3, 4, 5]
    rw [HRR.out] at T
    have T : Sts w F w5 (ldsR q.ml j fl :: rowR gl (ldC n s x ⟨0, s⟩ c 1 noVotes) :: ldsR q.mr 0 (fun _ => none) :: pcR q.bp bw bt n s :: rowR bw #[v, .int .i64 turn] :: skR v l :: trR bt :: packR (spL q.sp lg p gx bk bs I2 D2 safe2 m') :: rowR g (rpV q n s inb2 out2) :: rowR b (MV pm) :: oneR 25 inb2 (MV am) :: vecR 148 3 out2 ls2.length (vl LTV ls2) :: kndR t :: rowR ga (MV am) :: R) := T.unpack
    have T := T.ord [7, 8, 0, 1, 2, 3, 4, 5, 6, 9, 10, 11, 12, 13]
    refine (HKN.out _ _ _ _ _ _ _ HV2.out T.unpack).mono ?_
    clear T HT rb lb HKN HRR
    rintro e6 w6 ⟨v', rfl, T⟩
    have T := Sts.pack (L := spL q.sp lg p gx bk bs I2 D2 safe2 m') T
    have T := (T.ord [9, 13, 0, 12, 1, 10, 11, 2, 3, 4, 5, 6, 7, 8]).drop.drop
    have HT := Lib.hid T.unpack; clear T
    go_wp2
    go_end0
    refine ⟨v', inb2, out2, ls2, I2, D2, safe2, same, c0, rfl, hl2, ?_, ?_⟩
    · rw [← HM'.out]; exact HV2.out
    · rw [← HM'.out, ← HAM.out]; exact HT.out
end
end Go.Proofs.YtomlilkobhkoiaaGreatDoor
/- Layer 22: a replica hears its own answer. -/
namespace Go.Proofs.YtomlilkobhkoiaaGreatDoor
open Go.RowKit Go.Shelf
set_option linter.unusedVariables false
set_option maxRecDepth 20000
attribute [local go_sem] row_alloc row_drew row_drewN row_ext row_setCell row_setRow size_ext setRow_alloc setRow_drew loadOf storeOf piece_lit loadVal_at storeVal_at allOne_lit buildOf buildRes_some
attribute [local go_sem high] cell_alloc frozen_alloc setCell_alloc cell_ext frozen_ext cell_setRow frozen_setRow
attribute [local go_sem ↓] TItem_ld0 TItem_st0 TItem_fd0 TItem_bd0
attribute [local go_sem] TItem_size TItem_one TItem_piece TItem_c0 TItem_c1 TItem_set_rep TItem_set_num TItem_ld TItem_st TItem_f_rep TItem_f_num TItem_bd TItem_fl TItem_fl_rep TItem_fl_num
attribute [local go_sem high] TItem_eql TItem_neq
attribute [local go_sem ↓] TBallot_ld0 TBallot_st0 TBallot_fd0 TBallot_bd0
attribute [local go_sem] TBallot_size TBallot_one TBallot_piece TBallot_c0 TBallot_c1 TBallot_set_round TBallot_set_rep TBallot_ld TBallot_st TBallot_f_round TBallot_f_rep TBallot_bd TBallot_fl TBallot_fl_round TBallot_fl_rep
attribute [local go_sem high] TBallot_eql TBallot_neq
attribute [local go_sem ↓] TCall_ld0 TCall_st0 TCall_fd0 TCall_bd0
attribute [local go_sem] TCall_size TCall_one TCall_piece TCall_c0 TCall_c1 TCall_c2 TCall_c3 TCall_c4 TCall_c5 TCall_c6 TCall_c7 TCall_c8 TCall_c9 TCall_c10 TCall_c11 TCall_c12 TCall_c13 TCall_p_deed TCall_put_deed TCall_p_deps TCall_put_deps TCall_set_seq TCall_ld TCall_st TCall_f_deed TCall_f_deps TCall_f_seq TCall_bd TCall_fl TCall_fl_deed TCall_fl_deps TCall_fl_seq
attribute [local go_sem high] TCall_eql TCall_neq
attribute [local go_sem ↓] TDeed_ld0 TDeed_st0 TDeed_fd0 TDeed_bd0
attribute [local go_sem] TDeed_size TDeed_one TDeed_piece TDeed_c0 TDeed_c1 TDeed_c2 TDeed_c3 TDeed_c4 TDeed_c5 TDeed_set_kind TDeed_set_key TDeed_set_val TDeed_set_ver TDeed_set_ses TDeed_set_num TDeed_ld TDeed_st TDeed_f_kind TDeed_f_key TDeed_f_val TDeed_f_ver TDeed_f_ses TDeed_f_num TDeed_bd TDeed_fl TDeed_fl_kind TDeed_fl_key TDeed_fl_val TDeed_fl_ver TDeed_fl_ses TDeed_fl_num
attribute [local go_sem high] TDeed_eql TDeed_neq
attribute [local go_sem ↓] index_deps0 load_deps0 store_deps0
attribute [local go_sem] DV_piece DV_size DV_one index_deps load_deps store_deps
attribute [local go_sem high] TDeps_eql TDeps_neq
attribute [local go_sem ↓] TMsg_ld0 TMsg_st0 TMsg_fd0 TMsg_bd0
attribute [local go_sem] TMsg_size TMsg_one TMsg_piece TMsg_c0 TMsg_c1 TMsg_c2 TMsg_c3 TMsg_c4 TMsg_c5 TMsg_c6 TMsg_c7 TMsg_c8 TMsg_c9 TMsg_c10 TMsg_c11 TMsg_c12 TMsg_c13 TMsg_c14 TMsg_c15 TMsg_c16 TMsg_c17 TMsg_c18 TMsg_c19 TMsg_c20 TMsg_c21 TMsg_c22 TMsg_c23 TMsg_c24 TMsg_set_kind TMsg_set_frm TMsg_set_to TMsg_p_item TMsg_put_item TMsg_p_bal TMsg_put_bal TMsg_p_vote TMsg_put_vote TMsg_set_status TMsg_set_same TMsg_p_call TMsg_put_call TMsg_ld TMsg_st TMsg_f_kind TMsg_f_frm TMsg_f_to TMsg_f_item TMsg_f_bal TMsg_f_vote TMsg_f_status TMsg_f_same TMsg_f_call TMsg_bd TMsg_fl TMsg_fl_kind TMsg_fl_frm TMsg_fl_to TMsg_fl_item TMsg_fl_bal TMsg_fl_vote TMsg_fl_status TMsg_fl_same TMsg_fl_call
attribute [local go_sem high] TMsg_eql TMsg_neq
section
variable {w W : World} {F : Nat → Prop} {R : List Res} {g gl j s f : Nat} {q : RpB} {inb out : Value} {fl : Item → Option Nat} {same : Bool} {c c0 : Call}
set_option maxHeartbeats 8000000 in
theorem rpHear2T (hs : s < 7) (hf : 1 ≤ f ∧ f ≤ 3) (hsf : s < 2 * f + 1) (x : Item) (hx : InI x) (hxr : x.rep = (s : Int)) (hfl : fl x = some gl)
    (T : Sts w F W (rowR g (rpV q ((2 * f + 1 : Nat) : Int) s inb out) :: ldsR q.ml j fl :: rowR gl (ldC ((2 * f + 1 : Nat) : Int) s x ⟨0, s⟩ c 1 noVotes) :: ldsR q.mr 0 (fun _ => none) :: R)) :
    Calls Tryz.prog 53 #[.pointer (some ⟨g, 0, none⟩), .agg (MV (okMsg s x same c0))] W fun e W' => e = .returned (.tuple #[]) ∧ Sts w F W' (rowR g (rpV q ((2 * f + 1 : Nat) : Int) s inb out) :: ldsR q.ml j fl :: ldsR q.mr 0 (fun _ => none) :: R) := by
  have T1 := (T.new (MV (okMsg s x same c0)) 136)
  have HC := Lib.hid (rpCountT (same := same) (c0 := c0) hs hf hsf x hx hxr hfl (R := rowR W.heap.size (MV (okMsg s x same c0)) :: R) (T1.ord [1, 2, 3, 4, 0]))
  obtain ⟨m, hm⟩ : ∃ m, m = okMsg s x same c0 := ⟨_, rfl⟩
  have hk : m.kind = 2 := by rw [hm]; rfl
  rw [← hm] at HC T1 ⊢
  have rm := T1.row; have lm := row_lt rm
  have m0 : (W.alloc (.cells (MV m) 136)).cell? ⟨W.heap.size, 0, none⟩ = some (.int .i64 2) := by rw [row_cell rm 0, ← hk]; rfl
  clear hm hk T T1 hs hf hsf hx hxr hfl
  go_enter Tryz.func53, Tryz.ntmps53
  go_wp2_with fail
  refine HC.out.mono ?_
  clear HC rm lm m0
  rintro e w3 ⟨rfl, T⟩
  have HT := Lib.hid (T.ord [3, 0, 1, 2]).drop; clear T
  go_wp2
  go_end0
  exact ⟨rfl, HT.out⟩
end
end Go.Proofs.YtomlilkobhkoiaaGreatDoor
/- Layer 22: a replica hears all that lies in its inbox. -/
namespace Go.Proofs.YtomlilkobhkoiaaGreatDoor
open Go.RowKit Go.Shelf
set_option linter.unusedVariables false
set_option maxRecDepth 20000
attribute [local go_sem] row_alloc row_drew row_drewN row_ext row_setCell row_setRow size_ext setRow_alloc setRow_drew loadOf storeOf piece_lit loadVal_at storeVal_at allOne_lit buildOf buildRes_some
attribute [local go_sem high] cell_alloc frozen_alloc setCell_alloc cell_ext frozen_ext cell_setRow frozen_setRow
attribute [local go_sem ↓] TItem_ld0 TItem_st0 TItem_fd0 TItem_bd0
attribute [local go_sem] TItem_size TItem_one TItem_piece TItem_c0 TItem_c1 TItem_set_rep TItem_set_num TItem_ld TItem_st TItem_f_rep TItem_f_num TItem_bd TItem_fl TItem_fl_rep TItem_fl_num
attribute [local go_sem high] TItem_eql TItem_neq
attribute [local go_sem ↓] TBallot_ld0 TBallot_st0 TBallot_fd0 TBallot_bd0
attribute [local go_sem] TBallot_size TBallot_one TBallot_piece TBallot_c0 TBallot_c1 TBallot_set_round TBallot_set_rep TBallot_ld TBallot_st TBallot_f_round TBallot_f_rep TBallot_bd TBallot_fl TBallot_fl_round TBallot_fl_rep
attribute [local go_sem high] TBallot_eql TBallot_neq
attribute [local go_sem ↓] TCall_ld0 TCall_st0 TCall_fd0 TCall_bd0
attribute [local go_sem] TCall_size TCall_one TCall_piece TCall_c0 TCall_c1 TCall_c2 TCall_c3 TCall_c4 TCall_c5 TCall_c6 TCall_c7 TCall_c8 TCall_c9 TCall_c10 TCall_c11 TCall_c12 TCall_c13 TCall_p_deed TCall_put_deed TCall_p_deps TCall_put_deps TCall_set_seq TCall_ld TCall_st TCall_f_deed TCall_f_deps TCall_f_seq TCall_bd TCall_fl TCall_fl_deed TCall_fl_deps TCall_fl_seq
attribute [local go_sem high] TCall_eql TCall_neq
attribute [local go_sem ↓] TDeed_ld0 TDeed_st0 TDeed_fd0 TDeed_bd0
attribute [local go_sem] TDeed_size TDeed_one TDeed_piece TDeed_c0 TDeed_c1 TDeed_c2 TDeed_c3 TDeed_c4 TDeed_c5 TDeed_set_kind TDeed_set_key TDeed_set_val TDeed_set_ver TDeed_set_ses TDeed_set_num TDeed_ld TDeed_st TDeed_f_kind TDeed_f_key TDeed_f_val TDeed_f_ver TDeed_f_ses TDeed_f_num TDeed_bd TDeed_fl TDeed_fl_kind TDeed_fl_key TDeed_fl_val TDeed_fl_ver TDeed_fl_ses TDeed_fl_num
attribute [local go_sem high] TDeed_eql TDeed_neq
attribute [local go_sem ↓] index_deps0 load_deps0 store_deps0
attribute [local go_sem] DV_piece DV_size DV_one index_deps load_deps store_deps
attribute [local go_sem high] TDeps_eql TDeps_neq
attribute [local go_sem ↓] TMsg_ld0 TMsg_st0 TMsg_fd0 TMsg_bd0
attribute [local go_sem] TMsg_size TMsg_one TMsg_piece TMsg_c0 TMsg_c1 TMsg_c2 TMsg_c3 TMsg_c4 TMsg_c5 TMsg_c6 TMsg_c7 TMsg_c8 TMsg_c9 TMsg_c10 TMsg_c11 TMsg_c12 TMsg_c13 TMsg_c14 TMsg_c15 TMsg_c16 TMsg_c17 TMsg_c18 TMsg_c19 TMsg_c20 TMsg_c21 TMsg_c22 TMsg_c23 TMsg_c24 TMsg_set_kind TMsg_set_frm TMsg_set_to TMsg_p_item TMsg_put_item TMsg_p_bal TMsg_put_bal TMsg_p_vote TMsg_put_vote TMsg_set_status TMsg_set_same TMsg_p_call TMsg_put_call TMsg_ld TMsg_st TMsg_f_kind TMsg_f_frm TMsg_f_to TMsg_f_item TMsg_f_bal TMsg_f_vote TMsg_f_status TMsg_f_same TMsg_f_call TMsg_bd TMsg_fl TMsg_fl_kind TMsg_fl_frm TMsg_fl_to TMsg_fl_item TMsg_fl_bal TMsg_fl_vote TMsg_fl_status TMsg_fl_same TMsg_fl_call
attribute [local go_sem high] TMsg_eql TMsg_neq
/-- What a replica bears besides, nothing being led. -/
abbrev rpIdle (q : RpB) (j : Nat) (fl : Item → Option Nat) (n : Nat) (s : Nat) (bw bt : Nat) (v : Value) (turn : Nat) (l : List Spoke) (gg : Nat) : List Res :=
  [ldsR q.ml j fl, ldsR q.mr 0 (fun _ => none), pcR q.bp bw bt n s, rowR bw #[v, .int .i64 turn], skR v l, trR bt, rnR q.br gg]
theorem piece_of {X cur : Array Value} {o : Nat} (h : ∀ (j : Nat) (u : Value), X[j]? = some u → cur[o + j]? = some u) (hX : X.size = 25) (hc : o + 25 ≤ cur.size) : piece cur o 25 = X := by
  apply Array.ext_getElem?
  intro j
  rw [piece_get]
  by_cases hj : j < 25
  · rw [if_pos hj, Array.getElem?_eq_getElem (by omega : j < X.size)]
    exact h j _ (Array.getElem?_eq_getElem (by omega : j < X.size))
  · rw [if_neg hj, Array.getElem?_eq_none (by omega)]
theorem load_piece {P : Program} {T : TypeId} {w : World} {g o : Nat} {cur X : Array Value} (hr : row? w g = some cur) (hX : X.size = 25) (hp : piece cur o 25 = X) (hc : o + 25 ≤ cur.size) : loadVal P T 25 w (.pointer (some ⟨g, o, none⟩)) = .ok (.agg X) w := by
  rw [loadVal_at]
  unfold loadOf
  rw [hr]
  dsimp only
  rw [if_pos hc, hp]
theorem empt_form {size : Nat} {v : Value} {w W : World} {F : Nat → Prop} {R : List Res} (T : Sts w F W (emptR size v :: R)) : ∃ A c, v = .slice A 0 c := by
  rcases T.empt with ⟨a, h, -⟩ | ⟨g, o, c, cur, h, -⟩
  · exact ⟨a, 0, h⟩
  · exact ⟨_, c, h⟩
section
variable {w W : World} {F : Nat → Prop} {R : List Res} {g gl lg p gx bk bs bw bt safe j turn t0 s f k gg : Nat} {q : RpB} {inb out v : Value} {I : Idx} {D : List UInt8} {m : RowsM} {fl : Item → Option Nat} {l : List Spoke} {ls : List Letter} {t : TypeId} {d : Deed}
set_option maxHeartbeats 32000000 in
theorem rpDrainT (hv : VotI (2 * f + 1 : Nat) k I D m) (hk : k ≤ 100) (hf : 1 ≤ f ∧ f ≤ 3) (hs : s < 2 * f + 1) (ht0 : topM m s = (t0 : Int)) (ht1 : t0 < 64) (hd : goodB d = true) (x : Item) (hxx : x = ⟨s, (t0 : Int) + 1⟩) (c : Call) (hcc : c = rpC m d x) (hfl : fl x = some gl) (hls : ls.length ≤ 1000)
    (hl : l.length ≤ 1000) (hno : ∀ y ∈ l, eqA (IV y.key) (IV x) = false) (hall : ∀ y ∈ l, y.due = 4 ∧ y.turn < (turn : Int)) (ht : turn ≤ 1000)
    (T : Sts w F W (spL q.sp lg p gx bk bs I D safe m ++ (kndR t :: rowR g (rpV q (2 * f + 1 : Nat) s inb out) :: oneR 25 inb (MV (preMsg s x c s)) :: vecR 148 3 out ls.length (vl LTV ls) :: (rpRest q j fl gl (2 * f + 1) s x c bw bt v turn l ++ rnR q.br gg :: R)))) :
    Calls Tryz.prog 27 #[.pointer (some ⟨g, 0, none⟩)] W fun e W' => ∃ v' inb' out' ls' I' D' safe' same c0, e = .returned (.tuple #[]) ∧ ls'.length = ls.length ∧ VotI (2 * f + 1 : Nat) (k + 1) I' D' (setM m x (nowI s same c0)) ∧
      Sts w F W' (spL q.sp lg p gx bk bs I' D' safe' (setM m x (nowI s same c0)) ++ (kndR t :: rowR g (rpV q (2 * f + 1 : Nat) s inb' out') :: emptR 25 inb' :: vecR 148 3 out' ls'.length (vl LTV ls') :: (rpIdle q j fl (2 * f + 1) s bw bt v' (turn + 1) (l ++ [⟨x, 4, turn⟩]) gg ++ R))) := by
  have hxr : x.rep = (s : Int) := by rw [hxx]
  have hxi : InI x := by rw [hxx]; unfold InI; simp only; omega
  have H1 := fun (W' : World) (inb' : Value) (R' : List Res) (T' : Sts w F W' (spL q.sp lg p gx bk bs I D safe m ++ (kndR t :: rowR g (rpV q (2 * f + 1 : Nat) s inb' out) :: emptR 25 inb' :: vecR 148 3 out ls.length (vl LTV ls) :: (rpRest q j fl gl (2 * f + 1) s x c bw bt v turn l ++ R')))) => rpHear1T hv hk (by omega) hs ht0 ht1 hd x hxx c hcc hfl hls hl hno hall ht T'
  have H2 := fun (W' : World) (same : Bool) (c0 : Call) (inb' out' : Value) (R' : List Res) (T' : Sts w F W' (rowR g (rpV q ((2 * f + 1 : Nat) : Int) s inb' out') :: ldsR q.ml j fl :: rowR gl (ldC ((2 * f + 1 : Nat) : Int) s x ⟨0, s⟩ c 1 noVotes) :: ldsR q.mr 0 (fun _ => none) :: R')) => rpHear2T (same := same) (c0 := c0) (by omega) hf hs x hxi hxr hfl T'
  have HH1 := Lib.hid H1; have HH2 := Lib.hid H2
  clear H1 H2 hv hk ht0 ht1 hd hxx hcc hfl hls hl hno hall ht hxi hxr hs hf
  obtain ⟨pm, hpm⟩ : ∃ pm, pm = preMsg s x c s := ⟨_, rfl⟩
  rw [← hpm] at HH1 T
  clear hpm
  obtain ⟨n, hn⟩ : ∃ n, n = 2 * f + 1 := ⟨_, rfl⟩
  rw [← hn] at HH1 HH2 T ⊢
  clear hn
  have T0 := Sts.pack (L := spL q.sp lg p gx bk bs I D safe m) T
  have HT := Lib.hid T0; clear T T0
  go_enter Tryz.func27, Tryz.ntmps27
  go_wp2_with fail
  go_loopg [] 2 (fun gk wr => (gk = 2 ∧ Sts w F wr (packR (spL q.sp lg p gx bk bs I D safe m) :: kndR t :: rowR g (rpV q n s inb out) :: oneR 25 inb (MV pm) :: vecR 148 3 out ls.length (vl LTV ls) :: (rpRest q j fl gl n s x c bw bt v turn l ++ rnR q.br gg :: R))) ∨
    (gk = 1 ∧ ∃ v' inb' out' ls' I' D' safe' same c0, ls'.length = ls.length ∧ VotI n (k + 1) I' D' (setM m x (nowI s same c0)) ∧ Sts w F wr (packR (spL q.sp lg p gx bk bs I' D' safe' (setM m x (nowI s same c0))) :: kndR t :: rowR g (rpV q n s inb' out') :: oneR 25 inb' (MV (okMsg s x same c0)) :: vecR 148 3 out' ls'.length (vl LTV ls') :: (rpRest q j fl gl n s x c bw bt v' (turn + 1) (l ++ [⟨x, 4, turn⟩]) ++ rnR q.br gg :: R))) ∨
    (gk = 0 ∧ ∃ v' inb' out' ls' I' D' safe' same c0, ls'.length = ls.length ∧ VotI n (k + 1) I' D' (setM m x (nowI s same c0)) ∧ Sts w F wr (packR (spL q.sp lg p gx bk bs I' D' safe' (setM m x (nowI s same c0))) :: kndR t :: rowR g (rpV q n s inb' out') :: emptR 25 inb' :: vecR 148 3 out' ls'.length (vl LTV ls') :: (rpIdle q j fl n s bw bt v' (turn + 1) (l ++ [⟨x, 4, turn⟩]) gg ++ R))))
  case atStart => exact .inl ⟨rfl, HT.out⟩
  case round =>
    clear HT
    rcases hrel with ⟨rfl, T⟩ | ⟨rfl, v', inb', out', ls', I', D', safe', same, c0, hl', hv', T⟩ | ⟨rfl, v', inb', out', ls', I', D', safe', same, c0, hl', hv', T⟩
    · obtain ⟨gi, oi, ci, cur, hvi, hc1, -, hc2, hc3, T⟩ := (T.ord [3, 2, 0, 1]).one
      subst hvi
      have hld : loadVal Tryz.prog 136 25 wr (.pointer (some ⟨gi, oi, none⟩)) = .ok (.agg (MV pm)) wr := load_piece T.row rfl (piece_of hc3 rfl (by omega)) (by omega)
      have HC := Lib.hid hc2
      clear hc3 hc2
      have ri := T.row; have li := row_lt ri
      have rg := T.row1; have lgg := row_lt rg; have cg := row_cell rg 11; have fg := row_frozen rg 11
      have HT := Lib.hid T; clear T
      by_cases hci : ci = 1
      · subst hci
        go_wp2_with fail
        have T := ((HT.out.swap.setCell 11 (.slice (some ⟨gi, oi, none⟩) 0 0)).swap).oneCut hc1 HC.out
        rw [if_pos rfl] at T
        have T := T.new (MV pm) 136
        have T := T.ord [3, 4, 2, 1, 5, 6, 7, 8, 9, 10, 11, 12, 13, 0]
        refine (HH1.out _ _ _ T.unpack).mono ?_
        clear T HT ri li rg lgg cg fg hld
        rintro e5 w5 ⟨v', inb', out', ls', I', D', safe', same, c0, rfl, hl', hv', T⟩
        have T := Sts.pack (L := spL q.sp lg p gx bk bs I' D' safe' (setM m x (nowI s same c0))) T
        have HT := Lib.hid (T.ord [13, 0, 1, 2, 3, 4, 5, 6, 7, 8, 9, 10, 11, 12]).drop
        have HVV := Lib.hid hv'; clear T hv'
        go_wp2
        go_roundg 1
        case measure => omega
        case rel => exact .inr (.inl ⟨rfl, v', inb', out', ls', I', D', safe', same, c0, hl', HVV.out, HT.out⟩)
      · have hci2 : 2 ≤ ci := by omega
        go_wp2_with fail
        have T := ((HT.out.swap.setCell 11 (.slice (some ⟨gi, oi + 25, none⟩) 0 (ci - 1))).swap).oneCut hc1 HC.out
        rw [if_neg hci] at T
        have T := T.new (MV pm) 136
        have T := T.ord [3, 4, 2, 1, 5, 6, 7, 8, 9, 10, 11, 12, 13, 0]
        refine (HH1.out _ _ _ T.unpack).mono ?_
        clear T HT ri li rg lgg cg fg hld
        rintro e5 w5 ⟨v', inb', out', ls', I', D', safe', same, c0, rfl, hl', hv', T⟩
        have T := Sts.pack (L := spL q.sp lg p gx bk bs I' D' safe' (setM m x (nowI s same c0))) T
        have HT := Lib.hid (T.ord [13, 0, 1, 2, 3, 4, 5, 6, 7, 8, 9, 10, 11, 12]).drop
        have HVV := Lib.hid hv'; clear T hv'
        go_wp2
        go_roundg 1
        case measure => omega
        case rel => exact .inr (.inl ⟨rfl, v', inb', out', ls', I', D', safe', same, c0, hl', HVV.out, HT.out⟩)
    · obtain ⟨am, ham⟩ : ∃ am, am = okMsg s x same c0 := ⟨_, rfl⟩
      have hh2 := fun W' inb' out' R' => HH2.out W' same c0 inb' out' R'
      rw [← ham] at T hh2
      have HH := Lib.hid hh2; clear hh2 ham
      have HVV := Lib.hid hv'; clear hv'
      obtain ⟨gi, oi, ci, cur, hvi, hc1, -, hc2, hc3, T⟩ := (T.ord [3, 2, 0, 1]).one
      subst hvi
      have hld : loadVal Tryz.prog 136 25 wr (.pointer (some ⟨gi, oi, none⟩)) = .ok (.agg (MV am)) wr := load_piece T.row rfl (piece_of hc3 rfl (by omega)) (by omega)
      have HC := Lib.hid hc2
      clear hc3 hc2
      have ri := T.row; have li := row_lt ri
      have rg := T.row1; have lgg := row_lt rg; have cg := row_cell rg 11; have fg := row_frozen rg 11
      have HT := Lib.hid T; clear T
      by_cases hci : ci = 1
      · subst hci
        go_wp2_with fail
        have T := ((HT.out.swap.setCell 11 (.slice (some ⟨gi, oi, none⟩) 0 0)).swap).oneCut hc1 HC.out
        rw [if_pos rfl] at T
        have T := T.new (MV am) 136
        have T := T.ord [2, 6, 7, 8, 0, 1, 3, 4, 5, 9, 10, 11, 12, 13]
        refine (HH.out _ _ _ _ T).mono ?_
        clear T HT ri li rg lgg cg fg hld
        rintro e5 w5 ⟨rfl, T⟩
        have HT := Lib.hid (T.ord [3, 5, 6, 0, 4, 7, 1, 2, 8, 9, 10, 11, 12]).drop; clear T
        go_wp2
        go_roundg 0
        case measure => omega
        case rel => exact .inr (.inr ⟨rfl, v', _, out', ls', I', D', safe', same, c0, hl', HVV.out, HT.out⟩)
      · have hci2 : 2 ≤ ci := by omega
        go_wp2_with fail
        have T := ((HT.out.swap.setCell 11 (.slice (some ⟨gi, oi + 25, none⟩) 0 (ci - 1))).swap).oneCut hc1 HC.out
        rw [if_neg hci] at T
        have T := T.new (MV am) 136
        have T := T.ord [2, 6, 7, 8, 0, 1, 3, 4, 5, 9, 10, 11, 12, 13]
        refine (HH.out _ _ _ _ T).mono ?_
        clear T HT ri li rg lgg cg fg hld
        rintro e5 w5 ⟨rfl, T⟩
        have HT := Lib.hid (T.ord [3, 5, 6, 0, 4, 7, 1, 2, 8, 9, 10, 11, 12]).drop; clear T
        go_wp2
        go_roundg 0
        case measure => omega
        case rel => exact .inr (.inr ⟨rfl, v', _, out', ls', I', D', safe', same, c0, hl', HVV.out, HT.out⟩)
    · obtain ⟨A, ca, hvi⟩ := empt_form (T.ord [3, 2, 0, 1])
      subst hvi
      have HVV := Lib.hid hv'; clear hv'
      have T := T.ord [2, 11, 0, 1, 3, 4, 5, 6, 7, 8, 9, 10]
      have rg := T.row; have lgg := row_lt rg; have cg := row_cell rg 11
      have HT := Lib.hid T; clear T
      go_wp2_with fail
      refine (rpAdvT HT.out).mono ?_
      clear HT rg lgg cg
      rintro e5 w5 ⟨rfl, T⟩
      have HT := Lib.hid (T.ord [2, 3, 0, 4, 5, 6, 7, 8, 9, 10, 11, 1]).unpack; clear T
      go_wp2
      go_end0
      exact ⟨v', _, out', ls', I', D', safe', same, c0, rfl, hl', HVV.out, HT.out⟩
end
end Go.Proofs.YtomlilkobhkoiaaGreatDoor
/- Layer 22, plain: the messages that a lead says: one to the replica itself, the others are good. No walk stands here. -/
namespace Go.Proofs.YtomlilkobhkoiaaGreatDoor
open Go.RowKit
set_option linter.unusedVariables false
theorem preL_split {α : Type} (f : Nat → α) {s n : Nat} (hs : s < n) : (List.range n).map f = (List.range s).map f ++ f s :: (List.range' (s + 1) (n - s - 1)).map f := by
  obtain ⟨k, rfl⟩ : ∃ k, n = s + (1 + k) := ⟨n - s - 1, by omega⟩
  have h1 : List.range (s + (1 + k)) = List.range s ++ List.range' s (1 + k) := by
    rw [List.range_eq_range', List.range_eq_range']
    have h := List.range'_append (s := 0) (m := s) (n := 1 + k) (step := 1)
    simp only [Nat.zero_add, Nat.one_mul] at h
    exact h.symm
  rw [h1, List.map_append, Nat.add_comm 1 k, List.range'_succ, List.map_cons]
  simp
theorem rpM_fit {m : RowsM} (hm : RowsOk m) (hg : RowsGood m) (hn : m.n ≤ 7) {d : Deed} (hd : goodB d = true) {x : Item} (hx : goodI x m.n = true) {s rep : Nat} (hs : (s : Int) < m.n) (hr : (rep : Int) < m.n) : MsgIn (preMsg s x (rpC m d x) rep) 1000 := by
  have hc := goodC_iff.1 (rpC_good hm hg hd x)
  have hdd := goodD_iff.1 hc.2.1
  have hq := hc.2.2
  unfold goodB at hd
  rw [decide_eq_true_iff] at hd
  unfold goodI at hx
  rw [decide_eq_true_iff] at hx
  have hk : 0 ≤ d.kind ∧ d.kind ≤ 5 := by
    have := hd.2.2.2.2.2.2.2.2.2
    unfold Kinds at this
    omega
  refine ⟨?_, ?_, ?_, ?_, ?_, ?_, ?_, ?_, ?_, ?_, ⟨⟨?_, ?_, ?_, ?_, ?_⟩, fun i hi => ?_, ?_⟩⟩
  case refine_16 => have := hdd i hi; dsimp only [preMsg]; omega
  all_goals first
    | (unfold In64 preMsg noBallot; dsimp only; omega)
    | (unfold preMsg rpC; dsimp only; omega)
    | (unfold preMsg; dsimp only; omega)
end Go.Proofs.YtomlilkobhkoiaaGreatDoor
