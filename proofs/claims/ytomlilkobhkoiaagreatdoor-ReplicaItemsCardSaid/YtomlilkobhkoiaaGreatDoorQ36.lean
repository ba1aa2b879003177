/- Several texts in one. -/
import Derived.Test.YtomlilkobhkoiaaGreatDoorQ35
import Derived.Test.YtomlilkobhkoiaaGreatDoorQ4
import Derived.Test.YtomlilkobhkoiaaGreatDoorQ3
import Derived.Deep.Cut
import Derived.Test.YtomlilkobhkoiaaGreatDoorQ31
import Derived.Test.YtomlilkobhkoiaaGreatDoorQ9
import Derived.Test.YtomlilkobhkoiaaGreatDoorQ7
import Derived.Test.YtomlilkobhkoiaaGreatDoorQ6
/- Layer 14: what a lead says. -/
namespace Go.Proofs.YtomlilkobhkoiaaGreatDoor
open Go.RowKit
set_option linter.unusedVariables false
set_option maxRecDepth 20000
attribute [local go_sem] row_alloc row_drew row_drewN row_ext row_setCell row_setRow size_ext setRow_alloc setRow_drew loadOf storeOf piece_lit loadVal_at storeVal_at allOne_lit buildOf buildRes_some
attribute [local go_sem high] cell_alloc frozen_alloc setCell_alloc cell_ext frozen_ext cell_setRow frozen_setRow
attribute [local go_sem ↓] TItem_ld0 TItem_st0 TItem_fd0 TItem_bd0
attribute [local go_sem] TItem_size TItem_one TItem_piece TItem_c0 TItem_c1 TItem_set_rep TItem_set_num TItem_ld TItem_st TItem_f_rep TItem_f_num TItem_bd TItem_fl TItem_fl_rep TItem_fl_num
attribute [local go_sem high] TItem_eql TItem_neq
attribute [local go_sem ↓] TBallot_ld0 TBallot_st0 TBallot_fd0 TBallot_bd0
attribute [local go_sem] TBallot_size TBallot_one TBallot_piece TBallot_c0 TBallot_c1 TBallot_set_round TBallot_set_rep TBallot_ld TBallot_st TBallot_f_round TBallot_f_rep TBallot_bd TBallot_fl TBallot_fl_round TBallot_fl_rep
attribute [local go_sem high] TBallot_eql TBallot_neq
attribute [local go_sem ↓] TCall_ld0 TCall_st0 TCall_fd0 TCall_bd0
attribute [local go_sem] TCall_size TCall_one TCall_piece TCall_c0 TCall_c1 TCall_c2 TCall_c3 TCall_c4 TCall_c5 TCall_c6 TCall_c7 TCall_c8 TCall_c9 TCall_c10 TCall_c11 TCall_c12 TCall_c13 TCall_p_deed TCall_put_deed TCall_p_deps TCall_put_deps TCall_set_seq TCall_ld TCall_st TCall_f_deed TCall_f_deps TCall_f_seq TCall_bd TCall_fl TCall_fl_deed TCall_fl_deps TCall_fl_seq
attribute [local go_sem high] TCall_eql TCall_neq
attribute [local go_sem ↓] TDeed_ld0 TDeed_st0 TDeed_fd0 TDeed_bd0
attribute [local go_sem] TDeed_size TDeed_one TDeed_piece TDeed_c0 TDeed_c1 TDeed_c2 TDeed_c3 TDeed_c4 TDeed_c5 TDeed_set_kind TDeed_set_key TDeed_set_val TDeed_set_ver TDeed_set_ses TDeed_set_num TDeed_ld TDeed_st TDeed_f_kind TDeed_f_key TDeed_f_val TDeed_f_ver TDeed_f_ses TDeed_f_num TDeed_bd TDeed_fl TDeed_fl_kind TDeed_fl_key TDeed_fl_val TDeed_fl_ver TDeed_fl_ses TDeed_fl_num
attribute [local go_sem high] TDeed_eql TDeed_neq
attribute [local go_sem ↓] index_deps0 load_deps0 store_deps0
attribute [local go_sem] DV_piece DV_size DV_one index_deps load_deps store_deps
attribute [local go_sem high] TDeps_eql TDeps_neq
attribute [local go_sem ↓] TMsg_ld0 TMsg_st0 TMsg_fd0 TMsg_bd0
attribute [local go_sem] TMsg_size TMsg_one TMsg_piece TMsg_c0 TMsg_c1 TMsg_c2 TMsg_c3 TMsg_c4 TMsg_c5 TMsg_c6 TMsg_c7 TMsg_c8 TMsg_c9 TMsg_c10 TMsg_c11 TMsg_c12 TMsg_c13 TMsg_c14 TMsg_c15 TMsg_c16 TMsg_c17 TMsg_c18 TMsg_c19 TMsg_c20 TMsg_c21 TMsg_c22 TMsg_c23 TMsg_c24 TMsg_set_kind TMsg_set_frm TMsg_set_to TMsg_p_item TMsg_put_item TMsg_p_bal TMsg_put_bal TMsg_p_vote TMsg_put_vote TMsg_set_status TMsg_set_same TMsg_p_call TMsg_put_call TMsg_ld TMsg_st TMsg_f_kind TMsg_f_frm TMsg_f_to TMsg_f_item TMsg_f_bal TMsg_f_vote TMsg_f_status TMsg_f_same TMsg_f_call TMsg_bd TMsg_fl TMsg_fl_kind TMsg_fl_frm TMsg_fl_to TMsg_fl_item TMsg_fl_bal TMsg_fl_vote TMsg_fl_status TMsg_fl_same TMsg_fl_call
attribute [local go_sem high] TMsg_eql TMsg_neq
attribute [local go_sem ↓] mes_slice0
attribute [local go_sem] mes_slice1 ld_item ld_bal ld_call ld_size ld_c0 ld_c1 ld_c20
def preMsg (self : Int) (x : Item) (c : Call) (rep : Nat) : Msg := ⟨1, self, rep, x, ⟨0, self⟩, noBallot, 0, false, c⟩
section
variable {w W : World} {F : Nat → Prop} {R : List Res} {n g : Nat} {self : Int} {x : Item} {b : Ballot} {c : Call} {ph : Int} {V : Array Value}
theorem ldPhaseT (T : Sts w F W (rowR g (ldC n self x b c ph V) :: R)) :
  Calls Tryz.prog 52 #[.pointer (some ⟨g, 0, none⟩)] W fun e W' => e = .returned (.int .i64 ph) ∧ Sts w F W' (rowR g (ldC n self x b c ph V) :: R) := by
 have hr := T.row; have hlt := row_lt hr; have hc := row_cell hr 20
 have HT := Lib.hid T; clear T
 go_enter Tryz.func52, Tryz.ntmps52
 go_wp2
 go_ret
 exact ⟨rfl, HT.out⟩
theorem ldBallotT (hV : V.size = 198) (T : Sts w F W (rowR g (ldC n self x b c ph V) :: R)) :
  Calls Tryz.prog 155 #[.pointer (some ⟨g, 0, none⟩)] W fun e W' => e = .returned (.agg (BV b)) ∧ Sts w F W' (rowR g (ldC n self x b c ph V) :: R) := by
 have hr := T.row; have hlt := row_lt hr; have hc := row_cell hr 4
 have T2 := T.new (BV b) 64
 have HT := Lib.hid T2; clear T T2
 go_enter Tryz.func155, Tryz.ntmps155
 go_wp2
 exact TBallot_ret _ rfl rfl rfl HT.out.row ⟨rfl, HT.out.drop⟩
theorem faults_any (k : Nat) (hk : k ≤ 3) : Ans Tryz.prog 217 #[.int .i64 ((2 * k + 1 : Nat) : Int)] (.int .i64 k) := by
 intro W
 have h1 : ¬ (((2 * k + 1 : Nat) : Int) < 1) := by omega
 go_enter Tryz.func217, Tryz.ntmps217
 match k, hk with
 | 0, _ => go_wp2; go_ret; exact ⟨rfl, Below.refl _ _⟩
 | 1, _ => go_wp2; go_ret; exact ⟨rfl, Below.refl _ _⟩
 | 2, _ => go_wp2; go_ret; exact ⟨rfl, Below.refl _ _⟩
 | 3, _ => go_wp2; go_ret; exact ⟨rfl, Below.refl _ _⟩
set_option maxHeartbeats 8000000 in
theorem ldSayT (hn : n ≤ 7) (hV : V.size = 198) (T : Sts w F W (rowR g (ldC n self x ⟨0, self⟩ c 1 V) :: R)) :
  Calls Tryz.prog 26 #[.pointer (some ⟨g, 0, none⟩)] W fun e W' => ∃ v, e = .returned v ∧ Sts w F W' (vecR 136 25 v n (vl MV ((List.range n).map (preMsg self x c))) :: rowR g (ldC n self x ⟨0, self⟩ c 1 V) :: R) := by
 have HP := Lib.hid (ldPhaseT T); clear T
 go_enter Tryz.func26, Tryz.ntmps26
 go_wp2_with fail
 refine HP.out.mono ?_
 clear HP
 rintro e w1 ⟨rfl, T⟩
 have hr := T.row; have hlt := row_lt hr; have hc : w1.cell? ⟨g, 0, none⟩ = some (.int .i64 n) := by rw [row_cell hr 0, ld_c0]
 have HT := Lib.hid T; clear T
 go_wp2_with fail
 go_loopw [4, 18] (fun u4 u18 wr => ∃ k : Nat, u18 = .int .i64 k ∧ k ≤ n ∧ Sts w F wr (vecR 136 25 u4 k (vl MV ((List.range k).map (preMsg self x c))) :: rowR g (ldC n self x ⟨0, self⟩ c 1 V) :: R)) (fun _ u18 _ => n - (intOf u18).toNat)
 case atStart => exact ⟨0, rfl, by omega, HT.out.vecNil _ _⟩
 case round =>
  clear HT hr hlt hc
  obtain ⟨k, rfl, hk, T⟩ := hrel
  by_cases hkn : k < n
  ·have hk1 : (k : Int) < (n : Int) := by omega
   obtain ⟨A, cc, rfl, hcc⟩ := vec_form T
   have FS : ∀ W' R', Sts w F W' (rowR g (ldC n self x ⟨0, self⟩ c 1 V) :: R') → (W'.cell? ⟨g, 1, none⟩ = some (.int .i64 self) ∧ row? W' g = some (ldC n self x ⟨0, self⟩ c 1 V)) := fun W' R' T' => ⟨by rw [row_cell T'.row 1, ld_c1], T'.row⟩
   have HFS := Lib.hid FS
   have HT0 := Lib.hid T.drew.swap
   have S0 := FS _ _ HT0.out
   clear FS T
   go_upto_region 14 with fail
   refine wp_region_held_drew (S := fun W' => (W'.cell? ⟨g, 1, none⟩ = some (.int .i64 self) ∧ row? W' g = some (ldC n self x ⟨0, self⟩ c 1 V))) (by kernel_rfl) S0 (fun hHeld => ?_)
   clear S0
   refine tkH 0 rfl ?_
   simp only [Act.put, List.setIfInBounds_toArray, List.set_cons_zero, List.set_cons_succ]
   refine tkH 1 rfl ?_
   go_frame
   refine tkH 2 rfl ?_
   go_frame
   refine tkH 3 rfl ?_
   go_frame
   refine tkH 4 rfl ?_
   go_frame
   refine tkH 5 rfl ?_
   go_frame
   refine tkH 6 rfl ?_
   go_frame
   refine tkH 7 rfl ?_
   go_frame
   refine tkH 8 rfl ?_
   go_frame
   refine tkH 9 rfl ?_
   go_frame
   refine tkH 10 rfl ?_
   go_frame
   refine tkH 11 rfl ?_
   go_frame
   refine tkH 12 rfl ?_
   go_frame
   refine tkH 13 rfl ?_
   go_frame
   refine tkH 14 rfl ?_
   go_frame
   refine tkH 15 rfl ?_
   go_frame
   refine tkH 16 rfl ?_
   go_frame
   refine tkH 17 rfl ?_
   go_frame
   refine tkH 18 rfl ?_
   go_frame
   refine tkH 19 rfl ?_
   go_frame
   generalize hw8 : wr.drew = w8 at *
   clear hw8
   refine wpAnyH_ready (rs := [20]) (by kernel_rfl) (by simp) ?_
   refine AllReadyH.cons (o := _) rfl (fun K hK => ?_) AllReadyH.nil
   have Ta := HT0.out.new (MV ⟨1, self, k, x, ⟨0, self⟩, noBallot, 0, false, c⟩) 136
   have HTa := Lib.hid (Ta.ord [2, 0, 1]); clear Ta HT0
   go_simp
   refine hK.out _ _ ?_ (fun hHeld => ?_)
   ·exact HFS.out _ _ (HTa.out.ord [2, 0, 1])
   clear hK K
   refine wpAnyH_ready (rs := [21]) (by kernel_rfl) (by simp) ?_
   refine AllReadyH.cons (o := _) rfl (fun K hK => ?_) AllReadyH.nil
   obtain ⟨i0, hi0', hz0, hz1, hz2⟩ := mes_i
   have HOK := Lib.hid (mes_one ⟨1, self, k, x, ⟨0, self⟩, noBallot, 0, false, c⟩)
   refine step_append_vec (by rfl) _ _ _ (by rfl) 136 i0 _ 25 216 Tryz.underlying57 hi0' hz0 hz1 hz2 rfl (by omega) _ _ _ (by rfl) HTa.out ⟨w8.heap.size, 0, none⟩ 1 1 (MV ⟨1, self, k, x, ⟨0, self⟩, noBallot, 0, false, c⟩).toList (by rfl) (by rfl) (news_at HTa.out.row1) HOK.out (by omega) (by unfold maxLen; omega) (by omega) ?_
   intro gv' cap1 w12 T1
   have T1 := T1.ord [2, 0, 1]
   refine hK.out _ _ ?_ (fun hHeld => ?_)
   ·exact HFS.out _ _ T1
   clear hK K HOK HTa
   refine tkH 22 rfl ?_
   simp only [Act.put, List.getElem_toArray, List.getElem_cons_succ, List.getElem_cons_zero, List.setIfInBounds_toArray, List.set_cons_zero, List.set_cons_succ]
   refine wpAnyH_done (by kernel_rfl) ?_ _
   try simp only [Exit.then]
   have HT := Lib.hid (T1.ord [2, 1, 0]).drop
   clear T1 hi0' hz0 hz1 hz2 HFS
   go_wp2
   go_roundw
   case rel =>
    refine ⟨k + 1, by go_num, by omega, ?_⟩
    rw [List.range_succ, List.map_append, List.map_cons, List.map_nil, vl_snoc]
    exact HT.out
   case measure => simp [intOf]; omega
  ·obtain rfl : k = n := by omega
   have hk1 : ¬ (k : Int) < (k : Int) := by omega
   have HT := Lib.hid T; clear T
   go_wp2
   go_ret
   exact ⟨_, rfl, HT.out⟩
end
end Go.Proofs.YtomlilkobhkoiaaGreatDoor
/- Layer 22, plain: what a replica answers itself to its own first message. No walk stands here. -/
namespace Go.Proofs.YtomlilkobhkoiaaGreatDoor
open Go.RowKit
set_option linter.unusedVariables false
set_option maxRecDepth 20000
noncomputable def rpC (m : RowsM) (d : Deed) (x : Item) : Call := ⟨d, (wayK m d x).out, (wayK m d x).seq⟩
def okMsg (s : Int) (x : Item) (same : Bool) (c : Call) : Msg := ⟨2, s, s, x, ⟨0, s⟩, noBallot, 0, same, c⟩
def nowI (s : Int) (same : Bool) (c : Call) : Inst := ⟨⟨0, s⟩, ⟨0, s⟩, 1, c, same⟩
theorem rpC_good {m : RowsM} (hm : RowsOk m) (hg : RowsGood m) {d : Deed} (hd : goodB d = true) (x : Item) : goodC (rpC m d x) m.n = true := by
 obtain ⟨w1, w2, w3⟩ := wayK_in hm hg d x
 exact goodC_iff.2 ⟨hd, goodD_iff.2 fun i _ => w1 i, w2, w3⟩
theorem rpM_good {m : RowsM} (hm : RowsOk m) (hg : RowsGood m) {d : Deed} (hd : goodB d = true) {x : Item} (hx : goodI x m.n = true) {s rep : Nat} (hs : (s : Int) < m.n) (hr : (rep : Int) < m.n) : goodM (preMsg s x (rpC m d x) rep) m.n = true := by
 have hc := rpC_good hm hg hd x
 have h1 : callsB 1 = true := by decide
 have h2 : knownB 1 = false := by decide
 have h3 : goodBal ⟨0, (s : Int)⟩ m.n = true := by
  unfold goodBal
  rw [decide_eq_true_iff]
  simp only
  omega
 have h4 : noVote (preMsg s x (rpC m d x) rep) = true := by unfold noVote; exact eqA_refl _
 have h5 : decide ((1 : Int) ≤ 1 ∧ (1 : Int) ≤ 8 ∧ (0 : Int) ≤ s ∧ (s : Int) < m.n ∧ (0 : Int) ≤ rep ∧ (rep : Int) < m.n) = true := by
  rw [decide_eq_true_iff]; omega
 unfold goodM
 rw [h4]
 unfold preMsg
 dsimp only
 rw [h1, h2, hc, hx, h3, h5]
 rfl
theorem rpM_in {m : RowsM} (hm : RowsOk m) (hg : RowsGood m) {d : Deed} (hd : goodB d = true) {x : Item} (hx : goodI x m.n = true) {s rep : Nat} (hs : (s : Int) < m.n) (hr : (rep : Int) < m.n) (h : atM m x = noInst) :
  ∃ same c, ansM m s (preMsg s x (rpC m d x) s) = ⟨okMsg s x same c, true, nowI s same c⟩ := by
 have hgd := rpM_good hm hg hd hx hs hs
 obtain ⟨c, hc⟩ : ∃ c, c = mergeC (rpC m d x) (wayK m d x) := ⟨_, rfl⟩
 obtain ⟨same, hsame⟩ : ∃ b, b = sameC c (preMsg s x (rpC m d x) s) := ⟨_, rfl⟩
 have hv : voteM noInst ⟨0, (s : Int)⟩ 1 c same = (nowI s same c, true) := by
  unfold voteM votedB nowI
  rw [if_neg]
  ·rw [if_neg]
   ·simp [noInst]
  ·unfold lessBal noInst noBallot
   simp
 refine ⟨same, c, ?_⟩
 unfold ansM
 have hto : (preMsg s x (rpC m d x) s).to = (s : Int) := rfl
 have hk : (preMsg s x (rpC m d x) s).kind = 1 := rfl
 have hi : (preMsg s x (rpC m d x) s).item = x := rfl
 rw [hto, hk, hi, if_neg (by rw [hgd]; simp), h, if_neg (by simp [noInst]), if_pos rfl]
 unfold preM
 have hcall : (preMsg s x (rpC m d x) s).call = rpC m d x := rfl
 have hb : (preMsg s x (rpC m d x) s).bal = ⟨0, (s : Int)⟩ := rfl
 have hd2 : (rpC m d x).deed = d := rfl
 rw [hcall, hb, hi, hd2, ← hc, ← hsame, hv, if_pos rfl]
 rfl
theorem rp_at {m : RowsM} {s t : Nat} (h : topM m s = (t : Int)) : atM m ⟨(s : Int), (t : Int) + 1⟩ = noInst := by
 unfold atM
 rw [getM_top (by rw [h]; omega)]
 rfl
theorem nowI_ne (s : Int) (same : Bool) (c : Call) : eqA (NV noInst) (NV (nowI s same c)) = false := by
 refine eqA_no.2 fun h => ?_
 have := congrArg (fun X : Array Value => X[4]?) h
 simp [NV, nowI, noInst] at this
theorem rp_now {m : RowsM} {x : Item} (h : atM m x = noInst) (s : Int) (same : Bool) (c : Call) : nowR m x (nowI s same c) = setM m x (nowI s same c) := by
 unfold nowR
 rw [h, nowI_ne, if_neg (by simp)]
theorem rp_set {m : RowsM} {s t : Nat} (hs : (s : Int) < m.n) (h : topM m s = (t : Int)) (ht : t < 64) (i : Inst) :
  goodI ⟨(s : Int), (t : Int) + 1⟩ m.n = true ∧ topM (setM m ⟨(s : Int), (t : Int) + 1⟩ i) s = ((t + 1 : Nat) : Int) ∧ atM (setM m ⟨(s : Int), (t : Int) + 1⟩ i) ⟨(s : Int), (t : Int) + 1⟩ = i := by
 obtain ⟨h1, h2⟩ := top_next (m := m) (rep := s) i (by omega) hs (by omega)
 rw [h] at h1 h2
 refine ⟨h1, by rw [h2]; omega, ?_⟩
 unfold atM
 rw [getM_set_same i h1]
 rfl
end Go.Proofs.YtomlilkobhkoiaaGreatDoor
/- Layer 22: something is known of an item that the replica leads: nothing ends, the item is watched. -/
namespace Go.Proofs.YtomlilkobhkoiaaGreatDoor
open Go.RowKit Go.Shelf
set_option linter.unusedVariables false
set_option maxRecDepth 20000
attribute [local go_sem] Oper.semAt_some
attribute [local go_sem] row_alloc row_drew row_drewN row_ext row_setCell row_setRow size_ext setRow_alloc setRow_drew loadOf storeOf piece_lit loadVal_at storeVal_at allOne_lit buildOf buildRes_some
attribute [local go_sem high] cell_alloc frozen_alloc setCell_alloc cell_ext frozen_ext cell_setRow frozen_setRow
attribute [local go_sem ↓] TItem_ld0 TItem_st0 TItem_fd0 TItem_bd0
attribute [local go_sem] TItem_size TItem_one TItem_piece TItem_c0 TItem_c1 TItem_set_rep TItem_set_num TItem_ld TItem_st TItem_f_rep TItem_f_num TItem_bd TItem_fl TItem_fl_rep TItem_fl_num
attribute [local go_sem high] TItem_eql TItem_neq
attribute [local go_sem ↓] TBallot_ld0 TBallot_st0 TBallot_fd0 TBallot_bd0
attribute [local go_sem] TBallot_size TBallot_one TBallot_piece TBallot_c0 TBallot_c1 TBallot_set_round TBallot_set_rep TBallot_ld TBallot_st TBallot_f_round TBallot_f_rep TBallot_bd TBallot_fl TBallot_fl_round TBallot_fl_rep
attribute [local go_sem high] TBallot_eql TBallot_neq
attribute [local go_sem ↓] TCall_ld0 TCall_st0 TCall_fd0 TCall_bd0
attribute [local go_sem] TCall_size TCall_one TCall_piece TCall_c0 TCall_c1 TCall_c2 TCall_c3 TCall_c4 TCall_c5 TCall_c6 TCall_c7 TCall_c8 TCall_c9 TCall_c10 TCall_c11 TCall_c12 TCall_c13 TCall_p_deed TCall_put_deed TCall_p_deps TCall_put_deps TCall_set_seq TCall_ld TCall_st TCall_f_deed TCall_f_deps TCall_f_seq TCall_bd TCall_fl TCall_fl_deed TCall_fl_deps TCall_fl_seq
attribute [local go_sem high] TCall_eql TCall_neq
attribute [local go_sem ↓] TDeed_ld0 TDeed_st0 TDeed_fd0 TDeed_bd0
attribute [local go_sem] TDeed_size TDeed_one TDeed_piece TDeed_c0 TDeed_c1 TDeed_c2 TDeed_c3 TDeed_c4 TDeed_c5 TDeed_set_kind TDeed_set_key TDeed_set_val TDeed_set_ver TDeed_set_ses TDeed_set_num TDeed_ld TDeed_st TDeed_f_kind TDeed_f_key TDeed_f_val TDeed_f_ver TDeed_f_ses TDeed_f_num TDeed_bd TDeed_fl TDeed_fl_kind TDeed_fl_key TDeed_fl_val TDeed_fl_ver TDeed_fl_ses TDeed_fl_num
attribute [local go_sem high] TDeed_eql TDeed_neq
attribute [local go_sem ↓] index_deps0 load_deps0 store_deps0
attribute [local go_sem] DV_piece DV_size DV_one index_deps load_deps store_deps
attribute [local go_sem high] TDeps_eql TDeps_neq
attribute [local go_sem ↓] TInst_ld0 TInst_st0 TInst_fd0 TInst_bd0
attribute [local go_sem] TInst_size TInst_one TInst_piece TInst_c0 TInst_c1 TInst_c2 TInst_c3 TInst_c4 TInst_c5 TInst_c6 TInst_c7 TInst_c8 TInst_c9 TInst_c10 TInst_c11 TInst_c12 TInst_c13 TInst_c14 TInst_c15 TInst_c16 TInst_c17 TInst_c18 TInst_c19 TInst_p_prom TInst_put_prom TInst_p_vote TInst_put_vote TInst_set_status TInst_p_call TInst_put_call TInst_set_same TInst_ld TInst_st TInst_f_prom TInst_f_vote TInst_f_status TInst_f_call TInst_f_same TInst_bd TInst_fl TInst_fl_prom TInst_fl_vote TInst_fl_status TInst_fl_call TInst_fl_same
attribute [local go_sem high] TInst_eql TInst_neq
attribute [local go_sem ↓] ite_slice0
attribute [local go_sem] ite_slice1
/-- A map from items to blocks. -/
abbrev ldsR (b j : Nat) (f : Item → Option Nat) : Res := mapR Tryz.prog 33 (fun x : Item => Value.agg (IV x)) (fun k : Nat => Value.pointer (some ⟨k, 0, none⟩)) InI b j f
section
variable {w W : World} {F : Nat → Prop} {R : List Res} {g gl lg p gx bk bs bw bt safe j turn : Nat} {q : RpB} {n : Nat} {inb out v : Value} {I : Idx} {D : List UInt8} {m : RowsM} {fl : Item → Option Nat} {l : List Spoke} {same : Bool} {c c0 : Call}
set_option maxHeartbeats 16000000 in
theorem rpKnownT (hm : RowsOk m) (x : Item) (hx : InI x) (hn1 : 1 ≤ n) (hn7 : n ≤ 7) (hat : atM m x = nowI x.rep same c0) (hf : fl x = some gl) (hl : l.length ≤ 1000) (hno : ∀ s ∈ l, eqA (IV s.key) (IV x) = false) (hall : ∀ y ∈ l, y.due = 4 ∧ y.turn < (turn : Int)) (ht : turn ≤ 1000)
  (T : Sts w F W (spL q.sp lg p gx bk bs I D safe m ++ (rowR g (rpV q n x.rep inb out) :: ldsR q.ml j fl :: rowR gl (ldC n x.rep x ⟨0, x.rep⟩ c 1 noVotes) :: ldsR q.mr 0 (fun _ => none) :: pcR q.bp bw bt n x.rep :: rowR bw #[v, .int .i64 turn] :: skR v l :: trR bt :: R))) :
  Calls Tryz.prog 95 #[.pointer (some ⟨g, 0, none⟩), .agg (IV x)] W fun e W' => ∃ v', e = .returned (.tuple #[]) ∧ Sts w F W' (spL q.sp lg p gx bk bs I D safe m ++ (rowR g (rpV q n x.rep inb out) :: ldsR q.ml j fl :: rowR gl (ldC n x.rep x ⟨0, x.rep⟩ c 1 noVotes) :: ldsR q.mr 0 (fun _ => none) :: pcR q.bp bw bt n x.rep :: rowR bw #[v', .int .i64 ((turn + 1 : Nat) : Int)] :: skR v' (l ++ [⟨x, 4, turn⟩]) :: trR bt :: R)) := by
 have T0 := Sts.pack (L := spL q.sp lg p gx bk bs I D safe m) T
 have hun : ∀ W' R', Sts w F W' (packR (spL q.sp lg p gx bk bs I D safe m) :: R') → Sts w F W' (spL q.sp lg p gx bk bs I D safe m ++ R') := fun W' R' T' => T'.unpack
 have hAT : ∀ W' R', Sts w F W' (packR (spL q.sp lg p gx bk bs I D safe m) :: R') → Calls Tryz.prog 146 #[.pointer (some ⟨q.sp, 0, none⟩), .agg (IV x)] W' fun e W2 => e = .returned (.agg (NV (nowI x.rep same c0))) ∧ Sts w F W2 (packR (spL q.sp lg p gx bk bs I D safe m) :: R') := by
  intro W' R' T'
  have h := Reads.at (L := spL q.sp lg p gx bk bs I D safe m) (spAtR q.sp lg p gx bk bs I D safe m hm x) (hun _ _ T')
  have e1 : (getM m x).getD noInst = nowI x.rep same c0 := hat
  rw [e1] at h
  exact h.mono fun _ _ ⟨h1, hb⟩ => ⟨h1, T'.pure hb⟩
 clear T hat hm
 generalize packR (spL q.sp lg p gx bk bs I D safe m) = SP at *
 have T1 := T0.new (IV x) 33
 have HT := Lib.hid (T1.ord [0, 2, 1]); have HUN := Lib.hid hun; have HAT := Lib.hid hAT; have HNO := Lib.hid hno; have HALL := Lib.hid hall
 clear T0 T1 hun hAT hno hall
 have HF := Lib.hid hf; clear hf
 go_enter Tryz.func95, Tryz.ntmps95
 go_upto_region 1 with fail
 generalize W.alloc _ = w1 at *
 generalize W.heap.size = bx at *
 go_cut [4] (fun u4 wx => ∃ gi, u4 = .pointer (some ⟨gi, 0, none⟩) ∧ Sts w F wx (rowR gi (NV (nowI x.rep same c0)) :: rowR bx (IV x) :: rowR g (rpV q n x.rep inb out) :: SP :: ldsR q.ml j fl :: rowR gl (ldC n x.rep x ⟨0, x.rep⟩ c 1 noVotes) :: ldsR q.mr 0 (fun _ => none) :: pcR q.bp bw bt n x.rep :: rowR bw #[v, .int .i64 turn] :: skR v l :: trR bt :: R))
 case first =>
  have FS : ∀ W' R', Sts w F W' (rowR bx (IV x) :: rowR g (rpV q n x.rep inb out) :: R') → (W'.cell? ⟨g, 3, none⟩ = some (.pointer (some ⟨q.sp, 0, none⟩)) ∧ row? W' bx = some (IV x)) := fun W' R' T' => ⟨row_cell T'.row1 3, T'.row⟩
  have HT2 := Lib.hid HT.out.drew
  have S0 := FS _ _ HT2.out
  have HFS := Lib.hid FS
  clear FS HT
  refine wp_region_held_drew (S := fun W' => W'.cell? ⟨g, 3, none⟩ = some (.pointer (some ⟨q.sp, 0, none⟩)) ∧ row? W' bx = some (IV x)) (by kernel_rfl) S0 (fun hHeld => ?_)
  clear S0
  generalize w1.drew = w2 at *
  refine tkH 0 rfl ?_
  simp only [Act.put, List.setIfInBounds_toArray, List.set_cons_zero, List.set_cons_succ]
  refine tkH 1 rfl ?_
  go_frame
  refine tkH 2 rfl ?_
  go_frame
  refine tkH 3 rfl ?_
  go_frame
  refine tkH 4 rfl ?_
  go_frame
  refine wpAnyH_ready (rs := [5, 6]) (by kernel_rfl) (by simp) ?_
  refine AllReadyH.cons (o := _) rfl (fun K hK => ?_) ?_
  ·go_simp
   refine (HAT.out _ _ (HT2.out.ord [2, 0, 1])).mono ?_
   clear HT2
   rintro e3 w3 ⟨rfl, T⟩
   have T := T.ord [1, 2, 0]
   refine hK.out _ _ (HFS.out _ _ T) (fun hHeld => ?_)
   clear hK K
   have T2 := T.new (NV noInst) 70
   refine wpAnyH_ready (rs := [6]) (by kernel_rfl) (by simp) ?_
   refine AllReadyH.cons (o := _) rfl (fun K hK => ?_) AllReadyH.nil
   go_simp
   refine hK.out _ _ (HFS.out _ _ T2.drop) (fun hHeld => ?_)
   clear hK K
   have rn := T2.row; have ln := row_lt rn
   have HT3 := Lib.hid (T.new (NV (nowI x.rep same c0)) 70); clear T T2
   refine wpAnyH_ready (rs := [7]) (by kernel_rfl) (by simp) ?_
   refine AllReadyH.cons (o := _) rfl (fun K hK => ?_) AllReadyH.nil
   go_simp
   refine hK.out _ _ (HFS.out _ _ HT3.out.drop) (fun hHeld => ?_)
   clear hK K rn ln
   refine wpAnyH_done (by kernel_rfl) ?_ _
   try simp only [Exit.then]
   go_step
   go_meet
   case rel => exact ⟨_, rfl, HT3.out⟩
  ·have T2 := HT2.out.new (NV noInst) 70
   refine AllReadyH.cons (o := _) rfl (fun K hK => ?_) AllReadyH.nil
   go_simp
   refine hK.out _ _ (HFS.out _ _ T2.drop) (fun hHeld => ?_)
   clear hK K HT2
   have HT2 := Lib.hid T2; clear T2
   refine wpAnyH_ready (rs := [5]) (by kernel_rfl) (by simp) ?_
   refine AllReadyH.cons (o := _) rfl (fun K hK => ?_) AllReadyH.nil
   go_simp
   refine (HAT.out _ _ (HT2.out.ord [3, 0, 1, 2])).mono ?_
   clear HT2
   rintro e3 w3 ⟨rfl, T⟩
   have T := T.ord [1, 2, 3, 0]
   refine hK.out _ _ (HFS.out _ _ T.drop) (fun hHeld => ?_)
   clear hK K
   have rn := T.row; have ln := row_lt rn
   have HT3 := Lib.hid (T.setRow (NV (nowI x.rep same c0))); clear T
   refine wpAnyH_ready (rs := [7]) (by kernel_rfl) (by simp) ?_
   refine AllReadyH.cons (o := _) rfl (fun K hK => ?_) AllReadyH.nil
   go_simp
   refine hK.out _ _ (HFS.out _ _ HT3.out.drop) (fun hHeld => ?_)
   clear hK K rn ln
   refine wpAnyH_done (by kernel_rfl) ?_ _
   try simp only [Exit.then]
   go_step
   go_meet
   case rel => exact ⟨_, rfl, HT3.out⟩
 case rest =>
  obtain ⟨gi, rfl, T⟩ := hcut
  clear HT
  have hinst : piece (NV (nowI x.rep same c0)) 0 2 = BV ⟨0, x.rep⟩ := by kernel_rfl
  have rn := T.row; have ln := row_lt rn
  have c4 : wc.cell? ⟨gi, 4, none⟩ = some (.int .i64 1) := row_cell rn 4
  have FS : ∀ W' gi' R', Sts w F W' (rowR gi' (NV (nowI x.rep same c0)) :: rowR bx (IV x) :: rowR g (rpV q n x.rep inb out) :: SP :: ldsR q.ml j fl :: R') → (row? W' bx = some (IV x) ∧ W'.cell? ⟨g, 4, none⟩ = some (.map (some q.ml)) ∧ (Instr.lookup 47 (.map (some q.ml)) (.agg (IV x)) false).run Tryz.prog W' = .ok (.pointer (some ⟨gl, 0, none⟩)) W') := fun W' gi' R' T' => by
   have hlk := (T'.ord [4, 0, 1, 2, 3]).map.look1 itemOk Tryz.underlying47 (z := .pointer none) (fun w => by kernel_rfl) x hx
   rw [HF.out] at hlk
   exact ⟨T'.row1, row_cell T'.row2 4, hlk⟩
  have HT := Lib.hid T; clear T
  go_upto_region 8 with fail
  clear rn ln c4
  have HT2 := Lib.hid HT.out.drew; clear HT
  have S0 := FS _ _ _ HT2.out
  clear FS
  refine wp_region_held_drew (S := fun W' => row? W' bx = some (IV x) ∧ W'.cell? ⟨g, 4, none⟩ = some (.map (some q.ml)) ∧ (Instr.lookup 47 (.map (some q.ml)) (.agg (IV x)) false).run Tryz.prog W' = .ok (.pointer (some ⟨gl, 0, none⟩)) W') (by kernel_rfl) S0 (fun hHeld => ?_)
  clear S0
  generalize wc.drew = w2 at *
  refine tkH 0 rfl ?_
  simp only [Act.put, List.setIfInBounds_toArray, List.set_cons_zero, List.set_cons_succ]
  refine tkH 1 rfl ?_
  go_frame
  refine tkH 2 rfl ?_
  go_frame
  refine tkH 3 rfl ?_
  go_frame
  refine tkH 4 rfl ?_
  go_frame
  refine tkH 5 rfl ?_
  go_frame
  refine tkH 6 rfl ?_
  go_frame
  refine wpAnyH_done (by kernel_rfl) ?_ _
  try simp only [Exit.then]
  clear hHeld
  have FS : ∀ W' R', Sts w F W' (rowR gi (NV (nowI x.rep same c0)) :: R') → row? W' gi = some (NV (nowI x.rep same c0)) := fun W' R' T' => T'.row
  have HFS := Lib.hid FS; clear FS
  have hinst : piece (NV (nowI x.rep same c0)) 0 2 = BV ⟨0, x.rep⟩ := by kernel_rfl
  go_upto_region 9 with fail
  have HT3 := Lib.hid HT2.out.drew; clear HT2
  have S0 := HFS.out _ _ HT3.out
  refine wp_region_held_drew (S := fun W' => row? W' gi = some (NV (nowI x.rep same c0))) (by kernel_rfl) S0 (fun hHeld => ?_)
  clear S0
  generalize w2.drew = w3 at *
  refine tkH 0 rfl ?_
  simp only [Act.put, List.setIfInBounds_toArray, List.set_cons_zero, List.set_cons_succ]
  refine tkH 1 rfl ?_
  go_frame
  refine tkH 2 rfl ?_
  go_frame
  refine tkH 3 rfl ?_
  go_frame
  refine tkH 5 rfl ?_
  go_frame
  refine tkH 6 rfl ?_
  go_frame
  refine wpAnyH_ready (rs := [4]) (by kernel_rfl) (by simp) ?_
  refine AllReadyH.cons (o := _) rfl (fun K hK => ?_) AllReadyH.nil
  go_simp
  refine (ldBallotT (by kernel_rfl) (HT3.out.ord [5, 0, 1, 2, 3, 4])).mono ?_
  clear HT3
  rintro e4 w4 ⟨rfl, T⟩
  have HT := Lib.hid (T.ord [1, 2, 3, 4, 5, 0]); clear T
  refine hK.out _ _ (HFS.out _ _ HT.out) (fun hHeld => ?_)
  clear hK K
  have hle := less_any ⟨0, x.rep⟩ ⟨0, x.rep⟩
  rw [show lessBal ⟨0, x.rep⟩ ⟨0, x.rep⟩ = false by unfold lessBal; simp] at hle
  have HLE := Lib.hid hle; clear hle
  refine wpAnyH_ready (rs := [7]) (by kernel_rfl) (by simp) ?_
  refine AllReadyH.cons (o := _) rfl (fun K hK => ?_) AllReadyH.nil
  go_simp
  refine (HLE.out.at HT.out).mono ?_
  clear HLE HT
  rintro e5 w5 ⟨rfl, T⟩
  have HT := Lib.hid T; clear T
  refine hK.out _ _ (HFS.out _ _ HT.out) (fun hHeld => ?_)
  clear hK K
  refine tkH 8 rfl ?_
  simp only [Act.put, List.setIfInBounds_toArray, List.set_cons_zero, List.set_cons_succ]
  refine wpAnyH_done (by kernel_rfl) ?_ _
  try simp only [Exit.then]
  clear hHeld HFS hinst
  have FS : ∀ W' R', Sts w F W' (rowR bx (IV x) :: rowR g (rpV q n x.rep inb out) :: ldsR q.mr 0 (fun _ => none) :: R') → (row? W' bx = some (IV x) ∧ W'.cell? ⟨g, 5, none⟩ = some (.map (some q.mr)) ∧ (Instr.lookup 48 (.map (some q.mr)) (.agg (IV x)) false).run Tryz.prog W' = .ok (.pointer none) W') := fun W' R' T' => by
   have hlk := (T'.ord [2, 0, 1]).map.look1 itemOk Tryz.underlying48 (z := .pointer none) (fun w => by kernel_rfl) x hx
   exact ⟨T'.row, row_cell T'.row1 5, hlk⟩
  have HT2 := Lib.hid (HT.out.drew.ord [1, 2, 6, 0, 3, 4, 5]); clear HT
  have S0 := FS _ _ HT2.out
  clear FS
  go_upto_region 11 with fail
  refine wp_region_held_drew (S := fun W' => row? W' bx = some (IV x) ∧ W'.cell? ⟨g, 5, none⟩ = some (.map (some q.mr)) ∧ (Instr.lookup 48 (.map (some q.mr)) (.agg (IV x)) false).run Tryz.prog W' = .ok (.pointer none) W') (by kernel_rfl) S0 (fun hHeld => ?_)
  clear S0
  generalize w5.drew = w6 at *
  refine tkH 0 rfl ?_
  simp only [Act.put, List.setIfInBounds_toArray, List.set_cons_zero, List.set_cons_succ]
  refine tkH 1 rfl ?_
  go_frame
  refine tkH 2 rfl ?_
  go_frame
  refine tkH 3 rfl ?_
  go_frame
  refine tkH 4 rfl ?_
  go_frame
  refine tkH 5 rfl ?_
  go_frame
  refine tkH 6 rfl ?_
  go_frame
  refine wpAnyH_done (by kernel_rfl) ?_ _
  try simp only [Exit.then]
  clear hHeld
  go_upto_region 12 with fail
  go_quiet (fail)
  have HT3 := Lib.hid (HT2.out.drewN nq).drew; clear HT2
  generalize w6.drewN nq = w7 at *
  go_upto_region 14 with fail
  have FS : ∀ W' R', Sts w F W' (rowR bx (IV x) :: rowR g (rpV q n x.rep inb out) :: R') → (row? W' bx = some (IV x) ∧ W'.cell? ⟨g, 6, none⟩ = some (.pointer (some ⟨q.bp, 0, none⟩)) ∧ W'.cell? ⟨g, 2, none⟩ = some (.int .i64 0)) := fun W' R' T' => ⟨T'.row, row_cell T'.row1 6, row_cell T'.row1 2⟩
  have HFS := Lib.hid FS; clear FS
  have S0 := HFS.out _ _ HT3.out
  refine wp_region_held_drew (S := fun W' => row? W' bx = some (IV x) ∧ W'.cell? ⟨g, 6, none⟩ = some (.pointer (some ⟨q.bp, 0, none⟩)) ∧ W'.cell? ⟨g, 2, none⟩ = some (.int .i64 0)) (by kernel_rfl) S0 (fun hHeld => ?_)
  clear S0
  generalize w7.drew = w8 at *
  refine tkH 0 rfl ?_
  simp only [Act.put, List.setIfInBounds_toArray, List.set_cons_zero, List.set_cons_succ]
  refine tkH 1 rfl ?_
  go_frame
  refine tkH 2 rfl ?_
  go_frame
  refine tkH 3 rfl ?_
  go_frame
  refine tkH 4 rfl ?_
  go_frame
  refine tkH 5 rfl ?_
  go_frame
  refine tkH 6 rfl ?_
  go_frame
  refine tkH 7 rfl ?_
  go_frame
  refine tkH 8 rfl ?_
  go_frame
  refine wpAnyH_ready (rs := [9]) (by kernel_rfl) (by simp) ?_
  refine AllReadyH.cons (o := _) rfl (fun K hK => ?_) AllReadyH.nil
  have T4 := HT3.out.new (IV x) 33
  go_simp
  refine hK.out _ _ (HFS.out _ _ T4.drop) (fun hHeld => ?_)
  clear hK K HT3
  have T5 := T4.ord [0, 8, 9, 10, 11, 1, 2, 3, 4, 5, 6, 7]
  have HP := Lib.hid (pcSeeT (v := v) (l := l) (turn := turn) x hx (by omega) (by omega) hl HNO.out HALL.out ht T5)
  clear T4 T5
  refine wpAnyH_ready (rs := [10]) (by kernel_rfl) (by simp) ?_
  refine AllReadyH.cons (o := _) rfl (fun K hK => ?_) AllReadyH.nil
  go_simp
  refine HP.out.mono ?_
  clear HP
  rintro e9 w9 ⟨v', rfl, T⟩
  have T6 := T.ord [4, 5, 6, 7, 8, 9, 10, 0, 1, 2, 3]
  have HT := Lib.hid T6; clear T T6
  refine hK.out _ _ (HFS.out _ _ HT.out) (fun hHeld => ?_)
  clear hK K
  refine wpAnyH_done (by kernel_rfl) ?_ _
  try simp only [Exit.then]
  clear hHeld HFS
  go_wp2
  go_end0
  refine ⟨v', rfl, HUN.out _ _ ?_⟩
  have T9 := (HT.out.ord [3, 0, 4, 1, 5, 6, 2, 7, 8, 9, 10]).drop.drop
  exact T9
end
end Go.Proofs.YtomlilkobhkoiaaGreatDoor
/- Layer 14: what replicas said: the first one says something. -/
namespace Go.Proofs.YtomlilkobhkoiaaGreatDoor
open Go.RowKit
set_option linter.unusedVariables false
set_option maxRecDepth 20000
attribute [local go_sem] row_alloc row_drew row_drewN row_ext row_setCell row_setRow size_ext setRow_alloc setRow_drew loadOf storeOf piece_lit loadVal_at storeVal_at allOne_lit buildOf buildRes_some
attribute [local go_sem high] cell_alloc frozen_alloc setCell_alloc cell_ext frozen_ext cell_setRow frozen_setRow
attribute [local go_sem ↓] TItem_ld0 TItem_st0 TItem_fd0 TItem_bd0
attribute [local go_sem] TItem_size TItem_one TItem_piece TItem_c0 TItem_c1 TItem_set_rep TItem_set_num TItem_ld TItem_st TItem_f_rep TItem_f_num TItem_bd TItem_fl TItem_fl_rep TItem_fl_num
attribute [local go_sem high] TItem_eql TItem_neq
attribute [local go_sem ↓] TBallot_ld0 TBallot_st0 TBallot_fd0 TBallot_bd0
attribute [local go_sem] TBallot_size TBallot_one TBallot_piece TBallot_c0 TBallot_c1 TBallot_set_round TBallot_set_rep TBallot_ld TBallot_st TBallot_f_round TBallot_f_rep TBallot_bd TBallot_fl TBallot_fl_round TBallot_fl_rep
attribute [local go_sem high] TBallot_eql TBallot_neq
attribute [local go_sem ↓] TCall_ld0 TCall_st0 TCall_fd0 TCall_bd0
attribute [local go_sem] TCall_size TCall_one TCall_piece TCall_c0 TCall_c1 TCall_c2 TCall_c3 TCall_c4 TCall_c5 TCall_c6 TCall_c7 TCall_c8 TCall_c9 TCall_c10 TCall_c11 TCall_c12 TCall_c13 TCall_p_deed TCall_put_deed TCall_p_deps TCall_put_deps TCall_set_seq TCall_ld TCall_st TCall_f_deed TCall_f_deps TCall_f_seq TCall_bd TCall_fl TCall_fl_deed TCall_fl_deps TCall_fl_seq
attribute [local go_sem high] TCall_eql TCall_neq
attribute [local go_sem ↓] TDeed_ld0 TDeed_st0 TDeed_fd0 TDeed_bd0
attribute [local go_sem] TDeed_size TDeed_one TDeed_piece TDeed_c0 TDeed_c1 TDeed_c2 TDeed_c3 TDeed_c4 TDeed_c5 TDeed_set_kind TDeed_set_key TDeed_set_val TDeed_set_ver TDeed_set_ses TDeed_set_num TDeed_ld TDeed_st TDeed_f_kind TDeed_f_key TDeed_f_val TDeed_f_ver TDeed_f_ses TDeed_f_num TDeed_bd TDeed_fl TDeed_fl_kind TDeed_fl_key TDeed_fl_val TDeed_fl_ver TDeed_fl_ses TDeed_fl_num
attribute [local go_sem high] TDeed_eql TDeed_neq
attribute [local go_sem ↓] index_deps0 load_deps0 store_deps0
attribute [local go_sem] DV_piece DV_size DV_one index_deps load_deps store_deps
attribute [local go_sem high] TDeps_eql TDeps_neq
attribute [local go_sem ↓] TMsg_ld0 TMsg_st0 TMsg_fd0 TMsg_bd0
attribute [local go_sem] TMsg_size TMsg_one TMsg_piece TMsg_c0 TMsg_c1 TMsg_c2 TMsg_c3 TMsg_c4 TMsg_c5 TMsg_c6 TMsg_c7 TMsg_c8 TMsg_c9 TMsg_c10 TMsg_c11 TMsg_c12 TMsg_c13 TMsg_c14 TMsg_c15 TMsg_c16 TMsg_c17 TMsg_c18 TMsg_c19 TMsg_c20 TMsg_c21 TMsg_c22 TMsg_c23 TMsg_c24 TMsg_set_kind TMsg_set_frm TMsg_set_to TMsg_p_item TMsg_put_item TMsg_p_bal TMsg_put_bal TMsg_p_vote TMsg_put_vote TMsg_set_status TMsg_set_same TMsg_p_call TMsg_put_call TMsg_ld TMsg_st TMsg_f_kind TMsg_f_frm TMsg_f_to TMsg_f_item TMsg_f_bal TMsg_f_vote TMsg_f_status TMsg_f_same TMsg_f_call TMsg_bd TMsg_fl TMsg_fl_kind TMsg_fl_frm TMsg_fl_to TMsg_fl_item TMsg_fl_bal TMsg_fl_vote TMsg_fl_status TMsg_fl_same TMsg_fl_call
attribute [local go_sem high] TMsg_eql TMsg_neq
def putX (X : Array Value) (s : Nat) (m : Msg) : Array Value := ((splice X (21 + s * 25) (MV m)).setIfInBounds (196 + s) (.bool true)).setIfInBounds 203 (.int .i64 1)
section
variable {w W : World} {F : Nat → Prop} {R : List Res} {g s : Nat} {X : Array Value}
set_option maxHeartbeats 8000000 in
theorem vtPutT (hs : s < 7) (hX : X.size = 219) (h1 : X[196 + s]? = some (.bool false)) (h2 : X[203]? = some (.int .i64 0)) (m : Msg) (T : Sts w F W (rowR g X :: R)) :
  Calls Tryz.prog 192 #[.pointer (some ⟨g, 21, none⟩), .int .i64 s, .agg (MV m)] W fun e W' => e = .returned (.bool true) ∧ Sts w F W' (rowR g (putX X s m) :: R) := by
 have hs0 : (0 : Int) ≤ (s : Int) := by omega
 have hs1 : ¬ (s : Int) < 0 := by omega
 have hs7 : (s : Int) < 7 := by omega
 have hs8 : ¬ (7 : Int) ≤ (s : Int) := by omega
 have rg := T.row; have lg := row_lt rg; have cg : W.cell? ⟨g, 196 + s, none⟩ = some (.bool false) := by rw [row_cell rg, h1]
 have fg := row_frozen rg (196 + s)
 have hsp : (splice X (21 + s * 25) (MV m))[196 + s]? = some (.bool false) := by
  unfold splice
  rw [setMany_get, if_neg (by have : (MV m).toList.length = 25 := rfl; omega), h1]
 have hsp3 : (splice X (21 + s * 25) (MV m))[203]? = some (.int .i64 0) := by
  unfold splice
  rw [setMany_get, if_neg (by have : (MV m).toList.length = 25 := rfl; omega), h2]
 have hsz : (splice X (21 + s * 25) (MV m)).size = 219 := by unfold splice; rw [setMany_size, hX]
 have HT := Lib.hid (T.new (MV m) 136); clear T
 go_enter Tryz.func192, Tryz.ntmps192
 go_upto_region 3 with fail
 have S0 : (fun W' : World => row? W' W.heap.size = some (MV m)) (W.alloc (.cells (MV m) 136)).drew := HT.out.drew.row
 have HM := Lib.hid (show ∀ W' : World, (row? W' W.heap.size = some (MV m)) → True from fun _ _ => trivial)
 have HT0 := Lib.hid HT.out.drew.swap
 clear rg lg cg fg HT
 refine wp_region_stage (fun W' => row? W' W.heap.size = some (MV m)) (fun _ => True) 8 (by kernel_rfl) S0 (fun hHeld => ?_)
 clear S0
 generalize (W.alloc (.cells (MV m) 136)).drew = w2 at *
 generalize W.heap.size = gm at *
 refine tk0 0 rfl ?_
 simp only [Act.put, List.setIfInBounds_toArray, List.set_cons_zero, List.set_cons_succ]
 refine tk0 1 rfl ?_
 go_frame
 refine tk1 2 HM.out rfl ?_
 simp only [Act.put, List.setIfInBounds_toArray, List.set_cons_zero, List.set_cons_succ]
 refine tk1 3 HM.out rfl ?_
 go_frame
 refine tk0 4 rfl ?_
 simp only [Act.put, List.setIfInBounds_toArray, List.set_cons_zero, List.set_cons_succ]
 refine tk1 5 HM.out rfl ?_
 simp only [Act.put, List.setIfInBounds_toArray, List.set_cons_zero, List.set_cons_succ]
 refine tk1 6 HM.out rfl ?_
 go_frame
 refine tk0 7 rfl ?_
 simp only [Act.put, List.setIfInBounds_toArray, List.set_cons_zero, List.set_cons_succ]
 refine tk1 9 HM.out rfl ?_
 simp only [Act.put, List.setIfInBounds_toArray, List.set_cons_zero, List.set_cons_succ]
 refine tk1 10 HM.out rfl ?_
 go_frame
 refine wpAnyL_ready (rs := [8]) (by kernel_rfl) (by simp) ?_
 refine AllReadyL.cons1 (o := _) rfl (by kernel_rfl) (fun K hK => ?_) AllReadyL.nil
 have r0 := HT0.out.row; have l0 := row_lt r0
 have hle : 21 + s * 25 ≤ 194 := by omega
 have HT1 := Lib.hid (HT0.out.setRow (splice X (21 + s * 25) (MV m)))
 go_simp
 refine hK.out _ _ trivial (fun hHeld => ?_)
 clear hK K r0 l0 HT0
 refine tk2 11 HM.out rfl ?_
 simp only [Act.put, List.setIfInBounds_toArray, List.set_cons_zero, List.set_cons_succ]
 generalize w2.setRow g _ = w3 at *
 have c1 : w3.cell? ⟨g, 196 + s, none⟩ = some (.bool false) := by rw [row_cell HT1.out.row, hsp]
 have f1 := row_frozen HT1.out.row (196 + s)
 have HT2 := Lib.hid (HT1.out.setCell (196 + s) (.bool true))
 refine wpAnyL_ready (rs := [12]) (by kernel_rfl) (by simp) ?_
 refine AllReadyL.cons1 (o := _) rfl (by kernel_rfl) (fun K hK => ?_) AllReadyL.nil
 go_simp
 refine hK.out _ _ trivial (fun hHeld => ?_)
 clear hK K c1 f1 HT1 HM
 refine wpAnyL_done (by kernel_rfl) ?_ _
 try simp only [Exit.then]
 generalize w3.setCell _ _ = w4 at *
 have T := HT2.out
 have c3 : w4.cell? ⟨g, 203, none⟩ = some (.int .i64 0) := by
  rw [row_cell T.row, Array.getElem?_setIfInBounds, if_neg (by omega), hsp3]
 have f3 := row_frozen T.row 203
 have HT := Lib.hid (T.setCell 203 (.int .i64 1)).swap.drop
 clear T HT2
 go_wp2
 go_ret
 exact ⟨rfl, HT.out⟩
theorem vtLenT (k : Int) (h2 : X[203]? = some (.int .i64 k)) (T : Sts w F W (rowR g X :: R)) :
  Calls Tryz.prog 215 #[.pointer (some ⟨g, 21, none⟩)] W fun e W' => e = .returned (.int .i64 k) ∧ Sts w F W' (rowR g X :: R) := by
 have rg := T.row; have lg := row_lt rg; have cg : W.cell? ⟨g, 203, none⟩ = some (.int .i64 k) := by rw [row_cell rg, h2]
 have HT := Lib.hid T; clear T
 go_enter Tryz.func215, Tryz.ntmps215
 go_wp2
 go_ret
 exact ⟨rfl, HT.out⟩
theorem vtHasT (j : Nat) (hj : j < 7) (bb : Bool) (h2 : X[196 + j]? = some (.bool bb)) (T : Sts w F W (rowR g X :: R)) :
  Calls Tryz.prog 227 #[.pointer (some ⟨g, 21, none⟩), .int .i64 j] W fun e W' => e = .returned (.bool bb) ∧ Sts w F W' (rowR g X :: R) := by
 have hs0 : (0 : Int) ≤ (j : Int) := by omega
 have hs7 : (j : Int) < 7 := by omega
 have rg := T.row; have lg := row_lt rg; have cg : W.cell? ⟨g, 196 + j, none⟩ = some (.bool bb) := by rw [row_cell rg, h2]
 have HT := Lib.hid T; clear T
 go_enter Tryz.func227, Tryz.ntmps227
 go_wp2
 go_ret
 exact ⟨rfl, HT.out⟩
end
end Go.Proofs.YtomlilkobhkoiaaGreatDoor
