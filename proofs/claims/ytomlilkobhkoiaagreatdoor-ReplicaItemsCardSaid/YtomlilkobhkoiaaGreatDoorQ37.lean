/- Several texts in one. -/
import Derived.Test.YtomlilkobhkoiaaGreatDoorQ36
import Derived.Test.YtomlilkobhkoiaaGreatDoorQ8
import Derived.Test.YtomlilkobhkoiaaGreatDoorQ24
import Derived.Test.YtomlilkobhkoiaaGreatDoorQ7
/- Layer 14: what replicas said, gone over: one has said something. -/
namespace Go.Proofs.YtomlilkobhkoiaaGreatDoor
open Go.RowKit Go.Shelf
set_option linter.unusedVariables false
set_option maxRecDepth 20000
attribute [local go_sem] Oper.semAt_some
attribute [local go_sem] row_alloc row_drew row_drewN row_ext row_setCell row_setRow size_ext setRow_alloc setRow_drew loadOf storeOf piece_lit loadVal_at storeVal_at allOne_lit buildOf buildRes_some
attribute [local go_sem high] cell_alloc frozen_alloc setCell_alloc cell_ext frozen_ext cell_setRow frozen_setRow
attribute [local go_sem ↓] TItem_ld0 TItem_st0 TItem_fd0 TItem_bd0
attribute [local go_sem] TItem_size TItem_one TItem_piece TItem_c0 TItem_c1 TItem_set_rep TItem_set_num TItem_ld TItem_st TItem_f_rep TItem_f_num TItem_bd TItem_fl TItem_fl_rep TItem_fl_num
attribute [local go_sem high] TItem_eql TItem_neq
attribute [local go_sem ↓] TBallot_ld0 TBallot_st0 TBallot_fd0 TBallot_bd0
attribute [local go_sem] TBallot_size TBallot_one TBallot_piece TBallot_c0 TBallot_c1 TBallot_set_round TBallot_set_rep TBallot_ld TBallot_st TBallot_f_round TBallot_f_rep TBallot_bd TBallot_fl TBallot_fl_round TBallot_fl_rep
attribute [local go_sem high] TBallot_eql TBallot_neq
attribute [local go_sem ↓] TCall_ld0 TCall_st0 TCall_fd0 TCall_bd0
attribute [local go_sem] TCall_size TCall_one TCall_piece TCall_c0 TCall_c1 TCall_c2 TCall_c3 TCall_c4 TCall_c5 TCall_c6 TCall_c7 TCall_c8 TCall_c9 TCall_c10 TCall_c11 TCall_c12 TCall_c13 TCall_p_deed TCall_put_deed TCall_p_deps TCall_put_deps TCall_set_seq TCall_ld TCall_st TCall_f_deed TCall_f_deps TCall_f_seq TCall_bd TCall_fl TCall_fl_deed TCall_fl_deps TCall_fl_seq
attribute [local go_sem high] TCall_eql TCall_neq
attribute [local go_sem ↓] TDeed_ld0 TDeed_st0 TDeed_fd0 TDeed_bd0
attribute [local go_sem] TDeed_size TDeed_one TDeed_piece TDeed_c0 TDeed_c1 TDeed_c2 TDeed_c3 TDeed_c4 TDeed_c5 TDeed_set_kind TDeed_set_key TDeed_set_val TDeed_set_ver TDeed_set_ses TDeed_set_num TDeed_ld TDeed_st TDeed_f_kind TDeed_f_key TDeed_f_val TDeed_f_ver TDeed_f_ses TDeed_f_num TDeed_bd TDeed_fl TDeed_fl_kind TDeed_fl_key TDeed_fl_val TDeed_fl_ver TDeed_fl_ses TDeed_fl_num
attribute [local go_sem high] TDeed_eql TDeed_neq
attribute [local go_sem ↓] index_deps0 load_deps0 store_deps0
attribute [local go_sem] DV_piece DV_size DV_one index_deps load_deps store_deps
attribute [local go_sem high] TDeps_eql TDeps_neq
attribute [local go_sem ↓] TMsg_ld0 TMsg_st0 TMsg_fd0 TMsg_bd0
attribute [local go_sem] TMsg_size TMsg_one TMsg_piece TMsg_c0 TMsg_c1 TMsg_c2 TMsg_c3 TMsg_c4 TMsg_c5 TMsg_c6 TMsg_c7 TMsg_c8 TMsg_c9 TMsg_c10 TMsg_c11 TMsg_c12 TMsg_c13 TMsg_c14 TMsg_c15 TMsg_c16 TMsg_c17 TMsg_c18 TMsg_c19 TMsg_c20 TMsg_c21 TMsg_c22 TMsg_c23 TMsg_c24 TMsg_set_kind TMsg_set_frm TMsg_set_to TMsg_p_item TMsg_put_item TMsg_p_bal TMsg_put_bal TMsg_p_vote TMsg_put_vote TMsg_set_status TMsg_set_same TMsg_p_call TMsg_put_call TMsg_ld TMsg_st TMsg_f_kind TMsg_f_frm TMsg_f_to TMsg_f_item TMsg_f_bal TMsg_f_vote TMsg_f_status TMsg_f_same TMsg_f_call TMsg_bd TMsg_fl TMsg_fl_kind TMsg_fl_frm TMsg_fl_to TMsg_fl_item TMsg_fl_bal TMsg_fl_vote TMsg_fl_status TMsg_fl_same TMsg_fl_call
attribute [local go_sem high] TMsg_eql TMsg_neq
theorem perm_two {a b : Res} {X R : List Res} : (X ++ (([a, b] : List Res) ++ R)).Perm (a :: b :: (X ++ R)) := perm_front (L := [])
def voteEnc (p : Int × Msg) : Array Value := #[.int .i64 p.1, .agg (MV p.2)]
section
variable {w W : World} {F : Nat → Prop} {R : List Res} {g s : Nat} {X : Array Value}
set_option maxHeartbeats 8000000 in
theorem vtAllG {gv : Nat} (hs : s < 7) (hX : X.size = 219) (hh : ∀ j, j < 7 → X[196 + j]? = some (.bool (decide (j = s)))) {m : Msg} (hm : piece X (21 + s * 25) 25 = MV m) :
  GivesD Tryz.prog 226 #[.pointer (some ⟨gv, 0, none⟩)] voteEnc [rowR gv #[.pointer (some ⟨g, 21, none⟩)], rowR g X] (fun xs => xs = [((s : Int), m)]) := by
 intro l own ownX hY w F W R T
 have HY := Lib.hid hY; clear hY
 have T : Sts w F W (rowR gv #[.pointer (some ⟨g, 21, none⟩)] :: rowR g X :: (own (if s < 0 then [((s : Int), m)] else []) ++ R)) := by rw [if_neg (by omega)]; exact T.perm perm_two
 have HT := Lib.hid T; clear T
 refine callsIn_of_wp Tryz.func226 rfl trivial ?_ rfl
 simp only [Tryz.ntmps226, List.size_toArray, List.length_cons, List.length_nil, Nat.reduceAdd, Nat.reduceSub, Array.replicate_succ, Array.replicate_zero, List.push_toArray, List.append_toArray, List.nil_append, List.cons_append]
 gi_wp2_with fail
 gi_loopw [4] (fun i wr => ∃ k : Nat, k ≤ 7 ∧ i = .int .i64 k ∧ Sts w F wr (rowR gv #[.pointer (some ⟨g, 21, none⟩)] :: rowR g X :: (own (if s < k then [((s : Int), m)] else []) ++ R))) (fun i _ => 7 - (intOf i).toNat)
 case atStart => exact ⟨0, by omega, rfl, HT.out⟩
 case round =>
  clear HT
  obtain ⟨k, hk7, rfl, T⟩ := hrel
  by_cases hlt : k < 7
  ·have hk0 : (0 : Int) ≤ (k : Int) := by omega
   have hk1 : (k : Int) < 7 := by omega
   have hc := row_cell T.row 0; have hlc := row_lt T.row
   have HH := Lib.hid (vtHasT k hlt _ (hh k hlt) T.swap)
   clear T
   by_cases hks : k = s
   ·subst hks
    have hd : decide (k = k) = true := by simp
    rw [hd] at HH
    clear hd
    gi_wp2_with fail
    refine ⟨trivial, ?_⟩
    refine (callsIn_wide.2 HH.out).mono ?_
    clear HH hc hlc
    rintro e w1 ⟨rfl, T⟩
    rw [if_neg (Nat.lt_irrefl k)] at T
    have T := T.swap
    have rg := T.row1; have lg := row_lt rg; have hle : 21 + k * 25 ≤ 194 := by omega
    have hc := row_cell T.row 0; have hlc := row_lt T.row
    have hY := HY.out [] ((k : Int), m) w F _ _ ⟨[], rfl⟩ (T.perm (perm_two (X := own []) (R := R)).symm)
    clear T
    dsimp only [voteEnc] at hY
    obtain ⟨fn, tmps, assign, body, hy, hRR⟩ := hY
    gi_wp2_with fail
    refine hRR.mono ?_
    clear hy hRR rg lg hc hlc
    rintro e W3 (⟨rfl, T⟩ | ⟨rfl, T⟩)
    ·have HT := Lib.hid (T.perm perm_two); clear T
     gi_wp2
     go_roundw
     case rel => exact ⟨k + 1, by omega, by go_num, by rw [if_pos (by omega)]; exact HT.out⟩
     case measure => simp [intOf]; omega
    ·have HT := Lib.hid T; clear T
     gi_wp2
     refine bodyPost_ret (results_none rfl _ _ _) rfl ?_
     exact ⟨⟨_, rfl⟩, .inr ⟨_, HT.out⟩⟩
   ·have hd : decide (k = s) = false := by simp [hks]
    rw [hd] at HH
    clear hd
    gi_wp2_with fail
    refine ⟨trivial, ?_⟩
    refine (callsIn_wide.2 HH.out).mono ?_
    clear HH hc hlc
    rintro e w1 ⟨rfl, T⟩
    have HT := Lib.hid T.swap; clear T
    gi_wp2
    refine ⟨fun f h => (by cases h), ?_⟩
    gi_wp2
    go_roundw
    case rel => exact ⟨k + 1, by omega, by go_num, by
     have e1 : (if s < k + 1 then [((s : Int), m)] else []) = (if s < k then [((s : Int), m)] else []) := by
      by_cases h : s < k
      ·rw [if_pos h, if_pos (by omega)]
      ·rw [if_neg h, if_neg (by omega)]
     rw [e1]; exact HT.out⟩
    case measure => simp [intOf]; omega
  ·obtain rfl : k = 7 := by omega
   rw [if_pos hs] at T
   have HT := Lib.hid (T.perm (perm_two (X := own [((s : Int), m)]) (R := R)).symm); clear T
   gi_wp2
   refine bodyPost_end (results_none rfl _ _ _) rfl ?_
   exact ⟨⟨_, rfl⟩, .inl ⟨_, rfl, HT.out⟩⟩
end
end Go.Proofs.YtomlilkobhkoiaaGreatDoor
/- Layer 14: a lead hears its own answer: that is too few. -/
namespace Go.Proofs.YtomlilkobhkoiaaGreatDoor
open Go.RowKit Go.Shelf
set_option linter.unusedVariables false
set_option maxRecDepth 20000
attribute [local go_sem] Oper.semAt_some
attribute [local go_sem] row_alloc row_drew row_drewN row_ext row_setCell row_setRow size_ext setRow_alloc setRow_drew loadOf storeOf piece_lit loadVal_at storeVal_at allOne_lit buildOf buildRes_some
attribute [local go_sem high] cell_alloc frozen_alloc setCell_alloc cell_ext frozen_ext cell_setRow frozen_setRow
attribute [local go_sem ↓] TItem_ld0 TItem_st0 TItem_fd0 TItem_bd0
attribute [local go_sem] TItem_size TItem_one TItem_piece TItem_c0 TItem_c1 TItem_set_rep TItem_set_num TItem_ld TItem_st TItem_f_rep TItem_f_num TItem_bd TItem_fl TItem_fl_rep TItem_fl_num
attribute [local go_sem high] TItem_eql TItem_neq
attribute [local go_sem ↓] TBallot_ld0 TBallot_st0 TBallot_fd0 TBallot_bd0
attribute [local go_sem] TBallot_size TBallot_one TBallot_piece TBallot_c0 TBallot_c1 TBallot_set_round TBallot_set_rep TBallot_ld TBallot_st TBallot_f_round TBallot_f_rep TBallot_bd TBallot_fl TBallot_fl_round TBallot_fl_rep
attribute [local go_sem high] TBallot_eql TBallot_neq
attribute [local go_sem ↓] TCall_ld0 TCall_st0 TCall_fd0 TCall_bd0
attribute [local go_sem] TCall_size TCall_one TCall_piece TCall_c0 TCall_c1 TCall_c2 TCall_c3 TCall_c4 TCall_c5 TCall_c6 TCall_c7 TCall_c8 TCall_c9 TCall_c10 TCall_c11 TCall_c12 TCall_c13 TCall_p_deed TCall_put_deed TCall_p_deps TCall_put_deps TCall_set_seq TCall_ld TCall_st TCall_f_deed TCall_f_deps TCall_f_seq TCall_bd TCall_fl TCall_fl_deed TCall_fl_deps TCall_fl_seq
attribute [local go_sem high] TCall_eql TCall_neq
attribute [local go_sem ↓] TDeed_ld0 TDeed_st0 TDeed_fd0 TDeed_bd0
attribute [local go_sem] TDeed_size TDeed_one TDeed_piece TDeed_c0 TDeed_c1 TDeed_c2 TDeed_c3 TDeed_c4 TDeed_c5 TDeed_set_kind TDeed_set_key TDeed_set_val TDeed_set_ver TDeed_set_ses TDeed_set_num TDeed_ld TDeed_st TDeed_f_kind TDeed_f_key TDeed_f_val TDeed_f_ver TDeed_f_ses TDeed_f_num TDeed_bd TDeed_fl TDeed_fl_kind TDeed_fl_key TDeed_fl_val TDeed_fl_ver TDeed_fl_ses TDeed_fl_num
attribute [local go_sem high] TDeed_eql TDeed_neq
attribute [local go_sem ↓] index_deps0 load_deps0 store_deps0
attribute [local go_sem] DV_piece DV_size DV_one index_deps load_deps store_deps
attribute [local go_sem high] TDeps_eql TDeps_neq
attribute [local go_sem ↓] TMsg_ld0 TMsg_st0 TMsg_fd0 TMsg_bd0
attribute [local go_sem] TMsg_size TMsg_one TMsg_piece TMsg_c0 TMsg_c1 TMsg_c2 TMsg_c3 TMsg_c4 TMsg_c5 TMsg_c6 TMsg_c7 TMsg_c8 TMsg_c9 TMsg_c10 TMsg_c11 TMsg_c12 TMsg_c13 TMsg_c14 TMsg_c15 TMsg_c16 TMsg_c17 TMsg_c18 TMsg_c19 TMsg_c20 TMsg_c21 TMsg_c22 TMsg_c23 TMsg_c24 TMsg_set_kind TMsg_set_frm TMsg_set_to TMsg_p_item TMsg_put_item TMsg_p_bal TMsg_put_bal TMsg_p_vote TMsg_put_vote TMsg_set_status TMsg_set_same TMsg_p_call TMsg_put_call TMsg_ld TMsg_st TMsg_f_kind TMsg_f_frm TMsg_f_to TMsg_f_item TMsg_f_bal TMsg_f_vote TMsg_f_status TMsg_f_same TMsg_f_call TMsg_bd TMsg_fl TMsg_fl_kind TMsg_fl_frm TMsg_fl_to TMsg_fl_item TMsg_fl_bal TMsg_fl_vote TMsg_fl_status TMsg_fl_same TMsg_fl_call
attribute [local go_sem high] TMsg_eql TMsg_neq
/-- What is read of a lead's block. -/
structure LdF (X : Array Value) (f : Nat) (me : Int) (x : Item) : Prop where
 size : X.size = 219
 n : X[0]? = some (.int .i64 ((2 * f + 1 : Nat) : Int))
 slf : X[1]? = some (.int .i64 me)
 rep : X[2]? = some (.int .i64 x.rep)
 item : piece X 2 2 = IV x
 bal : piece X 4 2 = BV ⟨0, x.rep⟩
 ph : X[20]? = some (.int .i64 1)
theorem most_any (f : Nat) (hf : f ≤ 3) : Ans Tryz.prog 197 #[.int .i64 ((2 * f + 1 : Nat) : Int)] (.int .i64 ((f + 1 : Nat) : Int)) := by
 intro W
 have H := Lib.hid (faults_any f hf W)
 have hw : IntKind.i64.wrap ((f : Int) + 1) = ((f + 1 : Nat) : Int) := by rw [IntKind.wrap_i64] <;> omega
 go_enter Tryz.func197, Tryz.ntmps197
 go_wp2_with fail
 refine H.out.mono ?_
 clear H
 rintro e w1 ⟨rfl, hb⟩
 have HB := Lib.hid hb; clear hb
 go_wp2
 go_ret
 exact ⟨rfl, HB.out⟩
theorem fastN_any (f : Nat) (hf : f ≤ 3) : Ans Tryz.prog 214 #[.int .i64 ((2 * f + 1 : Nat) : Int)] (.int .i64 ((2 * f : Nat) : Int)) := by
 intro W
 have H := Lib.hid (faults_any f hf W)
 have hw : IntKind.i64.wrap (2 * (f : Int)) = ((2 * f : Nat) : Int) := by rw [IntKind.wrap_i64] <;> omega
 go_enter Tryz.func214, Tryz.ntmps214
 go_wp2_with fail
 refine H.out.mono ?_
 clear H
 rintro e w1 ⟨rfl, hb⟩
 have HB := Lib.hid hb; clear hb
 go_wp2
 go_ret
 exact ⟨rfl, HB.out⟩
section
variable {w W : World} {F : Nat → Prop} {R : List Res} {g s f : Nat} {X : Array Value} {self : Int} {x : Item}
theorem ldFastT (h : LdF X f self x) (T : Sts w F W (rowR g X :: R)) :
  Calls Tryz.prog 213 #[.pointer (some ⟨g, 0, none⟩)] W fun e W' => e = .returned (.bool true) ∧ Sts w F W' (rowR g X :: R) := by
 have hsz := h.size; have hb := h.bal
 have FS : ∀ W' R', Sts w F W' (rowR g X :: R') → (W'.cell? ⟨g, 2, none⟩ = some (.int .i64 x.rep) ∧ row? W' g = some X) := fun W' R' T' => ⟨by rw [row_cell T'.row 2, h.rep], T'.row⟩
 have HFS := Lib.hid FS
 have HT := Lib.hid T.drew
 have S0 := FS _ _ HT.out
 have HB := Lib.hid (first_bal x.rep)
 have heq : eqA (BV ⟨0, x.rep⟩) (BV ⟨0, x.rep⟩) = true := eqA_refl _
 clear FS T
 go_enter Tryz.func213, Tryz.ntmps213
 go_upto_region 1 with fail
 refine wp_region_held_drew (S := fun W' => (W'.cell? ⟨g, 2, none⟩ = some (.int .i64 x.rep) ∧ row? W' g = some X)) (by kernel_rfl) S0 (fun hHeld => ?_)
 clear S0
 refine tkH 0 rfl ?_
 simp only [Act.put, List.setIfInBounds_toArray, List.set_cons_zero, List.set_cons_succ]
 refine tkH 1 rfl ?_
 go_frame
 refine tkH 2 rfl ?_
 go_frame
 refine tkH 3 rfl ?_
 go_frame
 refine tkH 4 rfl ?_
 go_frame
 refine tkH 5 rfl ?_
 go_frame
 refine tkH 6 rfl ?_
 go_frame
 refine tkH 7 rfl ?_
 go_frame
 refine tkH 8 rfl ?_
 go_frame
 refine wpAnyH_ready (rs := [9]) (by kernel_rfl) (by simp) ?_
 refine AllReadyH.cons (o := _) rfl (fun K hK => ?_) AllReadyH.nil
 go_simp
 refine (HB.out.at HT.out).mono ?_
 clear HB HT
 rintro e5 w7 ⟨rfl, T⟩
 have HT := Lib.hid T; clear T
 refine hK.out _ _ (HFS.out _ _ HT.out) (fun hHeld => ?_)
 clear hK K
 refine tkH 10 rfl ?_
 simp only [Act.put, List.setIfInBounds_toArray, List.set_cons_zero, List.set_cons_succ]
 refine tkH 11 rfl ?_
 go_frame
 refine wpAnyH_done (by kernel_rfl) ?_ _
 try simp only [Exit.then]
 go_wp2
 go_ret
 exact ⟨rfl, HT.out⟩
end
end Go.Proofs.YtomlilkobhkoiaaGreatDoor
/- Layer 14: a lead hears its own answer: that is too few. -/
namespace Go.Proofs.YtomlilkobhkoiaaGreatDoor
open Go.RowKit Go.Shelf
set_option linter.unusedVariables false
set_option maxRecDepth 20000
attribute [local go_sem] Oper.semAt_some
attribute [local go_sem] row_alloc row_drew row_drewN row_ext row_setCell row_setRow size_ext setRow_alloc setRow_drew loadOf storeOf piece_lit loadVal_at storeVal_at allOne_lit buildOf buildRes_some
attribute [local go_sem high] cell_alloc frozen_alloc setCell_alloc cell_ext frozen_ext cell_setRow frozen_setRow
attribute [local go_sem ↓] TItem_ld0 TItem_st0 TItem_fd0 TItem_bd0
attribute [local go_sem] TItem_size TItem_one TItem_piece TItem_c0 TItem_c1 TItem_set_rep TItem_set_num TItem_ld TItem_st TItem_f_rep TItem_f_num TItem_bd TItem_fl TItem_fl_rep TItem_fl_num
attribute [local go_sem high] TItem_eql TItem_neq
attribute [local go_sem ↓] TBallot_ld0 TBallot_st0 TBallot_fd0 TBallot_bd0
attribute [local go_sem] TBallot_size TBallot_one TBallot_piece TBallot_c0 TBallot_c1 TBallot_set_round TBallot_set_rep TBallot_ld TBallot_st TBallot_f_round TBallot_f_rep TBallot_bd TBallot_fl TBallot_fl_round TBallot_fl_rep
attribute [local go_sem high] TBallot_eql TBallot_neq
attribute [local go_sem ↓] TCall_ld0 TCall_st0 TCall_fd0 TCall_bd0
attribute [local go_sem] TCall_size TCall_one TCall_piece TCall_c0 TCall_c1 TCall_c2 TCall_c3 TCall_c4 TCall_c5 TCall_c6 TCall_c7 TCall_c8 TCall_c9 TCall_c10 TCall_c11 TCall_c12 TCall_c13 TCall_p_deed TCall_put_deed TCall_p_deps TCall_put_deps TCall_set_seq TCall_ld TCall_st TCall_f_deed TCall_f_deps TCall_f_seq TCall_bd TCall_fl TCall_fl_deed TCall_fl_deps TCall_fl_seq
attribute [local go_sem high] TCall_eql TCall_neq
attribute [local go_sem ↓] TDeed_ld0 TDeed_st0 TDeed_fd0 TDeed_bd0
attribute [local go_sem] TDeed_size TDeed_one TDeed_piece TDeed_c0 TDeed_c1 TDeed_c2 TDeed_c3 TDeed_c4 TDeed_c5 TDeed_set_kind TDeed_set_key TDeed_set_val TDeed_set_ver TDeed_set_ses TDeed_set_num TDeed_ld TDeed_st TDeed_f_kind TDeed_f_key TDeed_f_val TDeed_f_ver TDeed_f_ses TDeed_f_num TDeed_bd TDeed_fl TDeed_fl_kind TDeed_fl_key TDeed_fl_val TDeed_fl_ver TDeed_fl_ses TDeed_fl_num
attribute [local go_sem high] TDeed_eql TDeed_neq
attribute [local go_sem ↓] index_deps0 load_deps0 store_deps0
attribute [local go_sem] DV_piece DV_size DV_one index_deps load_deps store_deps
attribute [local go_sem high] TDeps_eql TDeps_neq
attribute [local go_sem ↓] TMsg_ld0 TMsg_st0 TMsg_fd0 TMsg_bd0
attribute [local go_sem] TMsg_size TMsg_one TMsg_piece TMsg_c0 TMsg_c1 TMsg_c2 TMsg_c3 TMsg_c4 TMsg_c5 TMsg_c6 TMsg_c7 TMsg_c8 TMsg_c9 TMsg_c10 TMsg_c11 TMsg_c12 TMsg_c13 TMsg_c14 TMsg_c15 TMsg_c16 TMsg_c17 TMsg_c18 TMsg_c19 TMsg_c20 TMsg_c21 TMsg_c22 TMsg_c23 TMsg_c24 TMsg_set_kind TMsg_set_frm TMsg_set_to TMsg_p_item TMsg_put_item TMsg_p_bal TMsg_put_bal TMsg_p_vote TMsg_put_vote TMsg_set_status TMsg_set_same TMsg_p_call TMsg_put_call TMsg_ld TMsg_st TMsg_f_kind TMsg_f_frm TMsg_f_to TMsg_f_item TMsg_f_bal TMsg_f_vote TMsg_f_status TMsg_f_same TMsg_f_call TMsg_bd TMsg_fl TMsg_fl_kind TMsg_fl_frm TMsg_fl_to TMsg_fl_item TMsg_fl_bal TMsg_fl_vote TMsg_fl_status TMsg_fl_same TMsg_fl_call
attribute [local go_sem high] TMsg_eql TMsg_neq
theorem putX_low {X : Array Value} {s : Nat} {m : Msg} (hs : s < 7) {j : Nat} (hj : j < 21) : (putX X s m)[j]? = X[j]? := by
 unfold putX splice
 rw [Array.getElem?_setIfInBounds, if_neg (by omega), Array.getElem?_setIfInBounds, if_neg (by omega), setMany_get, if_neg (by omega)]
theorem putX_size (X : Array Value) (s : Nat) (m : Msg) : (putX X s m).size = X.size := by
 unfold putX splice
 rw [Array.size_setIfInBounds, Array.size_setIfInBounds, setMany_size]
theorem putX_has {X : Array Value} {s : Nat} {m : Msg} (hX : X.size = 219) (hs : s < 7) (h : ∀ j, j < 7 → X[196 + j]? = some (.bool false)) (j : Nat) (hj : j < 7) : (putX X s m)[196 + j]? = some (.bool (decide (j = s))) := by
 have hl : (MV m).toList.length = 25 := rfl
 unfold putX splice
 rw [Array.getElem?_setIfInBounds, if_neg (by omega), Array.getElem?_setIfInBounds]
 by_cases e : s = j
 ·subst e
  rw [if_pos rfl, if_pos (by rw [setMany_size]; omega)]
  simp
 ·rw [if_neg (by omega), setMany_get, if_neg (by omega), h j hj]
  simp [Ne.symm e]
theorem putX_n {X : Array Value} {s : Nat} {m : Msg} (hX : X.size = 219) (hs : s < 7) : (putX X s m)[203]? = some (.int .i64 1) := by
 unfold putX
 rw [Array.getElem?_setIfInBounds, if_pos rfl, if_pos (by rw [Array.size_setIfInBounds]; unfold splice; rw [setMany_size]; omega)]
theorem piece_get (X : Array Value) (o n j : Nat) : (piece X o n)[j]? = if j < n then X[o + j]? else none := by
 unfold piece
 rw [Array.getElem?_extract]
 split <;> split <;> first | rfl | (exfalso; omega) | (symm; rw [Array.getElem?_eq_none]; omega) | (rw [Array.getElem?_eq_none]; omega)
theorem putX_piece {X : Array Value} {s : Nat} {m : Msg} (hX : X.size = 219) (hs : s < 7) : piece (putX X s m) (21 + s * 25) 25 = MV m := by
 have hl : (MV m).toList.length = 25 := rfl
 apply Array.ext_getElem?
 intro j
 rw [piece_get]
 by_cases hj : j < 25
 ·rw [if_pos hj]
  unfold putX splice
  rw [Array.getElem?_setIfInBounds, if_neg (by omega), Array.getElem?_setIfInBounds, if_neg (by omega), setMany_get, if_pos ⟨by omega, by omega, by omega⟩, Nat.add_sub_cancel_left]
  simp
 ·rw [if_neg hj, Array.getElem?_eq_none]
  show 25 ≤ j
  omega
theorem putX_pieceL {X : Array Value} {s : Nat} {m : Msg} (hs : s < 7) {o n : Nat} (h : o + n ≤ 21) : piece (putX X s m) o n = piece X o n := by
 apply Array.ext_getElem?
 intro j
 rw [piece_get, piece_get]
 split
 ·rw [putX_low hs (by omega)]
 ·rfl
theorem LdF.put {X : Array Value} {f : Nat} {me : Int} {x : Item} (h : LdF X f me x) {s : Nat} (hs : s < 7) (m : Msg) : LdF (putX X s m) f me x :=
 ⟨by rw [putX_size]; exact h.size, by rw [putX_low hs (by omega)]; exact h.n, by rw [putX_low hs (by omega)]; exact h.slf, by rw [putX_low hs (by omega)]; exact h.rep,
 by rw [putX_pieceL hs (by omega)]; exact h.item, by rw [putX_pieceL hs (by omega)]; exact h.bal, by rw [putX_low hs (by omega)]; exact h.ph⟩
def cntS (xs : List (Int × Msg)) : Int := ((xs.filter fun p => p.2.same).length : Nat)
section
variable {w W : World} {F : Nat → Prop} {R : List Res} {g s f : Nat} {X : Array Value} {self : Int} {x : Item}
set_option maxHeartbeats 16000000 in
theorem ldPreT (hs : s < 7) (hf : 1 ≤ f ∧ f ≤ 3) (h : LdF X f self x) (hX0 : ∀ j, j < 7 → X[196 + j]? = some (.bool false)) (hX3 : X[203]? = some (.int .i64 0)) (m : Msg) (hm : m.frm = (s : Int)) (T : Sts w F W (rowR g X :: R)) :
  Calls Tryz.prog 194 #[.pointer (some ⟨g, 0, none⟩), .agg (MV m)] W fun e W' => e = .returned (.bool false) ∧ Sts w F W' R := by
 have hPut := fun (W : World) (T : Sts w F W (rowR g X :: rowR W.heap.size (MV m) :: R)) => vtPutT hs h.size (hX0 s hs) hX3 m T
 refine (callsIn_wide (n := 4)).1 ?_
 refine callsIn_of_wp_marks Tryz.func194 rfl trivial ?_ rfl
 simp only [Tryz.ntmps194, List.size_toArray, List.length_cons, List.length_nil, Nat.reduceAdd, Nat.reduceSub, Array.replicate_succ, Array.replicate_zero, List.push_toArray, List.append_toArray, List.nil_append, List.cons_append]
 refine wpIn_wide.2 ?_
 have T1 := T.new (MV m) 136
 have HT := Lib.hid T1.drew; clear T T1
 have FS : ∀ W' gm R', Sts w F W' (rowR gm (MV m) :: R') → (W'.cell? ⟨gm, 1, none⟩ = some (.int .i64 s) ∧ row? W' gm = some (MV m)) := fun W' gm R' T' => ⟨by rw [row_cell T'.row 1, ← hm]; rfl, T'.row⟩
 have HFS := Lib.hid FS; clear FS
 have S0 := HFS.out _ _ _ HT.out
 go_upto_region 1 with fail
 refine wp_region_noPanic ?_
 refine wp_region_held_drew (S := fun W' => (W'.cell? ⟨W.heap.size, 1, none⟩ = some (.int .i64 s) ∧ row? W' W.heap.size = some (MV m))) (by kernel_rfl) S0 (fun hHeld => ?_)
 clear S0
 generalize (W.alloc (.cells (MV m) 136)).drew = w2 at *
 generalize W.heap.size = gm at *
 refine tkH 0 rfl ?_
 simp only [Act.put, List.setIfInBounds_toArray, List.set_cons_zero, List.set_cons_succ]
 refine tkH 1 rfl ?_
 go_frame
 refine tkH 2 rfl ?_
 go_frame
 refine tkH 3 rfl ?_
 go_frame
 refine tkH 4 rfl ?_
 go_frame
 refine tkH 5 rfl ?_
 go_frame
 have HP := Lib.hid (vtPutT hs h.size (hX0 s hs) hX3 m HT.out.swap)
 clear HT hPut
 refine wpAnyH_ready (rs := [6]) (by kernel_rfl) (by simp) ?_
 refine AllReadyH.cons (o := _) rfl (fun K hK => ?_) AllReadyH.nil
 go_simp
 refine HP.out.mono ?_
 clear HP
 rintro e5 w7 ⟨rfl, T⟩
 have HT := Lib.hid T.swap; clear T
 refine hK.out _ _ (HFS.out _ _ _ HT.out) (fun hHeld => ?_)
 clear hK K
 refine tkH 7 rfl ?_
 simp only [Act.put, List.setIfInBounds_toArray, List.set_cons_zero, List.set_cons_succ]
 refine wpAnyH_done (by kernel_rfl) ?_ _
 refine NoPanic.normal ?_
 try simp only [Exit.then]
 have T2 : Sts w F (w7.alloc (.cells #[.int .i64 0] 3)) (rowR w7.heap.size #[.int .i64 0] :: rowR gm (MV m) :: rowR g (putX X s m) :: R) := HT.out.new _ _
 clear HT
 have HT := Lib.hid T2; clear T2
 have HA : ∀ (w' W' : World) (F' : Nat → Prop) (R' : List Res), Sts w' F' W' R' → Calls Tryz.prog 211 #[.pointer (some ⟨g, 21, none⟩)] W' fun e W2 => ∃ gv, e = .returned (.func (.func 226) #[] #[.pointer (some ⟨gv, 0, none⟩)]) ∧ Sts w' F' W2 (rowR gv #[.pointer (some ⟨g, 21, none⟩)] :: R') := by
  intro w' W' F' R' T'
  have HT := Lib.hid (T'.new #[.pointer (some ⟨g, 21, none⟩)] 334); clear T'
  go_enter Tryz.func211, Tryz.ntmps211
  go_wp2
  go_ret
  exact ⟨_, rfl, HT.out⟩
 go_wp2_with fail
 refine (HA _ _ _ _ HT.out).mono ?_
 clear HA HT
 rintro e5 w8 ⟨gv, rfl, T⟩
 generalize w7.heap.size = gs at *
 have HT := Lib.hid T; clear T
 go_wp2_with fail
 have T3 : Sts w F w8 ([rowR gs #[.int .i64 (cntS [])]] ++ ([rowR gv #[.pointer (some ⟨g, 21, none⟩)], rowR g (putX X s m)] ++ (rowR gm (MV m) :: R))) := by
  have T := HT.out.ord [1, 0, 3, 2]
  exact T
 clear HT
 have hG := vtAllG (g := g) (gv := gv) hs (by rw [putX_size]; exact h.size) (putX_has (m := m) h.size hs hX0) (putX_piece (m := m) h.size hs)
 have h' := h.put hs m
 have hn1 := putX_n (m := m) h.size hs
 generalize putX X s m = Y at *
 clear h hX0 hX3
 refine (wpIn_wide (n := 4)).1 ?_
 refine wp_rangeD (gf := 226) (lb := #[.pointer (some ⟨gv, 0, none⟩)]) (enc := voteEnc) (O := fun xs => xs = [((s : Int), m)])
  (fun xs => [rowR gs #[.int .i64 (cntS xs)]]) (fun _ _ => [noR]) [rowR gv #[.pointer (some ⟨g, 21, none⟩)], rowR g Y] (rowR gm (MV m) :: R)
  (fun xs y a' own' => ∃ b7, own' = [rowR b7 (MV y.2), rowR gs #[.int .i64 (cntS xs)]] ∧ a' = { tmps := List.toArray (.pointer (some ⟨g, 0, none⟩) :: .agg (MV m) :: undef :: .pointer (some ⟨gm, 0, none⟩) :: .bool false :: .pointer (some ⟨gs, 0, none⟩) :: undef :: .pointer (some ⟨b7, 0, none⟩) :: .pointer (some ⟨g, 0, none⟩) :: .pointer (some ⟨g, 0, none⟩) :: .pointer (some ⟨g, 21, none⟩) :: .pointer (some ⟨gm, 1, none⟩) :: .int .i64 s :: .agg (MV m) :: .bool true :: .bool false :: .pointer (some ⟨g, 0, none⟩) :: .pointer (some ⟨g, 0, none⟩) :: .pointer (some ⟨g, 21, none⟩) :: .func (.func 226) #[] #[.pointer (some ⟨gv, 0, none⟩)] :: .int .i64 y.1 :: .agg (MV y.2) :: undef :: undef :: undef :: undef :: undef :: undef :: undef :: undef :: undef :: undef :: undef :: undef :: undef :: undef :: undef :: undef :: undef :: undef :: undef :: undef :: undef :: undef :: undef :: undef :: undef :: undef :: undef :: undef :: undef :: undef :: undef :: undef :: undef :: undef :: undef :: undef :: undef :: undef :: undef :: undef :: undef :: undef :: undef :: undef :: undef :: undef :: undef :: undef :: undef :: undef :: undef :: undef :: undef :: undef :: undef :: []), defers := [] })
  rfl (enters_of Tryz.func226 (by kernel_rfl) rfl) (fun _ => rfl) hG T3 ?assign ?body ?done ?stop
 case assign =>
  intro lr xs y w F W1 R K hx T1 hK
  have T2 := T1.new (MV y.2) 136
  have HT2 := Lib.hid T2
  clear T1 T2 T3
  unfold voteEnc
  gi_wp2
  exact hK _ _ _ ⟨_, rfl, rfl⟩ HT2.out
 case body =>
  rintro lr xs y _ _ w F W1 R hx ⟨b7, rfl, rfl⟩ T1
  clear T3
  have hxs : xs = [] ∧ y = ((s : Int), m) := by
   obtain ⟨post, hp⟩ := hx
   cases xs with
   | nil => simp at hp; exact ⟨rfl, hp.1⟩
   | cons a l => simp at hp
  obtain ⟨rfl, rfl⟩ := hxs
  have T1 : Sts w F W1 (rowR b7 (MV m) :: rowR gs #[.int .i64 0] :: ([rowR gv #[.pointer (some ⟨g, 21, none⟩)], rowR g Y] ++ R)) := T1
  have r7 := row_cell T1.row 7; have l7 := row_lt T1.row
  have rs := T1.row1; have ls := row_lt rs; have cs := row_cell rs 0; have fs := row_frozen rs 0
  cases hsm : m.same
  case false =>
   have r7' : W1.cell? ⟨b7, 10, none⟩ = some (.bool false) := by rw [row_cell T1.row 10, ← hsm]; rfl
   have HT := Lib.hid T1; clear T1 r7
   gi_wp2
   show Sts w F _ ([rowR gs #[.int .i64 (cntS [((s : Int), m)])]] ++ ([rowR gv #[.pointer (some ⟨g, 21, none⟩)], rowR g Y] ++ R))
   rw [show cntS [((s : Int), m)] = 0 by unfold cntS; simp [hsm]]
   exact HT.out.drop
  case true =>
   have r7' : W1.cell? ⟨b7, 10, none⟩ = some (.bool true) := by rw [row_cell T1.row 10, ← hsm]; rfl
   have HT := Lib.hid (T1.drop.setCell 0 (.int .i64 1)); clear T1 r7
   gi_wp2
   show Sts w F _ ([rowR gs #[.int .i64 (cntS [((s : Int), m)])]] ++ ([rowR gv #[.pointer (some ⟨g, 21, none⟩)], rowR g Y] ++ R))
   rw [show cntS [((s : Int), m)] = 1 by unfold cntS; simp [hsm]]
   exact HT.out
 case done =>
  intro D2 W1 xs hxs T1
  clear T3
  subst hxs
  have hsm : cntS [((s : Int), m)] ≤ 1 := by
   unfold cntS
   have := List.length_filter_le (fun p : Int × Msg => p.2.same) [((s : Int), m)]
   simp only [List.length_cons, List.length_nil] at this
   omega
  have T : Sts w F W1 (objR D2 (.deferred (some [])) :: rowR gs #[.int .i64 (cntS [((s : Int), m)])] :: rowR gv #[.pointer (some ⟨g, 21, none⟩)] :: rowR g Y :: rowR gm (MV m) :: R) := T1
  clear T1
  generalize cntS [((s : Int), m)] = sm at *
  have hge : ¬ ((2 * f : Nat) : Int) ≤ sm := by omega
  have hlt : (1 : Int) < ((f + 1 : Nat) : Int) := by omega
  obtain ⟨n2, hn2⟩ : ∃ n2 : Int, n2 = ((2 * f : Nat) : Int) := ⟨_, rfl⟩
  obtain ⟨n1, hn1'⟩ : ∃ n1 : Int, n1 = ((f + 1 : Nat) : Int) := ⟨_, rfl⟩
  have hFast := fastN_any f hf.2
  have hMost := most_any f hf.2
  have hc0 := h'.n
  obtain ⟨nn, hnn⟩ : ∃ nn : Int, nn = ((2 * f + 1 : Nat) : Int) := ⟨_, rfl⟩
  rw [← hnn] at hFast hMost hc0
  rw [← hn2] at hFast hge
  rw [← hn1'] at hMost hlt
  clear hn2 hn1' hnn
  have HF := Lib.hid hFast; have HMo := Lib.hid hMost; clear hFast hMost
  have FS : ∀ W' R', Sts w F W' (objR D2 (.deferred (some [])) :: rowR gs #[.int .i64 sm] :: rowR gv #[.pointer (some ⟨g, 21, none⟩)] :: rowR g Y :: R') → (W'.cell? ⟨gs, 0, none⟩ = some (.int .i64 sm) ∧ W'.cell? ⟨g, 0, none⟩ = some (.int .i64 nn)) := fun W' R' T' => ⟨row_cell T'.row1 0, by rw [row_cell T'.row3, hc0]⟩
  have HFS := Lib.hid FS; clear FS
  have HT := Lib.hid T.drew; clear T
  have S0 := HFS.out _ _ HT.out
  go_upto_region 8 with fail
  refine wp_region_noPanic ?_
  refine wp_region_held_drew (S := fun W' => (W'.cell? ⟨gs, 0, none⟩ = some (.int .i64 sm) ∧ W'.cell? ⟨g, 0, none⟩ = some (.int .i64 nn))) (by kernel_rfl) S0 (fun hHeld => ?_)
  clear S0
  refine tkH 0 rfl ?_
  simp only [Act.put, List.setIfInBounds_toArray, List.set_cons_zero, List.set_cons_succ]
  refine wpAnyH_ready (rs := [1]) (by kernel_rfl) (by simp) ?_
  refine AllReadyH.cons (o := _) rfl (fun K hK => ?_) AllReadyH.nil
  go_simp
  refine (ldFastT h' (HT.out.ord [3, 0, 1, 2])).mono ?_
  clear HT
  rintro e5 w7 ⟨rfl, T⟩
  have HT := Lib.hid (T.ord [1, 2, 3, 0]); clear T
  refine hK.out _ _ (HFS.out _ _ HT.out) (fun hHeld => ?_)
  clear hK K
  refine tkH 2 rfl ?_
  simp only [Act.put, List.setIfInBounds_toArray, List.set_cons_zero, List.set_cons_succ]
  refine tkH 3 rfl ?_
  go_frame
  refine tkH 4 rfl ?_
  go_frame
  refine tkH 5 rfl ?_
  go_frame
  refine tkH 6 rfl ?_
  go_frame
  refine tkH 7 rfl ?_
  go_frame
  refine wpAnyH_ready (rs := [8]) (by kernel_rfl) (by simp) ?_
  refine AllReadyH.cons (o := _) rfl (fun K hK => ?_) AllReadyH.nil
  go_simp
  refine (HF.out.at HT.out).mono ?_
  clear HT HF
  rintro e5 w8 ⟨rfl, T⟩
  have HT := Lib.hid T; clear T
  refine hK.out _ _ (HFS.out _ _ HT.out) (fun hHeld => ?_)
  clear hK K
  refine tkH 9 rfl ?_
  simp only [Act.put, List.setIfInBounds_toArray, List.set_cons_zero, List.set_cons_succ]
  refine tkH 10 rfl ?_
  go_frame
  refine tkH 11 rfl ?_
  go_frame
  refine wpAnyH_done (by kernel_rfl) ?_ _
  refine NoPanic.normal ?_
  try simp only [Exit.then]
  have HT0 := Lib.hid HT.out.drew; clear HT
  have S0 := HFS.out _ _ HT0.out
  go_upto_region 11 with fail
  refine wp_region_noPanic ?_
  refine wp_region_held_drew (S := fun W' => (W'.cell? ⟨gs, 0, none⟩ = some (.int .i64 sm) ∧ W'.cell? ⟨g, 0, none⟩ = some (.int .i64 nn))) (by kernel_rfl) S0 (fun hHeld => ?_)
  clear S0
  refine tkH 0 rfl ?_
  simp only [Act.put, List.setIfInBounds_toArray, List.set_cons_zero, List.set_cons_succ]
  refine tkH 1 rfl ?_
  go_frame
  refine tkH 2 rfl ?_
  go_frame
  refine tkH 4 rfl ?_
  go_frame
  refine tkH 5 rfl ?_
  go_frame
  refine tkH 6 rfl ?_
  go_frame
  refine tkH 7 rfl ?_
  go_frame
  refine wpAnyH_ready (rs := [3]) (by kernel_rfl) (by simp) ?_
  refine AllReadyH.cons (o := _) rfl (fun K hK => ?_) AllReadyH.nil
  go_simp
  refine (vtLenT 1 hn1 (HT0.out.ord [3, 0, 1, 2])).mono ?_
  clear HT0
  rintro e5 w7 ⟨rfl, T⟩
  have HT := Lib.hid (T.ord [1, 2, 3, 0]); clear T
  refine hK.out _ _ (HFS.out _ _ HT.out) (fun hHeld => ?_)
  clear hK K
  refine wpAnyH_ready (rs := [8]) (by kernel_rfl) (by simp) ?_
  refine AllReadyH.cons (o := _) rfl (fun K hK => ?_) AllReadyH.nil
  go_simp
  refine (HMo.out.at HT.out).mono ?_
  clear HT HMo
  rintro e5 w8 ⟨rfl, T⟩
  have HT := Lib.hid T; clear T
  refine hK.out _ _ (HFS.out _ _ HT.out) (fun hHeld => ?_)
  clear hK K
  refine tkH 9 rfl ?_
  simp only [Act.put, List.setIfInBounds_toArray, List.set_cons_zero, List.set_cons_succ]
  refine tkH 10 rfl ?_
  go_frame
  refine wpAnyH_done (by kernel_rfl) ?_ _
  refine NoPanic.normal ?_
  try simp only [Exit.then]
  have hD := HT.out.obj
  have T9 : Sts w F (w8.putObj D2 (.deferred none)) R := (HT.out.putObj (.deferred none)).drop.drop.drop.drop.drop
  have HD := Lib.hid hD; have HT9 := Lib.hid T9
  clear hD T9 HT
  go_wp2
  exact retM1 HD.out (results_tmp rfl _ _ _) ⟨rfl, HT9.out⟩ rfl
 case stop =>
  intro D2 c1 k W1 T1
  exact (Sts.no T1.drop).elim
end
end Go.Proofs.YtomlilkobhkoiaaGreatDoor
