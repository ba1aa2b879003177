/- Several texts in one. -/
import Derived.Test.YtomlilkobhkoiaaGreatDoorQ44
import Derived.Test.YtomlilkobhkoiaaGreatDoorQ5
import Derived.Test.YtomlilkobhkoiaaGreatDoorQ30
import Derived.Test.YtomlilkobhkoiaaGreatDoorQ3
import Derived.Deep.DeepHandedRow
import Derived.SizedLaws
/- Layer 22: a replica as one thing, and what it answers. -/
namespace Go.Proofs.YtomlilkobhkoiaaGreatDoor
open Go.RowKit Go.Shelf
set_option linter.unusedVariables false
set_option maxRecDepth 20000
attribute [local go_sem] row_alloc row_drew row_drewN row_ext row_setCell row_setRow size_ext setRow_alloc setRow_drew loadOf storeOf piece_lit loadVal_at storeVal_at allOne_lit buildOf buildRes_some
attribute [local go_sem high] cell_alloc frozen_alloc setCell_alloc cell_ext frozen_ext cell_setRow frozen_setRow
attribute [local go_sem ↓] TItem_ld0 TItem_st0 TItem_fd0 TItem_bd0
attribute [local go_sem] TItem_size TItem_one TItem_piece TItem_c0 TItem_c1 TItem_set_rep TItem_set_num TItem_ld TItem_st TItem_f_rep TItem_f_num TItem_bd TItem_fl TItem_fl_rep TItem_fl_num
attribute [local go_sem high] TItem_eql TItem_neq
attribute [local go_sem ↓] TBallot_ld0 TBallot_st0 TBallot_fd0 TBallot_bd0
attribute [local go_sem] TBallot_size TBallot_one TBallot_piece TBallot_c0 TBallot_c1 TBallot_set_round TBallot_set_rep TBallot_ld TBallot_st TBallot_f_round TBallot_f_rep TBallot_bd TBallot_fl TBallot_fl_round TBallot_fl_rep
attribute [local go_sem high] TBallot_eql TBallot_neq
attribute [local go_sem ↓] TCall_ld0 TCall_st0 TCall_fd0 TCall_bd0
attribute [local go_sem] TCall_size TCall_one TCall_piece TCall_c0 TCall_c1 TCall_c2 TCall_c3 TCall_c4 TCall_c5 TCall_c6 TCall_c7 TCall_c8 TCall_c9 TCall_c10 TCall_c11 TCall_c12 TCall_c13 TCall_p_deed TCall_put_deed TCall_p_deps TCall_put_deps TCall_set_seq TCall_ld TCall_st TCall_f_deed TCall_f_deps TCall_f_seq TCall_bd TCall_fl TCall_fl_deed TCall_fl_deps TCall_fl_seq
attribute [local go_sem high] TCall_eql TCall_neq
attribute [local go_sem ↓] TDeed_ld0 TDeed_st0 TDeed_fd0 TDeed_bd0
attribute [local go_sem] TDeed_size TDeed_one TDeed_piece TDeed_c0 TDeed_c1 TDeed_c2 TDeed_c3 TDeed_c4 TDeed_c5 TDeed_set_kind TDeed_set_key TDeed_set_val TDeed_set_ver TDeed_set_ses TDeed_set_num TDeed_ld TDeed_st TDeed_f_kind TDeed_f_key TDeed_f_val TDeed_f_ver TDeed_f_ses TDeed_f_num TDeed_bd TDeed_fl TDeed_fl_kind TDeed_fl_key TDeed_fl_val TDeed_fl_ver TDeed_fl_ses TDeed_fl_num
attribute [local go_sem high] TDeed_eql TDeed_neq
attribute [local go_sem ↓] index_deps0 load_deps0 store_deps0
attribute [local go_sem] DV_piece DV_size DV_one index_deps load_deps store_deps
attribute [local go_sem high] TDeps_eql TDeps_neq
attribute [local go_sem ↓] TInst_ld0 TInst_st0 TInst_fd0 TInst_bd0
attribute [local go_sem] TInst_size TInst_one TInst_piece TInst_c0 TInst_c1 TInst_c2 TInst_c3 TInst_c4 TInst_c5 TInst_c6 TInst_c7 TInst_c8 TInst_c9 TInst_c10 TInst_c11 TInst_c12 TInst_c13 TInst_c14 TInst_c15 TInst_c16 TInst_c17 TInst_c18 TInst_c19 TInst_p_prom TInst_put_prom TInst_p_vote TInst_put_vote TInst_set_status TInst_p_call TInst_put_call TInst_set_same TInst_ld TInst_st TInst_f_prom TInst_f_vote TInst_f_status TInst_f_call TInst_f_same TInst_bd TInst_fl TInst_fl_prom TInst_fl_vote TInst_fl_status TInst_fl_call TInst_fl_same
attribute [local go_sem high] TInst_eql TInst_neq
attribute [local go_sem ↓] TMsg_ld0 TMsg_st0 TMsg_fd0 TMsg_bd0
attribute [local go_sem] TMsg_size TMsg_one TMsg_piece TMsg_c0 TMsg_c1 TMsg_c2 TMsg_c3 TMsg_c4 TMsg_c5 TMsg_c6 TMsg_c7 TMsg_c8 TMsg_c9 TMsg_c10 TMsg_c11 TMsg_c12 TMsg_c13 TMsg_c14 TMsg_c15 TMsg_c16 TMsg_c17 TMsg_c18 TMsg_c19 TMsg_c20 TMsg_c21 TMsg_c22 TMsg_c23 TMsg_c24 TMsg_set_kind TMsg_set_frm TMsg_set_to TMsg_p_item TMsg_put_item TMsg_p_bal TMsg_put_bal TMsg_p_vote TMsg_put_vote TMsg_set_status TMsg_set_same TMsg_p_call TMsg_put_call TMsg_ld TMsg_st TMsg_f_kind TMsg_f_frm TMsg_f_to TMsg_f_item TMsg_f_bal TMsg_f_vote TMsg_f_status TMsg_f_same TMsg_f_call TMsg_bd TMsg_fl TMsg_fl_kind TMsg_fl_frm TMsg_fl_to TMsg_fl_item TMsg_fl_bal TMsg_fl_vote TMsg_fl_status TMsg_fl_same TMsg_fl_call
attribute [local go_sem high] TMsg_eql TMsg_neq
/-- What there is of a replica. -/
structure RpZ where
 q : RpB
 lg : Nat
 p : Nat
 gx : Nat
 bk : Nat
 bs : Nat
 bw : Nat
 bt : Nat
 gg : Nat
 safe : Nat
 I : Idx
 D : List UInt8
 m : RowsM
 v : Value
 inb : Value
 out : Value
 ls : List Letter
 l : List Spoke
 fl : Item → Option Nat
 fm : Item → Option Unit
structure RpOk (f s cnt sp : Nat) (z : RpZ) : Prop where
 vot : VotI (2 * f + 1 : Nat) cnt z.I z.D z.m
 top : topM z.m s = (cnt : Int)
 sp : z.q.sp = sp
 ls : z.ls.length = cnt * (2 * f)
 l : z.l.length = cnt
 all : ∀ y ∈ z.l, y.due = 4 ∧ y.turn < (cnt : Int)
 key : ∀ y ∈ z.l, y.key.num ≤ (cnt : Int)
abbrev rpL (f s cnt g : Nat) (z : RpZ) : List Res :=
 packR (spL z.q.sp z.lg z.p z.gx z.bk z.bs z.I z.D z.safe z.m) :: rowR g (rpV z.q (2 * f + 1 : Nat) s z.inb z.out) :: emptR 25 z.inb :: vecR 148 3 z.out z.ls.length (vl LTV z.ls) :: mineR z.q.mm cnt z.fm :: rpIdle z.q cnt z.fl (2 * f + 1) s z.bw z.bt z.v cnt z.l z.gg
/-- A replica that has so many items of its own. -/
def rpR (f s cnt g sp : Nat) : Res := exR fun z : RpZ => andR (RpOk f s cnt sp z) (packR (rpL f s cnt g z))
section
variable {w W : World} {F : Nat → Prop} {R : List Res} {f s cnt g sp p : Nat} {t : TypeId}
theorem Sts.rpOpen (T : Sts w F W (rpR f s cnt g sp :: R)) : ∃ z, RpOk f s cnt sp z ∧ Sts w F W (packR (spL z.q.sp z.lg z.p z.gx z.bk z.bs z.I z.D z.safe z.m) :: rowR g (rpV z.q (2 * f + 1 : Nat) s z.inb z.out) :: emptR 25 z.inb :: vecR 148 3 z.out z.ls.length (vl LTV z.ls) :: mineR z.q.mm cnt z.fm :: (rpIdle z.q cnt z.fl (2 * f + 1) s z.bw z.bt z.v cnt z.l z.gg ++ R)) := by
 obtain ⟨z, T⟩ := T.open
 obtain ⟨h, T⟩ := T.and
 exact ⟨z, h, T.unpack⟩
theorem Sts.rpShut {z : RpZ} (h : RpOk f s cnt sp z) (T : Sts w F W (packR (spL z.q.sp z.lg z.p z.gx z.bk z.bs z.I z.D z.safe z.m) :: rowR g (rpV z.q (2 * f + 1 : Nat) s z.inb z.out) :: emptR 25 z.inb :: vecR 148 3 z.out z.ls.length (vl LTV z.ls) :: mineR z.q.mm cnt z.fm :: (rpIdle z.q cnt z.fl (2 * f + 1) s z.bw z.bt z.v cnt z.l z.gg ++ R))) : Sts w F W (rpR f s cnt g sp :: R) :=
 Sts.close (f := fun z : RpZ => andR (RpOk f s cnt sp z) (packR (rpL f s cnt g z))) z (Sts.with h (Sts.pack (L := rpL f s cnt g z) T))
theorem rpOpenR (hf : 1 ≤ f ∧ f ≤ 3) (hs : s < 2 * f + 1) (T : Sts w F W (plR p [] 0 :: kndR t :: R)) :
  Calls Tryz.prog 5 #[.pointer (some ⟨p, 0, none⟩), .int .i64 (2 * f + 1 : Nat), .int .i64 s, .int .i64 0] W fun e W' => ∃ g sp, e = .returned (.tuple #[.pointer (some ⟨g, 0, none⟩), .int .i64 0]) ∧ Sts w F W' (rpR f s 0 g sp :: kndR t :: R) := by
 refine (rpOpenT hf hs T).mono ?_
 rintro e W' ⟨g, q, lg, gx, bk, bs, I, D, safe, m, bw, bt, gg, he, hv, ht, T⟩
 have T1 := Sts.pack (L := spL q.sp lg p gx bk bs I D safe m) T
 have T2 := T1.ordr [0, 2, 3, 4, 5, 6, 7, 8, 9, 10, 11, 12, 1]
 exact ⟨g, q.sp, he, Sts.rpShut (z := ⟨q, lg, p, gx, bk, bs, bw, bt, gg, safe, I, D, m, .slice none 0 0, .slice none 0 0, .slice none 0 0, [], [], fun _ => none, fun _ => none⟩) ⟨hv, ht, rfl, by simp, rfl, (fun y hy => by cases hy), (fun y hy => by cases hy)⟩ T2⟩
theorem rpGoodR (hf : 1 ≤ f ∧ f ≤ 3) (hs : s < 2 * f + 1) (hc : cnt < 64) {d : Deed} (hd : (goodB d && !(d.kind == 0)) = true) (T : Sts w F W (rpR f s cnt g sp :: kndR t :: R)) :
  Calls Tryz.prog 7 #[.pointer (some ⟨g, 0, none⟩), .agg (EV d)] W fun e W' => e = .returned (.tuple #[.agg (IV ⟨s, (cnt : Int) + 1⟩), .int .i64 0]) ∧ Sts w F W' (rpR f s (cnt + 1) g sp :: kndR t :: R) := by
 obtain ⟨z, h, T⟩ := T.rpOpen
 have hd1 : goodB d = true := by
  revert hd; cases goodB d <;> simp
 have hd2 : (d.kind == 0) = false := by
  revert hd; cases (d.kind == 0) <;> simp
 have T2 : Sts w F W (packR (spL z.q.sp z.lg z.p z.gx z.bk z.bs z.I z.D z.safe z.m) :: kndR t :: rowR g (rpV z.q (2 * f + 1 : Nat) s z.inb z.out) :: emptR 25 z.inb :: vecR 148 3 z.out z.ls.length (vl LTV z.ls) :: mineR z.q.mm cnt z.fm :: (rpIdle z.q cnt z.fl (2 * f + 1) s z.bw z.bt z.v cnt z.l z.gg ++ R)) := T.ordr [0, 12, 1, 2, 3, 4, 5, 6, 7, 8, 9, 10, 11]
 have hls := h.ls
 have hl := h.l
 have hlsb : z.ls.length ≤ 990 := by
  rw [hls]
  have h6 : 2 * f ≤ 6 := by omega
  calc cnt * (2 * f) ≤ 64 * 6 := Nat.mul_le_mul (by omega) h6
   _ ≤ 990 := by omega
 have hno : ∀ y ∈ z.l, eqA (IV y.key) (IV ⟨s, (cnt : Int) + 1⟩) = false := fun y hy => by
  refine eqA_no.2 fun e => ?_
  have h1 := congrArg (fun X : Array Value => X[1]?) e
  have h2 := h.key y hy
  simp [IV] at h1
  omega
 refine (rpSubmitT h.vot (by omega) hf hs h.top hc hd1 hd2 hlsb (by omega) hno h.all (by omega) (by omega) (by omega) T2.unpack).mono ?_
 rintro e W' ⟨v', inb', out', ls', I', D', safe', m', fl', fm', he, hl', hv', ht', T⟩
 have T1 := Sts.pack (L := spL z.q.sp z.lg z.p z.gx z.bk z.bs I' D' safe' m') T
 have T3 := T1.ordr [0, 2, 3, 4, 5, 6, 7, 8, 9, 10, 11, 12, 1]
 refine ⟨he, Sts.rpShut (z := ⟨z.q, z.lg, z.p, z.gx, z.bk, z.bs, z.bw, z.bt, z.gg, safe', I', D', m', v', inb', out', ls', z.l ++ [(⟨⟨s, (cnt : Int) + 1⟩, 4, cnt⟩ : Spoke)], fl', fm'⟩) ⟨hv', ht', h.sp, ?_, ?_, ?_, ?_⟩ T3⟩
 ·show ls'.length = (cnt + 1) * (2 * f)
  rw [hl', hls, Nat.add_mul, Nat.one_mul]
 ·show (z.l ++ [_]).length = cnt + 1
  rw [List.length_append, hl]; rfl
 ·intro y hy
  rcases List.mem_append.1 hy with h1 | h1
  ·have := h.all y h1
   exact ⟨this.1, by omega⟩
  ·rw [List.mem_singleton] at h1
   subst h1
   exact ⟨rfl, by simp only; omega⟩
 ·intro y hy
  rcases List.mem_append.1 hy with h1 | h1
  ·have := h.key y h1
   omega
  ·rw [List.mem_singleton] at h1
   subst h1
   simp only
   omega
theorem rpFullR (hc : cnt = 64) {d : Deed} (hd : (goodB d && !(d.kind == 0)) = true) (T : Sts w F W (rpR f s cnt g sp :: kndR t :: R)) :
  Calls Tryz.prog 7 #[.pointer (some ⟨g, 0, none⟩), .agg (EV d)] W fun e W' => e = .returned (.tuple #[.agg (IV noItem), .int .i64 6]) ∧ Sts w F W' (rpR f s cnt g sp :: kndR t :: R) := by
 obtain ⟨z, h, T⟩ := T.rpOpen
 have hd1 : goodB d = true := by
  revert hd; cases goodB d <;> simp
 have hd2 : (d.kind == 0) = false := by
  revert hd; cases (d.kind == 0) <;> simp
 refine (rpSubmitFull h.vot.sp.ok (by rw [h.top, hc]; rfl) hd1 hd2 T.unpack).mono ?_
 rintro e W' ⟨he, T⟩
 exact ⟨he, Sts.rpShut h (Sts.pack (L := spL z.q.sp z.lg z.p z.gx z.bk z.bs z.I z.D z.safe z.m) T)⟩
theorem rpSpaceR (T : Sts w F W (rpR f s cnt g sp :: R)) :
  Calls Tryz.prog 9 #[.pointer (some ⟨g, 0, none⟩)] W fun e W' => e = .returned (.pointer (some ⟨sp, 0, none⟩)) ∧ Sts w F W' (rpR f s cnt g sp :: R) := by
 obtain ⟨z, h, T⟩ := T.rpOpen
 refine (rpSpaceT T.swap).mono ?_
 rintro e W' ⟨he, T⟩
 exact ⟨by rw [he, h.sp], Sts.rpShut h T.swap⟩
theorem rpTopR (T : Sts w F W (rpR f s cnt g sp :: R)) :
  Calls Tryz.prog 10 #[.pointer (some ⟨sp, 0, none⟩), .int .i64 s] W fun e W' => e = .returned (.int .i64 cnt) ∧ Sts w F W' (rpR f s cnt g sp :: R) := by
 have T0 := T
 obtain ⟨z, h, T⟩ := T.rpOpen
 have h1 := spTopT h.vot.sp.ok s T.unpack
 rw [h.sp, h.top] at h1
 exact h1.mono fun e W' ⟨he, hb⟩ => ⟨he, T0.pure hb⟩
theorem rpFlushR (T : Sts w F W (rpR f s cnt g sp :: R)) :
  Calls Tryz.prog 11 #[.pointer (some ⟨g, 0, none⟩)] W fun e W' => ∃ A c, e = .returned (.tuple #[.slice A (cnt * (2 * f)) c, .slice none 0 0]) ∧ Sts w F W' R := by
 obtain ⟨z, h, T⟩ := T.rpOpen
 obtain ⟨A, c, ho, -⟩ := vec_form (T.ordr [3, 0, 1, 2])
 refine (rpFlushT T.unpack).mono ?_
 rintro e W' ⟨he, T⟩
 refine ⟨A, c, by rw [he, ho, h.ls], ?_⟩
 have T1 := Sts.pack (L := spL z.q.sp z.lg z.p z.gx z.bk z.bs z.I z.D z.D.length z.m) T
 exact T1.drop.drop.drop.drop.drop.drop.drop.drop.drop.drop.drop.drop
end
end Go.Proofs.YtomlilkobhkoiaaGreatDoor
/- Layer 22: what the document tells; a replica that cannot be. -/
namespace Go.Proofs.YtomlilkobhkoiaaGreatDoor
open Go.RowKit Go.Shelf
set_option linter.unusedVariables false
set_option maxRecDepth 20000
attribute [local go_sem] row_alloc row_drew row_drewN row_ext row_setCell row_setRow size_ext setRow_alloc setRow_drew loadOf storeOf piece_lit loadVal_at storeVal_at allOne_lit buildOf buildRes_some
attribute [local go_sem high] cell_alloc frozen_alloc setCell_alloc cell_ext frozen_ext cell_setRow frozen_setRow
attribute [local go_sem ↓] TItem_ld0 TItem_st0 TItem_fd0 TItem_bd0
attribute [local go_sem] TItem_size TItem_one TItem_piece TItem_c0 TItem_c1 TItem_set_rep TItem_set_num TItem_ld TItem_st TItem_f_rep TItem_f_num TItem_bd TItem_fl TItem_fl_rep TItem_fl_num
attribute [local go_sem high] TItem_eql TItem_neq
attribute [local go_sem ↓] TDeed_ld0 TDeed_st0 TDeed_fd0 TDeed_bd0
attribute [local go_sem] TDeed_size TDeed_one TDeed_piece TDeed_c0 TDeed_c1 TDeed_c2 TDeed_c3 TDeed_c4 TDeed_c5 TDeed_set_kind TDeed_set_key TDeed_set_val TDeed_set_ver TDeed_set_ses TDeed_set_num TDeed_ld TDeed_st TDeed_f_kind TDeed_f_key TDeed_f_val TDeed_f_ver TDeed_f_ses TDeed_f_num TDeed_bd TDeed_fl TDeed_fl_kind TDeed_fl_key TDeed_fl_val TDeed_fl_ver TDeed_fl_ses TDeed_fl_num
attribute [local go_sem high] TDeed_eql TDeed_neq
section
variable {w W : World} {F : Nat → Prop} {R : List Res} {p : Nat} {t : TypeId}
def dA : Deed := ⟨2, ⟨#[97]⟩, ⟨#[]⟩, 0, 0, 0⟩
theorem dA_good : (goodB dA && !(dA.kind == 0)) = true := by decide
set_option maxHeartbeats 4000000 in
theorem rpOpenBad (n s : Int) (h : s < 0 ∨ n ≤ s) (T : Sts w F W R) :
  Calls Tryz.prog 5 #[.pointer (some ⟨p, 0, none⟩), .int .i64 n, .int .i64 s, .int .i64 0] W fun e W' => e = .returned (.tuple #[.pointer none, .int .i64 1]) ∧ Sts w F W' R := by
 have T1 := T.new #[.int .i64 0] 3
 have rb := T1.row; have lb := row_lt rb; have cb := row_cell rb 0
 have HT := Lib.hid T1; clear T T1
 refine (callsIn_wide (n := 4)).1 ?_
 refine callsIn_of_wp_marks Tryz.func5 rfl trivial ?_ rfl
 simp only [Tryz.ntmps5, List.size_toArray, List.length_cons, List.length_nil, Nat.reduceAdd, Nat.reduceSub, Array.replicate_succ, Array.replicate_zero, List.push_toArray, List.append_toArray, List.nil_append, List.cons_append]
 refine wpIn_wide.2 ?_
 by_cases h0 : s < 0
 ·have h1 : decide (s < 0) = true := decide_eq_true h0
  clear h
  go_wp2
  exact retM0 (results_tmp2 rfl _ _ _) ⟨rfl, HT.out.drop⟩ rfl
 ·have h2 : n ≤ s := by rcases h with h | h; exact absurd h h0; exact h
  have h1 : decide (s < 0) = false := decide_eq_false h0
  have h3 : decide (n ≤ s) = true := decide_eq_true h2
  clear h
  go_wp2
  exact retM0 (results_tmp2 rfl _ _ _) ⟨rfl, HT.out.drop⟩ rfl
set_option maxHeartbeats 8000000 in
theorem alive22 (T : Sts w F W (kndR t :: R)) : Calls Tryz.prog 4 #[] W fun e W' => e = .returned (.bool true) ∧ Sts w F W' (kndR t :: R) := by
 go_enter Tryz.func4, Tryz.ntmps4
 go_wp2_with fail
 refine (newT T).mono ?_
 clear T
 rintro e w1 ⟨rfl, T⟩
 generalize W.heap.size = p at *
 have HO := Lib.hid (rpOpenR (f := 1) (s := 1) (by omega) (by omega) T); clear T
 go_wp2_with fail
 refine HO.out.mono ?_
 clear HO
 rintro e w2 ⟨g, sp, rfl, T⟩
 have HS := Lib.hid (rpGoodR (by omega) (by omega) (by omega) dA_good T); clear T
 go_wp2_with fail
 refine HS.out.mono ?_
 clear HS
 rintro e w3 ⟨rfl, T⟩
 have T1 := T.new (IV ⟨1, 1⟩) 33
 have HF := Lib.hid (rpFlushR T1.swap); clear T
 have rn := T1.row; have ln := row_lt rn
 clear T1
 go_wp2_with fail
 refine HF.out.mono ?_
 clear HF rn ln
 rintro e w4 ⟨A, c, he, T⟩
 have he : e = .returned (.tuple #[.slice A 2 c, .slice none 0 0]) := he
 subst he
 generalize w3.heap.size = b at *
 have rn := T.row; have ln := row_lt rn
 have hxx : eqA (IV ⟨1, 1⟩) (IV ⟨1, 1⟩) = true := eqA_refl _
 have HT := Lib.hid T.drop; clear T
 go_wp2
 go_ret
 exact ⟨rfl, HT.out⟩
end
end Go.Proofs.YtomlilkobhkoiaaGreatDoor
/- Layer 7: what the row's list gives the walks; a world that bears the list. -/
namespace Go.Proofs.YtomlilkobhkoiaaGreatDoor
open Go.ChangeShapes Go.WideShapes Go.ChangeAt Go.RowKit
set_option linter.unusedVariables false
theorem kindsG : Tryz.prog.globalNamed "caucus/mail.kinds" = some 0 := by kernel_rfl
theorem kindsT : (Tryz.prog.globals[0]?).map (·.type) = some 266 := by kernel_rfl
theorem kindsRow : (((begin Tryz.prog (fun _ _ => 0) default).world.heap[0]?).bind Obj.row?).isSome = true := by kernel_rfl
theorem kindsN : 0 < Tryz.prog.globals.size := of_decide_eq_true (by kernel_rfl)
def kindsL : List (Bool × Bool) := [(false, false), (true, false), (true, false), (true, false), (false, false), (true, false), (false, false), (true, true), (false, false)]
/-- The kinds, out of the list and the world's form. -/
theorem kinds0 {W : World} (h : laidMetH Tryz.prog [("caucus/mail.kinds", Rows.laid_caucus_mail_kinds)] W) (hs : W.ShapedOpen Tryz.prog) : ∃ t, W.heap[0]? = some (.cells KndV t (0, 0)) := by
 obtain ⟨⟨z, t⟩, hz⟩ := Option.isSome_iff_exists.1 kindsRow
 obtain ⟨cs, hcs, _⟩ := hs.1 0 z t kindsN hz
 have hv := pairs_var (zs := kindsL) (rest := []) kindsG kindsT Tryz.underlying266 Tryz.underlying265 Tryz.underlying4 rfl rfl rfl rfl (by kernel_rfl) (by kernel_rfl) (by kernel_rfl) h
 refine ⟨t, ?_⟩
 have : W.var? Tryz.prog "caucus/mail.kinds" = some cs := by
  unfold World.var?
  rw [kindsG]
  simp only [Option.bind_some, hcs]
 rw [this] at hv
 rw [hcs, Option.some.inj hv]
 rfl
/-- A world for the witness: the settled one, the kinds laid. -/
noncomputable def laidWorld (os : Os) : World :=
 { World.holding Tryz.prog os ⟨#[], #[], []⟩ with heap := (World.holding Tryz.prog os ⟨#[], #[], []⟩).heap.modify 0 fun
   | .cells _ t frozen => .cells KndV t frozen
   | o => o }
theorem laid_met (os : Os) (args : Array Value) : laidMet Tryz.prog [("caucus/mail.kinds", Rows.laid_caucus_mail_kinds)] ((laidWorld os).forCall (fun _ _ => 0) ⟨#[], args, []⟩).memory :=
 laidMet_of_run' 8 (by kernel_rfl) (by kernel_rfl)
end Go.Proofs.YtomlilkobhkoiaaGreatDoor
/- Layer 22: the law of a replica's items. -/
namespace Go.Proofs.YtomlilkobhkoiaaGreatDoor
open Go.RowKit Go.Shelf
set_option linter.unusedVariables false
set_option maxRecDepth 20000
attribute [local go_sem] row_alloc row_drew row_drewN row_ext row_setCell row_setRow size_ext setRow_alloc setRow_drew loadOf storeOf piece_lit loadVal_at storeVal_at allOne_lit buildOf buildRes_some
attribute [local go_sem high] cell_alloc frozen_alloc setCell_alloc cell_ext frozen_ext cell_setRow frozen_setRow
attribute [local go_sem ↓] TItem_ld0 TItem_st0 TItem_fd0 TItem_bd0
attribute [local go_sem] TItem_size TItem_one TItem_piece TItem_c0 TItem_c1 TItem_set_rep TItem_set_num TItem_ld TItem_st TItem_f_rep TItem_f_num TItem_bd TItem_fl TItem_fl_rep TItem_fl_num
attribute [local go_sem high] TItem_eql TItem_neq
attribute [local go_sem ↓] TDeed_ld0 TDeed_st0 TDeed_fd0 TDeed_bd0
attribute [local go_sem] TDeed_size TDeed_one TDeed_piece TDeed_c0 TDeed_c1 TDeed_c2 TDeed_c3 TDeed_c4 TDeed_c5 TDeed_set_kind TDeed_set_key TDeed_set_val TDeed_set_ver TDeed_set_ses TDeed_set_num TDeed_ld TDeed_st TDeed_f_kind TDeed_f_key TDeed_f_val TDeed_f_ver TDeed_f_ses TDeed_f_num TDeed_bd TDeed_fl TDeed_fl_kind TDeed_fl_key TDeed_fl_val TDeed_fl_ver TDeed_fl_ses TDeed_fl_num
attribute [local go_sem high] TDeed_eql TDeed_neq
def FitE (l : List Deed) : Prop := ∀ x ∈ l, x.key.size ≤ 140737488351232 ∧ x.val.size ≤ 140737488351232
def greatR (n : Int) (N : Nat) : Bool := (n != 3 && n != 5 && n != 7) || decide ((70 : Int) < (N : Int))
theorem great_R {n : Int} {N : Nat} (h : greatR n N = false) : (∃ f : Nat, (1 ≤ f ∧ f ≤ 3) ∧ n = ((2 * f + 1 : Nat) : Int)) ∧ N ≤ 70 := by
 unfold greatR at h
 rw [Bool.or_eq_false_iff] at h
 obtain ⟨h1, h2⟩ := h
 refine ⟨?_, by have h9 := of_decide_eq_false h2; omega⟩
 by_cases h3 : n = 3
 ·exact ⟨1, by omega, by rw [h3]; rfl⟩
 ·by_cases h5 : n = 5
  ·exact ⟨2, by omega, by rw [h5]; rfl⟩
  ·by_cases h7 : n = 7
   ·exact ⟨3, by omega, by rw [h7]; rfl⟩
   ·simp [h3, h5, h7] at h1
set_option maxHeartbeats 16000000 in
theorem law_items (n self : Int) (A : Option Addr) (c : Nat) (l : List Deed) (t : TypeId) (W : World) (h0 : W.heap[0]? = some (.cells KndV t (0, 0))) (hx : RowsIn W A 6 EV l) (hf : FitE l) :
  Calls Tryz.prog 3 #[.int .i64 n, .int .i64 self, .slice A l.length c] W fun e W' => e = .returned (.bool true) ∧ Below W.heap.size W W' := by
 have T := Sts.startK h0
 have HB : Hid (∀ W', Sts W (fun k => k = 0) W' [kndR t] → Below W.heap.size W W') := Lib.hid fun W' T => T.belowK h0
 have hll := hx.len
 obtain ⟨N, hN⟩ : ∃ N, N = l.length := ⟨_, rfl⟩
 rw [← hN] at hll ⊢
 have HN := Lib.hid hN; have HX := Lib.hid hx; have HF := Lib.hid hf; clear hN hx hf
 go_enter Tryz.func3, Tryz.ntmps3
 go_wp2_with fail
 refine (alive22 T).mono ?_
 clear T
 rintro e w1 ⟨rfl, T⟩
 have HT := Lib.hid T; clear T
 go_upto_region 3 with fail
 go_cut [32] (fun u32 wx => u32 = .bool (greatR n N) ∧ Sts W (fun k => k = 0) wx [kndR t])
 case first =>
  cases h3 : (n != 3) <;> cases h5 : (n != 5) <;> cases h7 : (n != 7) <;> cases h70 : decide ((70 : Int) < (N : Int))
  all_goals (go_wp2_with fail; go_meet)
  all_goals (refine ⟨congrArg Value.bool ?_, HT.out⟩; unfold greatR; rw [h3, h5, h7, h70]; rfl)
 case rest =>
  obtain ⟨rfl, T⟩ := hcut
  clear HT
  cases hg : greatR n N
  case true =>
   have HT := Lib.hid T; clear T
   go_wp2
   go_ret
   exact ⟨rfl, HB.out _ HT.out⟩
  case false =>
   obtain ⟨⟨f, hf, hn⟩, hN70⟩ := great_R hg
   clear hg
   have HNW := Lib.hid (newT T); clear T
   go_wp2_with fail
   refine HNW.out.mono ?_
   clear HNW
   rintro e w3 ⟨rfl, T⟩
   generalize wc.heap.size = p at *
   by_cases hin : self < 0 ∨ n ≤ self
   ·have HOB := Lib.hid (rpOpenBad (p := p) n self hin T)
    clear T hin hn
    go_wp2_with fail
    refine HOB.out.mono ?_
    clear HOB
    rintro e w4 ⟨rfl, T⟩
    have HT := Lib.hid T.drop; clear T
    go_wp2
    go_ret
    exact ⟨rfl, HB.out _ HT.out⟩
   ·obtain ⟨s, hs⟩ : ∃ s : Nat, self = (s : Int) := ⟨self.toNat, by omega⟩
    have hs2 : s < 2 * f + 1 := by omega
    have hop := rpOpenR hf hs2 T
    rw [← hn] at hop
    subst hs
    have HOP := Lib.hid hop
    clear T hop hin
    have HFF := Lib.hid hf; have HS2 := Lib.hid hs2; clear hf hs2 hn
    go_wp2_with fail
    refine HOP.out.mono ?_
    clear HOP
    rintro e w4 ⟨g, sp, rfl, T⟩
    have HT := Lib.hid T; clear T
    go_wp2_with fail
    go_loopw [9, 44] (fun u9 u44 wr => ∃ (i cnt : Nat), u9 = .int .i64 cnt ∧ u44 = .int .i64 i ∧ i ≤ N ∧ cnt ≤ i ∧ cnt ≤ 64 ∧ Sts W (fun k => k = 0) wr [rpR f s cnt g sp, kndR t]) (fun _ u44 _ => N - (intOf u44).toNat)
    case atStart => exact ⟨0, 0, rfl, rfl, by omega, by omega, by omega, HT.out⟩
    case round =>
     clear HT
     obtain ⟨i, cnt, rfl, rfl, hi0, hci, hc64, T⟩ := hrel
     by_cases hiN : i < N
     ·have hil : i < l.length := by rw [← HN.out]; exact hiN
      cases A with
      | none => have := HX.out.nil rfl; rw [this] at hil; simp at hil
      | some a =>
       have hld := HX.out.load (P := Tryz.prog) (T := 31) TDeed_size TDeed_und rfl (by kernel_rfl) (HB.out _ T.drop) rfl hil
       obtain ⟨hk1, hk2⟩ := HF.out l[i] (List.getElem_mem hil)
       generalize l[i] = x at *
       have T1 := T.new (EV x) 31
       have rd := T1.row; have ld := row_lt rd; have cd := row_cell rd
       have HT := Lib.hid T1; clear T T1
       have hiN1 : (i : Int) < (N : Int) := by omega
       cases hov : decide ((100 : Int) < (x.key.size : Int) + (x.val.size : Int))
       case true =>
        go_wp2
        go_ret
        exact ⟨rfl, HB.out _ HT.out.drop.drop⟩
       case false =>
        have hgr := rgood4_any x
        have hii := eqA_refl (IV noItem)
        cases hgb : goodB x
        case false =>
         have hsb := rpSubmitBad (g := g) (d := x) (by rw [hgb]; rfl) HT.out
         rw [hgb] at hgr
         have HSB := Lib.hid hsb; have HGR := Lib.hid hgr; clear hsb hgr
         go_wp2_with fail
         refine HSB.out.mono ?_
         clear HSB HT rd ld cd hld
         rintro e w6 ⟨rfl, T⟩
         generalize wr.heap.size = bd at *
         have T6 := T.new (IV noItem) 33
         have rn := T6.row; have ln := row_lt rn
         have rd := T6.row1; have ld := row_lt rd
         have HT := Lib.hid T6; clear T T6
         go_wp2_with fail
         refine (HGR.out.at HT.out).mono ?_
         clear HGR HT rn ln rd ld
         rintro e w7 ⟨rfl, T⟩
         generalize w6.heap.size = b12 at *
         have rn := T.row; have ln := row_lt rn
         have rd := T.row1; have ld := row_lt rd; have cd := row_cell rd
         have HSP := Lib.hid (rpSpaceR (T.ord [2, 0, 1]))
         clear T
         go_wp2_with fail
         refine HSP.out.mono ?_
         clear HSP rn ln rd ld cd
         rintro e w8 ⟨rfl, T⟩
         have HTO := Lib.hid (rpTopR T)
         clear T
         go_wp2_with fail
         refine HTO.out.mono ?_
         clear HTO
         rintro e w9 ⟨rfl, T⟩
         have HT := Lib.hid T; clear T
         go_wp2
         go_roundw
         case rel => exact ⟨i + 1, cnt, by go_num, by go_num, by omega, by omega, by omega, (HT.out.ord [1, 2, 0, 3]).drop.drop⟩
         case measure => simp [intOf]; omega
        case true =>
         rw [hgb] at hgr
         cases hk0 : (x.kind == 0)
         case true =>
          have hk3 : (x.kind != 0) = false := by rw [bne, hk0]; rfl
          have hsb := rpSubmitBad (g := g) (d := x) (by rw [hgb, hk0]; rfl) HT.out
          have HSB := Lib.hid hsb; have HGR := Lib.hid hgr; clear hsb hgr
          go_wp2_with fail
          refine HSB.out.mono ?_
          clear HSB HT rd ld cd hld
          rintro e w6 ⟨rfl, T⟩
          generalize wr.heap.size = bd at *
          have T6 := T.new (IV noItem) 33
          have rn := T6.row; have ln := row_lt rn
          have rd := T6.row1; have ld := row_lt rd
          have HT := Lib.hid T6; clear T T6
          go_wp2_with fail
          refine (HGR.out.at HT.out).mono ?_
          clear HGR HT rn ln rd ld
          rintro e w7 ⟨rfl, T⟩
          generalize w6.heap.size = b12 at *
          have rn := T.row; have ln := row_lt rn
          have rd := T.row1; have ld := row_lt rd; have cd := row_cell rd
          have HSP := Lib.hid (rpSpaceR (T.ord [2, 0, 1]))
          clear T
          go_wp2_with fail
          refine HSP.out.mono ?_
          clear HSP rn ln rd ld cd
          rintro e w8 ⟨rfl, T⟩
          have HTO := Lib.hid (rpTopR T)
          clear T
          go_wp2_with fail
          refine HTO.out.mono ?_
          clear HTO
          rintro e w9 ⟨rfl, T⟩
          have HT := Lib.hid T; clear T
          go_wp2
          go_roundw
          case rel => exact ⟨i + 1, cnt, by go_num, by go_num, by omega, by omega, by omega, (HT.out.ord [1, 2, 0, 3]).drop.drop⟩
          case measure => simp [intOf]; omega
         case false =>
          have hk3 : (x.kind != 0) = true := by rw [bne, hk0]; rfl
          have hgk : (goodB x && !(x.kind == 0)) = true := by rw [hgb, hk0]; rfl
          by_cases hc : cnt = 64
          ·have hsb := (rpFullR (d := x) (f := f) (s := s) (sp := sp) (g := g) (t := t) (R := [rowR wr.heap.size (EV x)]) hc hgk (HT.out.ord [1, 2, 0])).mono fun e W' ⟨h1, h2⟩ => (⟨h1, h2.ord [2, 0, 1]⟩ : _ ∧ Sts W (fun k => k = 0) W' [rowR wr.heap.size (EV x), rpR f s cnt g sp, kndR t])
           have hcc : decide ((64 : Int) ≤ (cnt : Int)) = true := by rw [decide_eq_true_iff]; omega
           have HSB := Lib.hid hsb; have HGR := Lib.hid hgr; clear hsb hgr
           go_wp2_with fail
           refine HSB.out.mono ?_
           clear HSB HT rd ld cd hld
           rintro e w6 ⟨rfl, T⟩
           generalize wr.heap.size = bd at *
           have T6 := T.new (IV noItem) 33
           have rn := T6.row; have ln := row_lt rn
           have rd := T6.row1; have ld := row_lt rd
           have HT := Lib.hid T6; clear T T6
           go_wp2_with fail
           refine (HGR.out.at HT.out).mono ?_
           clear HGR HT rn ln rd ld
           rintro e w7 ⟨rfl, T⟩
           generalize w6.heap.size = b12 at *
           have rn := T.row; have ln := row_lt rn
           have rd := T.row1; have ld := row_lt rd; have cd := row_cell rd
           have HSP := Lib.hid (rpSpaceR (T.ord [2, 0, 1]))
           clear T
           go_wp2_with fail
           refine HSP.out.mono ?_
           clear HSP rn ln rd ld cd
           rintro e w8 ⟨rfl, T⟩
           have HTO := Lib.hid (rpTopR T)
           clear T
           go_wp2_with fail
           refine HTO.out.mono ?_
           clear HTO
           rintro e w9 ⟨rfl, T⟩
           have HT := Lib.hid T; clear T
           go_wp2
           go_roundw
           case rel => exact ⟨i + 1, cnt, by go_num, by go_num, by omega, by omega, by omega, (HT.out.ord [1, 2, 0, 3]).drop.drop⟩
           case measure => simp [intOf]; omega
          ·have hsb := rpGoodR (cnt := cnt) (f := f) (s := s) (sp := sp) (g := g) HFF.out HS2.out (by omega) hgk (HT.out.ord [1, 2, 0])
           have hsb := hsb.mono fun e W' ⟨h1, h2⟩ => (⟨h1, h2.ord [2, 0, 1]⟩ : _ ∧ Sts W (fun k => k = 0) W' [rowR wr.heap.size (EV x), rpR f s (cnt + 1) g sp, kndR t])
           have hcc : decide ((64 : Int) ≤ (cnt : Int)) = false := decide_eq_false (by omega)
           have hxx := eqA_refl (IV ⟨s, (cnt : Int) + 1⟩)
           have HSB := Lib.hid hsb; have HGR := Lib.hid hgr; clear hsb hgr
           go_wp2_with fail
           refine HSB.out.mono ?_
           clear HSB HT rd ld cd hld
           rintro e w6 ⟨rfl, T⟩
           generalize wr.heap.size = bd at *
           have T6 := T.new (IV ⟨s, (cnt : Int) + 1⟩) 33
           have rn := T6.row; have ln := row_lt rn
           have rd := T6.row1; have ld := row_lt rd
           have HT := Lib.hid T6; clear T T6
           go_wp2_with fail
           refine (HGR.out.at HT.out).mono ?_
           clear HGR HT rn ln rd ld
           rintro e w7 ⟨rfl, T⟩
           generalize w6.heap.size = b12 at *
           have rn := T.row; have ln := row_lt rn
           have rd := T.row1; have ld := row_lt rd; have cd := row_cell rd
           have HSP := Lib.hid (rpSpaceR (T.ord [2, 0, 1]))
           clear T
           go_wp2_with fail
           refine HSP.out.mono ?_
           clear HSP rn ln rd ld cd
           rintro e w8 ⟨rfl, T⟩
           have HTO := Lib.hid (rpTopR T)
           clear T
           go_wp2_with fail
           refine HTO.out.mono ?_
           clear HTO
           rintro e w9 ⟨rfl, T⟩
           have HT := Lib.hid T; clear T
           go_wp2
           go_roundw
           case rel => exact ⟨i + 1, cnt + 1, by go_num, by go_num, by omega, by omega, by omega, (HT.out.ord [1, 2, 0, 3]).drop.drop⟩
           case measure => simp [intOf]; omega
     ·have HT := Lib.hid T; clear T
      have hiN1 : ¬ (i : Int) < (N : Int) := by omega
      go_wp2
      go_ret
      exact ⟨rfl, HB.out _ HT.out.drop⟩
end Go.Proofs.YtomlilkobhkoiaaGreatDoor
/- What comes in as a deed. -/
namespace Go.Proofs.YtomlilkobhkoiaaGreatDoor
open Go.ChangeShapes Go.WideShapes Go.ChangeAt Go.RowKit Go.WideMaps Go.WideElems Go.Joins
open Go.ChangeMaps (open_string)
set_option maxRecDepth 20000
section
variable {H : Type} {enc : TypeId × Value → H} {w : World} {base : Nat} {sp : Nat → Bool} {held : Bool} {r : Reach} {b0 : Nat} {v : Value} {d : DataW H} {p : List MemPlace}
structure DeedFits (d : Deed) : Prop where
 kind : Fits d.kind
 ver : Fits d.ver
 ses : Fits d.ses
 num : Fits d.num
 key : d.key.size ≤ 140737488351232
 val : d.val.size ≤ 140737488351232
theorem trod_deed {fuel : Nat} {cs : List Value} {x : DataW H × List MemPlace} (h : DataW.trod enc Tryz.prog w base sp held fuel 31 cs = some x) (hw : ∀ n ∈ x.1.weights Tryz.prog 31, n ≤ reachBytes) :
  ∃ D : Deed, cs = (EV D).toList ∧ DeedFits D := by
 obtain ⟨xs, n, _, hx, hlen, hxl, hg⟩ := DataW.trod_struct Tryz.underlying31 h
 have hC : Tryz.prog.cellsOf 31 = 6 := by kernel_rfl
 have hC1 : Tryz.prog.cellsOf 3 = 1 := by kernel_rfl
 have hC2 : Tryz.prog.cellsOf 9 = 1 := by kernel_rfl
 rw [hC] at hlen
 match cs, hlen, xs, hxl with
 | [c0, c1, c2, c3, c4, c5], _, [y0, y1, y2, y3, y4, y5], _ =>
  have g0 : DataW.trod enc Tryz.prog w base sp held n 3 (([c0, c1, c2, c3, c4, c5].drop 0).take (Tryz.prog.cellsOf 3)) = some y0 := hg 0 _ rfl
  rw [hC1] at g0
  have g1 : DataW.trod enc Tryz.prog w base sp held n 9 (([c0, c1, c2, c3, c4, c5].drop 1).take (Tryz.prog.cellsOf 9)) = some y1 := hg 1 _ rfl
  rw [hC2] at g1
  have g2 : DataW.trod enc Tryz.prog w base sp held n 9 (([c0, c1, c2, c3, c4, c5].drop 2).take (Tryz.prog.cellsOf 9)) = some y2 := hg 2 _ rfl
  rw [hC2] at g2
  have g3 : DataW.trod enc Tryz.prog w base sp held n 3 (([c0, c1, c2, c3, c4, c5].drop 3).take (Tryz.prog.cellsOf 3)) = some y3 := hg 3 _ rfl
  rw [hC1] at g3
  have g4 : DataW.trod enc Tryz.prog w base sp held n 3 (([c0, c1, c2, c3, c4, c5].drop 4).take (Tryz.prog.cellsOf 3)) = some y4 := hg 4 _ rfl
  rw [hC1] at g4
  have g5 : DataW.trod enc Tryz.prog w base sp held n 3 (([c0, c1, c2, c3, c4, c5].drop 5).take (Tryz.prog.cellsOf 3)) = some y5 := hg 5 _ rfl
  rw [hC1] at g5
  obtain ⟨n0, e0, f0, w0⟩ := DataW.trod_int Tryz.underlying3 g0
  obtain ⟨n1, e1, f1, w1⟩ := DataW.trod_string Tryz.underlying9 g1
  obtain ⟨n2, e2, f2, w2⟩ := DataW.trod_string Tryz.underlying9 g2
  obtain ⟨n3, e3, f3, w3⟩ := DataW.trod_int Tryz.underlying3 g3
  obtain ⟨n4, e4, f4, w4⟩ := DataW.trod_int Tryz.underlying3 g4
  obtain ⟨n5, e5, f5, w5⟩ := DataW.trod_int Tryz.underlying3 g5
  simp at e0 e1 e2 e3 e4 e5
  subst e0 e1 e2 e3 e4 e5 f0 f1 f2 f3 f4 f5
  subst hx
  have hk := hw n1.data.toList.length (by simp [DataW.weights, Tryz.underlying31, DataW.weightsEach])
  have hv := hw n2.data.toList.length (by simp [DataW.weights, Tryz.underlying31, DataW.weightsEach])
  have hr : reachBytes = 140737488351232 := rfl
  rw [hr, Array.length_toList] at hk hv
  exact ⟨⟨n0, n1, n2, n3, n4, n5⟩, rfl, ⟨fits_of w0, fits_of w3, fits_of w4, fits_of w5, hk, hv⟩⟩
end
end Go.Proofs.YtomlilkobhkoiaaGreatDoor
