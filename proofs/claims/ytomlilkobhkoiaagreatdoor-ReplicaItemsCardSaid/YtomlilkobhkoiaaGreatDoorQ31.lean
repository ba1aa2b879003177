/- Several texts in one. -/
import Derived.Test.YtomlilkobhkoiaaGreatDoorQ3
import Derived.Test.YtomlilkobhkoiaaGreatDoorQ30
import Derived.Test.YtomlilkobhkoiaaGreatDoorQ9
import Derived.Test.YtomlilkobhkoiaaGreatDoorQ28
import Derived.Test.YtomlilkobhkoiaaGreatDoorQ6
import Derived.Test.YtomlilkobhkoiaaGreatDoorQ4
import Derived.Deep.Cut
import Derived.Test.YtomlilkobhkoiaaGreatDoorQ27
/- Endings with a row and a slot. Nothing of the program stands here. -/
namespace Go.Proofs.YtomlilkobhkoiaaGreatDoor
open Go.RowKit
theorem ret_row_tmp {P : Program} {fn : Func} {R : Ending → World → Prop} {a : Act} {w : World} {p q : Tmp} {T : TypeId} {n : Nat} {d : TypeDesc} (X : Array Value) (v : Value) {g : Nat} (hu : P.underlying T = some d) (hd : d.isRow = true)
  (hi : (P.info? T).map (·.size) = some n) (hr : fn.results = #[.cell p T, .tmp q]) (hp : a.tmps.getD p undef = .pointer (some ⟨g, 0, none⟩)) (hv : a.tmps.getD q undef = v) (hdf : a.defers = []) (hX : X.size = n) (hrow : row? w g = some X) (hR : R (.returned (.tuple #[.agg X, v])) w) : bodyPost P fn R .ret a w := by
 obtain ⟨t, ht⟩ := row_some hrow
 refine bodyPost_ret ?_ hdf hR
 have hp' : a.tmps[p]?.getD undef = .pointer (some ⟨g, 0, none⟩) := by simpa using hp
 have hv' : a.tmps[q]?.getD undef = v := by simpa using hv
 have hl := run_loadVar_row w g t T X (0, 0) d ht hu (by cases d <;> first | rfl | exact hd) (by rw [hi, hX])
 simp [results, hr, hp', hv', asAddr, hl]
end Go.Proofs.YtomlilkobhkoiaaGreatDoor
/- Layer 7: a message's bytes, sealed (without what reads them). -/
namespace Go.Proofs.YtomlilkobhkoiaaGreatDoor
open Go.RowKit
set_option linter.unusedVariables false
attribute [local go_sem] row_alloc row_drew row_drewN row_ext row_setCell row_setRow size_ext setRow_alloc setRow_drew loadOf storeOf piece_lit loadVal_at storeVal_at allOne_lit buildOf buildRes_some
attribute [local go_sem high] cell_alloc frozen_alloc setCell_alloc cell_ext frozen_ext cell_setRow frozen_setRow
attribute [local go_sem ↓] TDeed_ld0 TDeed_st0 TDeed_fd0 TDeed_bd0
attribute [local go_sem] TDeed_size TDeed_one TDeed_piece TDeed_c0 TDeed_c1 TDeed_c2 TDeed_c3 TDeed_c4 TDeed_c5 TDeed_set_kind TDeed_set_key TDeed_set_val TDeed_set_ver TDeed_set_ses TDeed_set_num TDeed_ld TDeed_st TDeed_f_kind TDeed_f_key TDeed_f_val TDeed_f_ver TDeed_f_ses TDeed_f_num TDeed_bd TDeed_fl TDeed_fl_kind TDeed_fl_key TDeed_fl_val TDeed_fl_ver TDeed_fl_ses TDeed_fl_num
attribute [local go_sem high] TDeed_eql TDeed_neq
attribute [local go_sem ↓] index_deps0 load_deps0 store_deps0
attribute [local go_sem] DV_piece DV_size DV_one index_deps load_deps store_deps
attribute [local go_sem high] TDeps_eql TDeps_neq
attribute [local go_sem ↓] TCall_ld0 TCall_st0 TCall_fd0 TCall_bd0
attribute [local go_sem] TCall_size TCall_one TCall_piece TCall_c0 TCall_c1 TCall_c2 TCall_c3 TCall_c4 TCall_c5 TCall_c6 TCall_c7 TCall_c8 TCall_c9 TCall_c10 TCall_c11 TCall_c12 TCall_c13 TCall_p_deed TCall_put_deed TCall_p_deps TCall_put_deps TCall_set_seq TCall_ld TCall_st TCall_f_deed TCall_f_deps TCall_f_seq TCall_bd TCall_fl TCall_fl_deed TCall_fl_deps TCall_fl_seq
attribute [local go_sem high] TCall_eql TCall_neq
attribute [local go_sem ↓] TItem_ld0 TItem_st0 TItem_fd0 TItem_bd0
attribute [local go_sem] TItem_size TItem_one TItem_piece TItem_c0 TItem_c1 TItem_set_rep TItem_set_num TItem_ld TItem_st TItem_f_rep TItem_f_num TItem_bd TItem_fl TItem_fl_rep TItem_fl_num
attribute [local go_sem high] TItem_eql TItem_neq
attribute [local go_sem ↓] TBallot_ld0 TBallot_st0 TBallot_fd0 TBallot_bd0
attribute [local go_sem] TBallot_size TBallot_one TBallot_piece TBallot_c0 TBallot_c1 TBallot_set_round TBallot_set_rep TBallot_ld TBallot_st TBallot_f_round TBallot_f_rep TBallot_bd TBallot_fl TBallot_fl_round TBallot_fl_rep
attribute [local go_sem high] TBallot_eql TBallot_neq
attribute [local go_sem ↓] TMsg_ld0 TMsg_st0 TMsg_fd0 TMsg_bd0
attribute [local go_sem] TMsg_size TMsg_one TMsg_piece TMsg_c0 TMsg_c1 TMsg_c2 TMsg_c3 TMsg_c4 TMsg_c5 TMsg_c6 TMsg_c7 TMsg_c8 TMsg_c9 TMsg_c10 TMsg_c11 TMsg_c12 TMsg_c13 TMsg_c14 TMsg_c15 TMsg_c16 TMsg_c17 TMsg_c18 TMsg_c19 TMsg_c20 TMsg_c21 TMsg_c22 TMsg_c23 TMsg_c24 TMsg_set_kind TMsg_set_frm TMsg_set_to TMsg_p_item TMsg_put_item TMsg_p_bal TMsg_put_bal TMsg_p_vote TMsg_put_vote TMsg_set_status TMsg_set_same TMsg_p_call TMsg_put_call TMsg_ld TMsg_st TMsg_f_kind TMsg_f_frm TMsg_f_to TMsg_f_item TMsg_f_bal TMsg_f_vote TMsg_f_status TMsg_f_same TMsg_f_call TMsg_bd TMsg_fl TMsg_fl_kind TMsg_fl_frm TMsg_fl_to TMsg_fl_item TMsg_fl_bal TMsg_fl_vote TMsg_fl_status TMsg_fl_same TMsg_fl_call
attribute [local go_sem high] TMsg_eql TMsg_neq
attribute [local go_sem] KndV_size
theorem mailB_len {m : Msg} {N : Nat} (h : MsgIn m N) (hN : N ≤ 1000) : (mailB m).length ≤ 2000 := by
 have e1 := encs_le (three_in h.kind h.frm h.to)
 have e2 := encs_le (two_in h.rep h.num)
 have e3 := encs_le (two_in h.round h.brep)
 have e4 := encs_le (two_in h.vround h.vrep)
 have e5 := enc_len9 (n := m.status.toNat) (by have := h.status; unfold In64 at this; omega)
 have e9 := callB_len h.call (by omega)
 simp only [List.length_cons, List.length_nil] at e1 e2 e3 e4
 have : (if knownB m.kind then encs [m.vote.round, m.vote.rep] ++ enc m.status.toNat else []).length ≤ 27 := by split <;> simp <;> omega
 have : (if knownB m.kind || m.kind == 2 then bitB m.same else []).length ≤ 1 := by split <;> simp [bitB]
 have : (if callsB m.kind then callB m.call else []).length ≤ N + 126 := by
  split
  ·exact e9
  ·simp
 unfold mailB
 simp only [List.length_append]
 omega
theorem AnsK.at {t : TypeId} {f : FuncId} {args : Array Value} {v : Value} {w W : World} {F : Nat → Prop} {L : List Res} (h : AnsK f args v) (T : Sts w F W (kndR t :: L)) : Calls Tryz.prog f args W fun e W' => e = .returned v ∧ Sts w F W' (kndR t :: L) := (h W T.knd).mono fun _ _ ⟨he, hb⟩ => ⟨he, T.pure hb⟩
noncomputable def bytesM (m : Msg) (n : Int) : List UInt8 × Int := if goodM m n = true ∧ n ≤ 7 then (sealS (mailB m), 0) else ([], 1)
theorem goodM_kind {m : Msg} {n : Int} (h : goodM m n = true) : 1 ≤ m.kind ∧ m.kind ≤ 8 ∧ 0 ≤ m.frm ∧ m.frm < n ∧ 0 ≤ m.to ∧ m.to < n := by
 unfold goodM at h
 simp only [Bool.and_eq_true, decide_eq_true_eq] at h
 exact h.1.1.1.1.1.1
set_option maxHeartbeats 1000000 in
theorem mailBytesD (t : TypeId) (m : Msg) (n : Int) (N : Nat) (h : MsgIn m N) (hN : N ≤ 1000) :
  Does Tryz.prog 51 #[.agg (MV m), .int .i64 n] [kndR t] (.tuple #[.string (strL (bytesM m n).1), .int .i64 (bytesM m n).2]) [kndR t] := by
 intro W G hS
 have T := ((Sts.start hS).new (MV m) 136).swap
 clear hS
 have cg := mailGood_any m n
 have hb : bytesM m n = if goodM m n = true ∧ n ≤ 7 then (sealS (mailB m), 0) else ([], 1) := rfl
 have hr := T.row1
 cases hg : goodM m n
 ·rw [hg] at cg hb
  have CG := Lib.hid cg; clear cg
  rw [if_neg (by simp)] at hb
  have HB := Lib.hid hb; clear hb
  clear hg h
  go_enter Tryz.func51, Tryz.ntmps51
  go_wp2_with fail
  refine (AnsK.at CG.out T).mono ?_; clear T hr; rintro e w1 ⟨rfl, T⟩
  go_wp2
  go_ret2
  exact ⟨by rw [HB.out]; rfl, T.swap.drop⟩
 ·have hk := goodM_kind hg
  rw [hg] at cg hb
  have CG := Lib.hid cg; clear cg hg
  by_cases h7 : n ≤ 7
  ·rw [if_pos ⟨rfl, h7⟩] at hb
   have HB := Lib.hid hb; clear hb
   have hlen := mailB_len h hN
   have CS := Lib.hid (seal_any (mailB m) (by omega))
   have CP := Lib.hid (fun g => mailPutD t g [] m N h hN (by omega) (by simp))
   clear hlen hk h
   go_enter Tryz.func51, Tryz.ntmps51
   go_wp2_with fail
   refine (AnsK.at CG.out T).mono ?_; clear T hr; rintro e w1 ⟨rfl, T⟩
   have T := sinkNew T
   have hr := T.row2
   have hlt := row_lt hr
   go_wp2_with fail
   refine (Does.at2 (CP.out w1.heap.size) T).mono ?_; clear T hr hlt; rintro e w2 ⟨rfl, T⟩
   rw [List.nil_append] at T
   go_wp2_with fail
   refine (Does.at1 (sinkBytesD w1.heap.size _) T).mono ?_; clear T; rintro e w3 ⟨rfl, T⟩
   go_wp2_with fail
   refine (Ans.at CS.out T).mono ?_; clear T; rintro e w4 ⟨rfl, T⟩
   go_wp2
   go_ret2
   exact ⟨by rw [HB.out]; rfl, T.drop.swap.drop⟩
  ·rw [if_neg (by simp [h7])] at hb
   have HB := Lib.hid hb; clear hb h hk
   go_enter Tryz.func51, Tryz.ntmps51
   go_wp2_with fail
   refine (AnsK.at CG.out T).mono ?_; clear T hr; rintro e w1 ⟨rfl, T⟩
   go_wp2
   go_ret2
   exact ⟨by rw [HB.out]; rfl, T.swap.drop⟩
end Go.Proofs.YtomlilkobhkoiaaGreatDoor
/- Layer 22: what a replica sends: to itself at once, the others go out. -/
namespace Go.Proofs.YtomlilkobhkoiaaGreatDoor
open Go.RowKit Go.Shelf
set_option linter.unusedVariables false
set_option maxRecDepth 20000
attribute [local go_sem] Oper.semAt_some
attribute [local go_sem] row_alloc row_drew row_drewN row_ext row_setCell row_setRow size_ext setRow_alloc setRow_drew loadOf storeOf piece_lit loadVal_at storeVal_at allOne_lit buildOf buildRes_some
attribute [local go_sem high] cell_alloc frozen_alloc setCell_alloc cell_ext frozen_ext cell_setRow frozen_setRow
attribute [local go_sem ↓] TItem_ld0 TItem_st0 TItem_fd0 TItem_bd0
attribute [local go_sem] TItem_size TItem_one TItem_piece TItem_c0 TItem_c1 TItem_set_rep TItem_set_num TItem_ld TItem_st TItem_f_rep TItem_f_num TItem_bd TItem_fl TItem_fl_rep TItem_fl_num
attribute [local go_sem high] TItem_eql TItem_neq
attribute [local go_sem ↓] TBallot_ld0 TBallot_st0 TBallot_fd0 TBallot_bd0
attribute [local go_sem] TBallot_size TBallot_one TBallot_piece TBallot_c0 TBallot_c1 TBallot_set_round TBallot_set_rep TBallot_ld TBallot_st TBallot_f_round TBallot_f_rep TBallot_bd TBallot_fl TBallot_fl_round TBallot_fl_rep
attribute [local go_sem high] TBallot_eql TBallot_neq
attribute [local go_sem ↓] TCall_ld0 TCall_st0 TCall_fd0 TCall_bd0
attribute [local go_sem] TCall_size TCall_one TCall_piece TCall_c0 TCall_c1 TCall_c2 TCall_c3 TCall_c4 TCall_c5 TCall_c6 TCall_c7 TCall_c8 TCall_c9 TCall_c10 TCall_c11 TCall_c12 TCall_c13 TCall_p_deed TCall_put_deed TCall_p_deps TCall_put_deps TCall_set_seq TCall_ld TCall_st TCall_f_deed TCall_f_deps TCall_f_seq TCall_bd TCall_fl TCall_fl_deed TCall_fl_deps TCall_fl_seq
attribute [local go_sem high] TCall_eql TCall_neq
attribute [local go_sem ↓] TDeed_ld0 TDeed_st0 TDeed_fd0 TDeed_bd0
attribute [local go_sem] TDeed_size TDeed_one TDeed_piece TDeed_c0 TDeed_c1 TDeed_c2 TDeed_c3 TDeed_c4 TDeed_c5 TDeed_set_kind TDeed_set_key TDeed_set_val TDeed_set_ver TDeed_set_ses TDeed_set_num TDeed_ld TDeed_st TDeed_f_kind TDeed_f_key TDeed_f_val TDeed_f_ver TDeed_f_ses TDeed_f_num TDeed_bd TDeed_fl TDeed_fl_kind TDeed_fl_key TDeed_fl_val TDeed_fl_ver TDeed_fl_ses TDeed_fl_num
attribute [local go_sem high] TDeed_eql TDeed_neq
attribute [local go_sem ↓] index_deps0 load_deps0 store_deps0
attribute [local go_sem] DV_piece DV_size DV_one index_deps load_deps store_deps
attribute [local go_sem high] TDeps_eql TDeps_neq
attribute [local go_sem ↓] TMsg_ld0 TMsg_st0 TMsg_fd0 TMsg_bd0
attribute [local go_sem] TMsg_size TMsg_one TMsg_piece TMsg_c0 TMsg_c1 TMsg_c2 TMsg_c3 TMsg_c4 TMsg_c5 TMsg_c6 TMsg_c7 TMsg_c8 TMsg_c9 TMsg_c10 TMsg_c11 TMsg_c12 TMsg_c13 TMsg_c14 TMsg_c15 TMsg_c16 TMsg_c17 TMsg_c18 TMsg_c19 TMsg_c20 TMsg_c21 TMsg_c22 TMsg_c23 TMsg_c24 TMsg_set_kind TMsg_set_frm TMsg_set_to TMsg_p_item TMsg_put_item TMsg_p_bal TMsg_put_bal TMsg_p_vote TMsg_put_vote TMsg_set_status TMsg_set_same TMsg_p_call TMsg_put_call TMsg_ld TMsg_st TMsg_f_kind TMsg_f_frm TMsg_f_to TMsg_f_item TMsg_f_bal TMsg_f_vote TMsg_f_status TMsg_f_same TMsg_f_call TMsg_bd TMsg_fl TMsg_fl_kind TMsg_fl_frm TMsg_fl_to TMsg_fl_item TMsg_fl_bal TMsg_fl_vote TMsg_fl_status TMsg_fl_same TMsg_fl_call
attribute [local go_sem high] TMsg_eql TMsg_neq
attribute [local go_sem ↓] TLetter_ld0 TLetter_st0 TLetter_fd0 TLetter_bd0
attribute [local go_sem] TLetter_size TLetter_one TLetter_piece TLetter_c0 TLetter_c1 TLetter_c2 TLetter_set_frm TLetter_set_to TLetter_set_bytes TLetter_ld TLetter_st TLetter_f_frm TLetter_f_to TLetter_f_bytes TLetter_bd TLetter_fl TLetter_fl_frm TLetter_fl_to TLetter_fl_bytes
attribute [local go_sem high] TLetter_eql TLetter_neq
attribute [local go_sem ↓] mes_slice0 ltr_slice0
attribute [local go_sem] mes_slice1 ltr_slice1
/-- The inbox, when i messages of a list have been seen, the one at k being its own. -/
def qR (k i : Nat) (inb : Value) (m : Msg) : Res := if i ≤ k then emptR 25 inb else oneR 25 inb (MV m)
theorem qR_next {k i : Nat} (h : i ≠ k) (inb : Value) (m : Msg) : qR k (i + 1) inb m = qR k i inb m := by
 unfold qR
 by_cases h1 : i ≤ k
 ·rw [if_pos h1, if_pos (by omega)]
 ·rw [if_neg h1, if_neg (by omega)]
section
variable {w W : World} {F : Nat → Prop} {R : List Res} {g gg : Nat} {q : RpB} {n self : Int} {inb out v : Value} {ls : List Letter} {t : TypeId}
set_option maxHeartbeats 16000000 in
theorem rpSendT (hn7 : n ≤ 7) (pre post : List Msg) (m : Msg) (hto : m.to = self) (hpp : ∀ y ∈ pre ++ post, y.to ≠ self ∧ goodM y n = true ∧ MsgIn y 1000) (hlen : (pre ++ m :: post).length ≤ 7) (hls : ls.length ≤ 1000)
  (T : Sts w F W (rowR g (rpV q n self inb out) :: emptR 25 inb :: vecR 148 3 out ls.length (vl LTV ls) :: vecR 136 25 v (pre ++ m :: post).length (vl MV (pre ++ m :: post)) :: kndR t :: R)) :
  Calls Tryz.prog 25 #[.pointer (some ⟨g, 0, none⟩), v] W fun e W' => ∃ inb' out' ls', e = .returned (.tuple #[]) ∧ ls'.length + 1 = ls.length + (pre ++ m :: post).length ∧ Sts w F W' (rowR g (rpV q n self inb' out') :: oneR 25 inb' (MV m) :: vecR 148 3 out' ls'.length (vl LTV ls') :: kndR t :: R) := by
 obtain ⟨L, hL⟩ : ∃ L, L = pre ++ m :: post := ⟨_, rfl⟩
 have hother : ∀ i y, L[i]? = some y → i ≠ pre.length → y.to ≠ self ∧ goodM y n = true ∧ MsgIn y 1000 := by
  intro i y hy hi
  refine hpp y ?_
  rw [hL] at hy
  rcases Nat.lt_or_gt_of_ne hi with h | h
  ·rw [List.getElem?_append_left h] at hy
   exact List.mem_append.2 (.inl (List.mem_of_getElem? hy))
  ·rw [List.getElem?_append_right (by omega)] at hy
   obtain ⟨d, hd⟩ : ∃ d, i - pre.length = d + 1 := ⟨i - pre.length - 1, by omega⟩
   rw [hd, List.getElem?_cons_succ] at hy
   exact List.mem_append.2 (.inr (List.mem_of_getElem? hy))
 have hown : L[pre.length]? = some m := by rw [hL, List.getElem?_append_right (by omega)]; simp
 have hk : pre.length < L.length := (List.getElem?_eq_some_iff.1 hown).1
 rw [← hL] at T hlen ⊢
 clear hL hpp
 generalize pre.length = k at *
 clear pre post
 obtain ⟨A, c, rfl, hc⟩ := vec_form (T.ord [3, 0, 1, 2])
 obtain ⟨N, hN⟩ : ∃ N, N = L.length := ⟨_, rfl⟩
 rw [← hN] at T hlen hk ⊢
 have HN := Lib.hid hN; have HO := Lib.hid hother; have HW := Lib.hid hown; have HT := Lib.hid T; have HTO := Lib.hid hto
 clear hN hother hown T hc hto
 go_enter Tryz.func25, Tryz.ntmps25
 go_wp2_with fail
 go_loopw [10] (fun u10 wr => ∃ (i : Nat) (inb' out' : Value) (ls' : List Letter), u10 = .int .i64 i ∧ i ≤ N ∧ ls'.length + (if i ≤ k then 0 else 1) = ls.length + i ∧ Sts w F wr (rowR g (rpV q n self inb' out') :: qR k i inb' m :: vecR 148 3 out' ls'.length (vl LTV ls') :: vecR 136 25 (.slice A N c) N (vl MV L) :: kndR t :: R)) (fun u10 _ => N - (intOf u10).toNat)
 case atStart => exact ⟨0, inb, out, ls, rfl, by omega, by simp, HT.out⟩
 case round =>
  clear HT
  obtain ⟨i, inb', out', ls', rfl, hi, hll, T⟩ := hrel
  by_cases hin : i < N
  ·have hi1 : (i : Int) < (N : Int) := by omega
   have hi0 : (0 : Int) ≤ (i : Int) := by omega
   obtain ⟨y, hy⟩ : ∃ y, L[i]? = some y := ⟨L[i]'(by rw [← HN.out]; exact hin), List.getElem?_eq_getElem _⟩
   obtain ⟨g5, rfl, hld⟩ := vec_get (P := Tryz.prog) (e := 136) TMsg_size (by omega) TMsg_und rfl (by kernel_rfl) (T.ord [3, 0, 1, 2]) HN.out hy (by omega)
   have T1 : Sts w F (wr.alloc (.cells (MV y) 136)) (rowR wr.heap.size (MV y) :: rowR g (rpV q n self inb' out') :: qR k i inb' m :: vecR 148 3 out' ls'.length (vl LTV ls') :: vecR 136 25 (.slice (some ⟨g5, 0, none⟩) N c) N (vl MV L) :: kndR t :: R) := T.new (MV y) 136
   have ry := T1.row; have ly := row_lt ry
   have rg := T1.row1; have lg := row_lt rg; have cg := row_cell rg 1
   have HT := Lib.hid T1; have HLD := Lib.hid hld; clear T T1 hld
   by_cases hik : i = k
   ·have hym : y = m := by have h := HW.out; rw [← hik, hy] at h; injection h
    clear hy
    have HIK := Lib.hid hik; clear hik
    subst hym
    have cy : (wr.alloc (.cells (MV y) 136)).cell? ⟨wr.heap.size, 2, none⟩ = some (.int .i64 self) := by rw [row_cell ry 2, ← HTO.out]; rfl
    have hld : loadVal Tryz.prog 136 25 wr (.pointer (some ⟨g5, i * 25, none⟩)) = .ok (.agg (MV y)) wr := HLD.out
    go_wp2_with fail
    go_quiet (fail)
    have HT2 := Lib.hid (HT.out.drewN nq).drew
    clear ry ly cy rg lg cg HT hld HLD
    generalize (wr.alloc (.cells (MV y) 136)).drewN nq = w2 at *
    generalize wr.heap.size = gx at *
    go_upto_region 4 with fail
    obtain ⟨i0, hi', hz0, hz1, hz2⟩ := mes_i
    have FS : ∀ W' R', Sts w F W' (rowR gx (MV y) :: rowR g (rpV q n self inb' out') :: R') → (W'.cell? ⟨g, 11, none⟩ = some inb' ∧ row? W' gx = some (MV y)) := fun W' R' T' => ⟨row_cell T'.row1 11, T'.row⟩
    have S0 := FS _ _ HT2.out
    have HFS := Lib.hid FS; clear FS
    have HM : Hid (∀ W' : World, (W'.cell? ⟨g, 11, none⟩ = some inb' ∧ row? W' gx = some (MV y)) → True) := Lib.hid fun _ _ => trivial
    refine wp_region_stage (fun W' => W'.cell? ⟨g, 11, none⟩ = some inb' ∧ row? W' gx = some (MV y)) (fun W' => True) 10 (by kernel_rfl) S0 (fun hHeld => ?_)
    clear S0
    generalize w2.drew = w3 at *
    refine tk0 0 rfl ?_
    simp only [Act.put, List.setIfInBounds_toArray, List.set_cons_zero, List.set_cons_succ]
    refine tk0 1 rfl ?_
    go_frame
    refine tk0 2 rfl ?_
    go_frame
    refine tk0 3 rfl ?_
    go_frame
    refine tk0 4 rfl ?_
    go_frame
    refine tk0 5 rfl ?_
    go_frame
    refine wpAnyL_ready (rs := [6]) (by kernel_rfl) (by simp) ?_
    refine AllReadyL.cons0 (o := _) rfl (by kernel_rfl) (fun K hK => ?_) AllReadyL.nil
    have HT3 := Lib.hid (HT2.out.new (MV y) 136); clear HT2
    go_simp
    refine hK.out _ _ (HFS.out _ _ HT3.out.drop) (fun hHeld => ?_)
    clear hK K
    refine wpAnyL_ready (rs := [7]) (by kernel_rfl) (by simp) ?_
    refine AllReadyL.cons0 (o := _) rfl (by kernel_rfl) (fun K hK => ?_) AllReadyL.nil
    have Tb : Sts w F (w3.alloc (.cells (MV y) 136)) (emptR 25 inb' :: rowR w3.heap.size (MV y) :: rowR gx (MV y) :: rowR g (rpV q n self inb' out') :: vecR 148 3 out' ls'.length (vl LTV ls') :: vecR 136 25 (.slice (some ⟨g5, 0, none⟩) N c) N (vl MV L) :: kndR t :: R) := by
     have h := HT3.out.ord [3, 0, 1, 2]
     unfold qR at h
     rw [if_pos (by have := HIK.out; omega)] at h
     exact h
    clear HT3
    refine step_append_empt (by rfl) _ _ _ (by rfl) 136 i0 _ 25 216 Tryz.underlying57 hi' hz0 hz1 hz2 rfl (by omega) inb' (by rfl) Tb ⟨w3.heap.size, 0, none⟩ 1 (MV y) (by rfl) rfl (news_at Tb.row1) (mes_one _) (by omega) ?_
    intro g6 o6 c6 w4 T4
    have T5 : Sts w F w4 (rowR gx (MV y) :: rowR g (rpV q n self inb' out') :: oneR 25 (.slice (some ⟨g6, o6, none⟩) 1 c6) (MV y) :: rowR w3.heap.size (MV y) :: vecR 148 3 out' ls'.length (vl LTV ls') :: vecR 136 25 (.slice (some ⟨g5, 0, none⟩) N c) N (vl MV L) :: kndR t :: R) := T4.ord [2, 3, 0, 1]
    clear Tb T4
    refine hK.out _ _ (HFS.out _ _ T5) (fun hHeld => ?_)
    clear hK K HFS
    have HT5 := Lib.hid T5.drop; clear T5
    refine tk1 8 HM.out rfl ?_
    simp only [Act.put, List.getElem_toArray, List.getElem_cons_succ, List.getElem_cons_zero, List.setIfInBounds_toArray, List.set_cons_zero, List.set_cons_succ]
    refine tk0 9 rfl ?_
    simp only [Act.put, List.setIfInBounds_toArray, List.set_cons_zero, List.set_cons_succ]
    have rg := HT5.out.row; have lg := row_lt rg; have cg := row_cell rg 11; have fg := row_frozen rg 11
    have HT6 := Lib.hid (HT5.out.setCell 11 (.slice (some ⟨g6, o6, none⟩) 1 c6)); clear HT5
    refine wpAnyL_ready (rs := [10]) (by kernel_rfl) (by simp) ?_
    refine AllReadyL.cons1 (o := _) rfl (by kernel_rfl) (fun K hK => ?_) AllReadyL.nil
    go_simp
    refine hK.out _ _ trivial (fun hHeld => ?_)
    clear hK K rg lg cg fg
    refine wpAnyL_done (by kernel_rfl) ?_ _
    try simp only [Exit.then]
    go_wp2
    go_roundw
    case rel =>
     refine ⟨i + 1, .slice (some ⟨g6, o6, none⟩) 1 c6, out', ls', by go_num, by omega, ?_, ?_⟩
     ·have := HIK.out
      rw [if_neg (by omega)]
      rw [if_pos (by omega)] at hll
      omega
     ·unfold qR
      rw [if_neg (by have := HIK.out; omega)]
      have h := (HT6.out.ord [2, 0, 1]).drop
      exact h
    case measure => simp [intOf]; omega
   ·obtain ⟨hne, hgd, hmi⟩ := HO.out i y hy hik
    have heq : (y.to == self) = false := by simpa using hne
    have cy := row_cell ry 2
    have hld : loadVal Tryz.prog 136 25 wr (.pointer (some ⟨g5, i * 25, none⟩)) = .ok (.agg (MV y)) wr := HLD.out
    clear hy hne
    go_wp2_with fail
    go_quiet (fail)
    have HT2 := Lib.hid (HT.out.drewN nq).drew
    clear ry ly cy rg lg cg HT hld HLD
    generalize (wr.alloc (.cells (MV y) 136)).drewN nq = w2 at *
    generalize wr.heap.size = gx at *
    go_upto_region 5 with fail
    have FS : ∀ W' R', Sts w F W' (rowR gx (MV y) :: rowR g (rpV q n self inb' out') :: R') → (W'.cell? ⟨g, 0, none⟩ = some (.int .i64 n) ∧ row? W' gx = some (MV y)) := fun W' R' T' => ⟨row_cell T'.row1 0, T'.row⟩
    have S0 := FS _ _ HT2.out
    have HFS := Lib.hid FS; clear FS
    have hb := mailBytesD t y n 1000 hmi (by omega)
    have hbm : bytesM y n = (sealS (mailB y), 0) := by unfold bytesM; rw [if_pos ⟨hgd, hn7⟩]
    rw [hbm] at hb
    generalize strL (sealS (mailB y)) = sb at *
    have HB := Lib.hid hb; clear hb hbm hgd hmi
    refine wp_region_held_drew (S := fun W' => W'.cell? ⟨g, 0, none⟩ = some (.int .i64 n) ∧ row? W' gx = some (MV y)) (by kernel_rfl) S0 (fun hHeld => ?_)
    clear S0
    generalize w2.drew = w3 at *
    refine tkH 0 rfl ?_
    simp only [Act.put, List.setIfInBounds_toArray, List.set_cons_zero, List.set_cons_succ]
    refine tkH 1 rfl ?_
    go_frame
    refine tkH 2 rfl ?_
    go_frame
    refine tkH 3 rfl ?_
    go_frame
    refine tkH 4 rfl ?_
    go_frame
    refine wpAnyH_ready (rs := [5]) (by kernel_rfl) (by simp) ?_
    refine AllReadyH.cons (o := _) rfl (fun K hK => ?_) AllReadyH.nil
    go_simp
    refine (Does.at1 HB.out (HT2.out.ord [5, 0, 1, 2, 3, 4])).mono ?_
    clear HB HT2
    rintro e5 w4 ⟨rfl, T⟩
    have HT := Lib.hid (T.ord [1, 2, 3, 4, 5, 0]); clear T
    refine hK.out _ _ (HFS.out _ _ HT.out) (fun hHeld => ?_)
    clear hK K
    refine tkH 6 rfl ?_
    simp only [Act.put, List.setIfInBounds_toArray, List.set_cons_zero, List.set_cons_succ]
    refine tkH 7 rfl ?_
    go_frame
    refine tkH 8 rfl ?_
    go_frame
    refine tkH 9 rfl ?_
    go_frame
    refine tkH 10 rfl ?_
    go_frame
    refine wpAnyH_done (by kernel_rfl) ?_ _
    try simp only [Exit.then]
    clear hHeld HFS
    go_upto_region 7 with fail
    obtain ⟨i0, hi', hz0, hz1, hz2⟩ := ltr_i
    have FS : ∀ W' R', Sts w F W' (rowR gx (MV y) :: rowR g (rpV q n self inb' out') :: R') → (W'.cell? ⟨g, 12, none⟩ = some out' ∧ W'.cell? ⟨g, 1, none⟩ = some (.int .i64 self) ∧ W'.cell? ⟨gx, 2, none⟩ = some (.int .i64 y.to)) := fun W' R' T' => ⟨row_cell T'.row1 12, row_cell T'.row1 1, row_cell T'.row 2⟩
    have HT2 := Lib.hid HT.out.drew; clear HT
    have S0 := FS _ _ HT2.out
    have HFS := Lib.hid FS; clear FS
    have HM : Hid (∀ W' : World, (W'.cell? ⟨g, 12, none⟩ = some out' ∧ W'.cell? ⟨g, 1, none⟩ = some (.int .i64 self) ∧ W'.cell? ⟨gx, 2, none⟩ = some (.int .i64 y.to)) → True) := Lib.hid fun _ _ => trivial
    refine wp_region_stage (fun W' => W'.cell? ⟨g, 12, none⟩ = some out' ∧ W'.cell? ⟨g, 1, none⟩ = some (.int .i64 self) ∧ W'.cell? ⟨gx, 2, none⟩ = some (.int .i64 y.to)) (fun W' => True) 17 (by kernel_rfl) S0 (fun hHeld => ?_)
    clear S0
    generalize w4.drew = w5 at *
    refine tk0 0 rfl ?_
    simp only [Act.put, List.setIfInBounds_toArray, List.set_cons_zero, List.set_cons_succ]
    refine tk0 1 rfl ?_
    go_frame
    refine tk0 2 rfl ?_
    go_frame
    refine tk0 3 rfl ?_
    go_frame
    refine tk0 4 rfl ?_
    go_frame
    refine tk0 5 rfl ?_
    go_frame
    refine tk0 6 rfl ?_
    go_frame
    refine tk0 7 rfl ?_
    go_frame
    refine tk0 8 rfl ?_
    go_frame
    refine tk0 9 rfl ?_
    go_frame
    refine tk0 10 rfl ?_
    go_frame
    refine tk0 11 rfl ?_
    go_frame
    refine tk0 12 rfl ?_
    go_frame
    refine wpAnyL_ready (rs := [13]) (by kernel_rfl) (by simp) ?_
    refine AllReadyL.cons0 (o := _) rfl (by kernel_rfl) (fun K hK => ?_) AllReadyL.nil
    have HT3 := Lib.hid (HT2.out.new (LTV ⟨self, y.to, sb⟩) 148); clear HT2
    go_simp
    refine hK.out _ _ (HFS.out _ _ HT3.out.drop) (fun hHeld => ?_)
    clear hK K
    refine wpAnyL_ready (rs := [14]) (by kernel_rfl) (by simp) ?_
    refine AllReadyL.cons0 (o := _) rfl (by kernel_rfl) (fun K hK => ?_) AllReadyL.nil
    have Tb := HT3.out.ord [4, 0, 1, 2, 3]
    clear HT3
    have hlb : ls'.length ≤ 1007 := by
     split at hll <;> omega
    refine step_append_vec (by rfl) _ _ _ (by rfl) 148 i0 _ 3 32 Tryz.underlying41 hi' hz0 hz1 hz2 rfl (by omega) out' ls'.length (vl LTV ls') (by rfl) Tb ⟨w5.heap.size, 0, none⟩ 1 1 (LTV ⟨self, y.to, sb⟩).toList (by rfl) (by rfl) (news_at Tb.row1) (ltr_one _) (by omega) (by unfold maxLen; omega) (by omega) ?_
    intro g6 c6 w6 T4
    have T5 : Sts w F w6 (rowR gx (MV y) :: rowR g (rpV q n self inb' out') :: qR k i inb' m :: vecR 148 3 (.slice (some ⟨g6, 0, none⟩) (ls'.length + 1) c6) (ls'.length + 1) (vl LTV ls' ++ (LTV ⟨self, y.to, sb⟩).toList) :: vecR 136 25 (.slice (some ⟨g5, 0, none⟩) N c) N (vl MV L) :: kndR t :: R) := (T4.ord [1, 2, 3, 4, 0, 5]).drop
    clear Tb T4
    refine hK.out _ _ (HFS.out _ _ T5) (fun hHeld => ?_)
    clear hK K HFS
    have HT5 := Lib.hid T5.drop; clear T5
    refine tk1 15 HM.out rfl ?_
    simp only [Act.put, List.getElem_toArray, List.getElem_cons_succ, List.getElem_cons_zero, List.setIfInBounds_toArray, List.set_cons_zero, List.set_cons_succ]
    refine tk0 16 rfl ?_
    simp only [Act.put, List.setIfInBounds_toArray, List.set_cons_zero, List.set_cons_succ]
    have rg := HT5.out.row; have lg := row_lt rg; have cg := row_cell rg 12; have fg := row_frozen rg 12
    have HT6 := Lib.hid (HT5.out.setCell 12 (.slice (some ⟨g6, 0, none⟩) (ls'.length + 1) c6)); clear HT5
    refine wpAnyL_ready (rs := [17]) (by kernel_rfl) (by simp) ?_
    refine AllReadyL.cons1 (o := _) rfl (by kernel_rfl) (fun K hK => ?_) AllReadyL.nil
    go_simp
    refine hK.out _ _ trivial (fun hHeld => ?_)
    clear hK K rg lg cg fg
    refine wpAnyL_done (by kernel_rfl) ?_ _
    try simp only [Exit.then]
    go_wp2
    go_roundw
    case rel =>
     refine ⟨i + 1, inb', .slice (some ⟨g6, 0, none⟩) (ls'.length + 1) c6, ls' ++ [⟨self, y.to, sb⟩], by go_num, by omega, ?_, ?_⟩
     ·rw [List.length_append, List.length_singleton]
      by_cases h1 : i ≤ k
      ·rw [if_pos h1] at hll; rw [if_pos (by omega)]; omega
      ·rw [if_neg h1] at hll; rw [if_neg (by omega)]; omega
     ·rw [qR_next hik, vl_snoc, List.length_append]
      exact HT6.out
    case measure => simp [intOf]; omega
  ·have hi1 : ¬ (i : Int) < (N : Int) := by omega
   have HT := Lib.hid T; clear T
   go_wp2
   go_end0
   refine ⟨rfl, inb', out', ls', ?_, ?_⟩
   ·rw [if_neg (by omega)] at hll
    omega
   ·have h := HT.out
    unfold qR at h
    rw [if_neg (by omega)] at h
    exact (h.ord [3, 0, 1, 2]).drop
end
end Go.Proofs.YtomlilkobhkoiaaGreatDoor
/- Layer 22: one message, which a replica sends to itself. -/
namespace Go.Proofs.YtomlilkobhkoiaaGreatDoor
open Go.RowKit Go.Shelf
set_option linter.unusedVariables false
section
variable {w W : World} {F : Nat → Prop} {R : List Res} {g : Nat} {q : RpB} {n self : Int} {inb out v : Value} {ls : List Letter} {t : TypeId}
theorem vl_just {α : Type} (V : α → Array Value) (a : α) : vl V [a] = (V a).toList := by
 have := vl_snoc V [] a
 simpa [vl_nil] using this
theorem rpSend1T (hn7 : n ≤ 7) (m : Msg) (hto : m.to = self) (hls : ls.length ≤ 1000)
  (T : Sts w F W (rowR g (rpV q n self inb out) :: emptR 25 inb :: vecR 148 3 out ls.length (vl LTV ls) :: vecR 136 25 v 1 (MV m).toList :: kndR t :: R)) :
  Calls Tryz.prog 25 #[.pointer (some ⟨g, 0, none⟩), v] W fun e W' => ∃ inb' out' ls', e = .returned (.tuple #[]) ∧ ls'.length = ls.length ∧ Sts w F W' (rowR g (rpV q n self inb' out') :: oneR 25 inb' (MV m) :: vecR 148 3 out' ls'.length (vl LTV ls') :: kndR t :: R) := by
 rw [← vl_just MV m] at T
 have h := rpSendT (n := n) (self := self) (q := q) (g := g) (inb := inb) (out := out) (v := v) (ls := ls) (t := t) (R := R) hn7 [] [] m hto (fun y hy => by simp at hy) (by simp) hls T
 refine h.mono ?_
 rintro e W' ⟨inb', out', ls', h1, h2, h3⟩
 exact ⟨inb', out', ls', h1, by simp at h2; exact h2, h3⟩
end
end Go.Proofs.YtomlilkobhkoiaaGreatDoor
/- Layer 12, plain: the items that a replica begins. No walk stands here. -/
namespace Go.Proofs.YtomlilkobhkoiaaGreatDoor
open Go.RowKit
set_option linter.unusedVariables false
theorem add_easy {D : List UInt8} {safe : Nat} {m : RowsM} {x : Item} {i : Inst} (hx : goodI x m.n = true) (hi : goodN i m.n = true) (hn : m.n ≤ 7) (hD : D.length + 310 ≤ 32768) :
  addM D safe m x i = (D ++ recOf (x, i), safe, setM m x i, 0) ∧ (recOf (x, i)).length ≤ 310 := by
 have hl : (recOf (x, i)).length ≤ 310 := recOf_len (goodI_in hx hn).1 (goodI_in hx hn).2 (goodN_in hi hn)
 have ht : tightP D safe m (recOf (x, i)).length = (D, safe, 0) := by unfold tightP; rw [if_neg (by omega)]
 refine ⟨?_, hl⟩
 unfold addM
 rw [if_pos ⟨hx, hi⟩, ht, if_pos rfl, if_pos (by dsimp only; omega)]
theorem top_next {m : RowsM} {rep : Int} (i : Inst) (h0 : 0 ≤ rep) (h1 : rep < m.n) (ht : topM m rep + 1 ≤ 64) :
  goodI ⟨rep, topM m rep + 1⟩ m.n = true ∧ topM (setM m ⟨rep, topM m rep + 1⟩ i) rep = topM m rep + 1 := by
 have htp : topM m rep = (m.f rep.toNat).length := by unfold topM; rw [if_pos ⟨h0, h1⟩]
 have hg : goodI ⟨rep, topM m rep + 1⟩ m.n = true := by
  unfold goodI
  rw [decide_eq_true_iff]
  simp only
  omega
 refine ⟨hg, ?_⟩
 rw [htp] at hg ⊢
 have hn : (setM m ⟨rep, ((m.f rep.toNat).length : Int) + 1⟩ i).n = m.n := setM_n _ _ _
 show (if 0 ≤ rep ∧ rep < (setM m ⟨rep, ((m.f rep.toNat).length : Int) + 1⟩ i).n then (((setM m ⟨rep, ((m.f rep.toNat).length : Int) + 1⟩ i).f rep.toNat).length : Int) else 0) = _
 rw [hn, if_pos ⟨h0, h1⟩]
 unfold setM
 rw [if_pos hg]
 simp only [updF_same, putL_len]
 omega
end Go.Proofs.YtomlilkobhkoiaaGreatDoor
