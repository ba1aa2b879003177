/- Several texts in one. -/
import Derived.Test.YtahajjfbkdocaaaDoorZ24
import Derived.Test.YtahajjfbkdocaaaDoorZ26
import Derived.Test.YtahajjfbkdocaaaDoorZ8
/- Layer 7: the laws of bytes and of reading, walked. -/
namespace Go.Proofs.YtahajjfbkdocaaaDoor
open Go.RowKit
set_option linter.unusedVariables false
attribute [local go_sem] row_alloc row_drew row_drewN row_ext row_setCell row_setRow size_ext setRow_alloc setRow_drew loadOf storeOf piece_lit loadVal_at storeVal_at allOne_lit buildOf buildRes_some
attribute [local go_sem high] cell_alloc frozen_alloc setCell_alloc cell_ext frozen_ext cell_setRow frozen_setRow
attribute [local go_sem ↓] TDeed_ld0 TDeed_st0 TDeed_fd0 TDeed_bd0
attribute [local go_sem] TDeed_size TDeed_one TDeed_piece TDeed_c0 TDeed_c1 TDeed_c2 TDeed_c3 TDeed_c4 TDeed_c5 TDeed_set_kind TDeed_set_key TDeed_set_val TDeed_set_ver TDeed_set_ses TDeed_set_num TDeed_ld TDeed_st TDeed_f_kind TDeed_f_key TDeed_f_val TDeed_f_ver TDeed_f_ses TDeed_f_num TDeed_bd TDeed_fl TDeed_fl_kind TDeed_fl_key TDeed_fl_val TDeed_fl_ver TDeed_fl_ses TDeed_fl_num
attribute [local go_sem high] TDeed_eql TDeed_neq
attribute [local go_sem ↓] index_deps0 load_deps0 store_deps0
attribute [local go_sem] DV_piece DV_size DV_one index_deps load_deps store_deps
attribute [local go_sem high] TDeps_eql TDeps_neq
attribute [local go_sem ↓] TCall_ld0 TCall_st0 TCall_fd0 TCall_bd0
attribute [local go_sem] TCall_size TCall_one TCall_piece TCall_c0 TCall_c1 TCall_c2 TCall_c3 TCall_c4 TCall_c5 TCall_c6 TCall_c7 TCall_c8 TCall_c9 TCall_c10 TCall_c11 TCall_c12 TCall_c13 TCall_p_deed TCall_put_deed TCall_p_deps TCall_put_deps TCall_set_seq TCall_ld TCall_st TCall_f_deed TCall_f_deps TCall_f_seq TCall_bd TCall_fl TCall_fl_deed TCall_fl_deps TCall_fl_seq
attribute [local go_sem high] TCall_eql TCall_neq
attribute [local go_sem ↓] TItem_ld0 TItem_st0 TItem_fd0 TItem_bd0
attribute [local go_sem] TItem_size TItem_one TItem_piece TItem_c0 TItem_c1 TItem_set_rep TItem_set_num TItem_ld TItem_st TItem_f_rep TItem_f_num TItem_bd TItem_fl TItem_fl_rep TItem_fl_num
attribute [local go_sem high] TItem_eql TItem_neq
attribute [local go_sem ↓] TBallot_ld0 TBallot_st0 TBallot_fd0 TBallot_bd0
attribute [local go_sem] TBallot_size TBallot_one TBallot_piece TBallot_c0 TBallot_c1 TBallot_set_round TBallot_set_rep TBallot_ld TBallot_st TBallot_f_round TBallot_f_rep TBallot_bd TBallot_fl TBallot_fl_round TBallot_fl_rep
attribute [local go_sem high] TBallot_eql TBallot_neq
attribute [local go_sem ↓] TMsg_ld0 TMsg_st0 TMsg_fd0 TMsg_bd0
attribute [local go_sem] TMsg_size TMsg_one TMsg_piece TMsg_c0 TMsg_c1 TMsg_c2 TMsg_c3 TMsg_c4 TMsg_c5 TMsg_c6 TMsg_c7 TMsg_c8 TMsg_c9 TMsg_c10 TMsg_c11 TMsg_c12 TMsg_c13 TMsg_c14 TMsg_c15 TMsg_c16 TMsg_c17 TMsg_c18 TMsg_c19 TMsg_c20 TMsg_c21 TMsg_c22 TMsg_c23 TMsg_c24 TMsg_set_kind TMsg_set_frm TMsg_set_to TMsg_p_item TMsg_put_item TMsg_p_bal TMsg_put_bal TMsg_p_vote TMsg_put_vote TMsg_set_status TMsg_set_same TMsg_p_call TMsg_put_call TMsg_ld TMsg_st TMsg_f_kind TMsg_f_frm TMsg_f_to TMsg_f_item TMsg_f_bal TMsg_f_vote TMsg_f_status TMsg_f_same TMsg_f_call TMsg_bd TMsg_fl TMsg_fl_kind TMsg_fl_frm TMsg_fl_to TMsg_fl_item TMsg_fl_bal TMsg_fl_vote TMsg_fl_status TMsg_fl_same TMsg_fl_call
attribute [local go_sem high] TMsg_eql TMsg_neq
/-- A call that answers in each world that bears the kinds. -/
def AnsL (f : FuncId) (args : Array Value) (v : Value) : Prop := ∀ (t : TypeId) (W : World), W.heap[0]? = some (.cells KV t (0, 0)) → Calls Tryd.prog f args W fun e W' => e = .returned v ∧ Below W.heap.size W W'
theorem AnsL.of_sts {f : FuncId} {args : Array Value} {v : Value} (h : ∀ (t : TypeId) (w : World), w.heap[0]? = some (.cells KV t (0, 0)) → Calls Tryd.prog f args w fun e W' => e = .returned v ∧ Sts w (fun k => k = 0) W' [kndR t]) : AnsL f args v := fun t W h0 => (h t W h0).mono fun e W' ⟨he, hS⟩ => ⟨he, hS.belowK h0⟩
theorem AnsL.at {t : TypeId} {f : FuncId} {args : Array Value} {v : Value} {w W : World} {F : Nat → Prop} {L : List Res} (h : AnsL f args v) (T : Sts w F W (kndR t :: L)) : Calls Tryd.prog f args W fun e W' => e = .returned v ∧ Sts w F W' (kndR t :: L) := by
  obtain ⟨_, ha⟩ := T.at0
  exact (h t W ha.2).mono fun _ _ ⟨he, hb⟩ => ⟨he, T.pure hb⟩
def aM : Msg := ⟨8, 0, 1, ⟨0, 1⟩, noBallot, noBallot, 0, false, noCall⟩
theorem aM_good : goodM aM 3 = true := (goodM_iff _ _).2 ⟨by decide, by decide, by decide, by decide, by decide, by decide, by decide, fun h => by simp [callsB, aM] at h, fun _ => rfl, fun _ => ⟨rfl, rfl⟩, fun h => by simp [aM] at h, fun h => by simp [knownB, aM] at h⟩
theorem noIn : CallIn noCall 48 := ⟨⟨by decide, by decide, by decide, by decide, by decide⟩, fun i hi => by show _ ≤ (0 : Int) ∧ (0 : Int) < _; omega, by decide⟩
theorem aM_in : MsgIn aM 48 := ⟨by unfold In64; decide, by unfold In64; decide, by unfold In64; decide, by unfold In64; decide, by unfold In64; decide, by unfold In64; decide, by unfold In64; decide, by unfold In64; decide, by unfold In64; decide, by unfold In64; decide, noIn⟩
set_option maxHeartbeats 1000000 in
theorem alive7 : AnsL 8 #[] (.bool true) := by
  refine AnsL.of_sts fun t w h0 => ?_
  have T := ((Sts.startK h0).new (MV aM) 33).swap
  have CB := Lib.hid (mailBytesD t aM 3 48 aM_in (by omega))
  have hb : bytesM aM 3 = (sealS (mailB aM), 0) := by unfold bytesM; rw [if_pos ⟨aM_good, by omega⟩]
  rw [hb] at CB
  have CR := Lib.hid (rmailBytes aM 48 aM_in (by omega))
  have cg := mailGood_any aM 3
  rw [aM_good] at cg
  have CG := Lib.hid cg; clear cg hb
  have hr := T.row1
  have hlt := row_lt hr
  generalize strL (sealS (mailB aM)) = B at *
  go_enter Tryd.func8, Tryd.ntmps8
  go_wp2_with fail
  refine (Does.at1 CB.out T).mono ?_; clear T hr hlt; rintro e w1 ⟨rfl, T⟩
  have hr := T.row1
  have hlt := row_lt hr
  go_wp2_with fail
  refine (Ans.at CR.out T).mono ?_; clear T hr hlt; rintro e w2 ⟨rfl, T⟩
  have hr := T.row1
  have hlt := row_lt hr
  go_wp2_with fail
  refine (AnsK.at CG.out T).mono ?_; clear T hr hlt; rintro e w3 ⟨rfl, T⟩
  go_wp2
  go_ret
  exact ⟨rfl, T.swap.drop⟩
def smallM (m : Msg) : Prop := m.call.deed.key.size + m.call.deed.val.size ≤ 200
set_option maxHeartbeats 1000000 in
theorem great7 (m : Msg) (h1 : m.call.deed.key.size ≤ 140737488351232) (h2 : m.call.deed.val.size ≤ 140737488351232) : Ans Tryd.prog 9 #[.agg (MV m)] (.bool (decide (200 < m.call.deed.key.size + m.call.deed.val.size))) := by
  refine Ans.of_sts fun w => ?_
  have T := (Sts.start0 w).new (MV m) 33
  have hr := T.row
  go_enter Tryd.func9, Tryd.ntmps9
  go_wp2
  go_ret
  refine ⟨congrArg (fun b => Ending.returned (.bool b)) ?_, T.nil⟩
  rw [Bool.eq_iff_iff]; simp; omega
theorem msgIn_of {m : Msg} (h : MsgFits m) (hz : m.call.deed.key.size + m.call.deed.val.size ≤ 200) : MsgIn m 200 := by
  obtain ⟨h1, h2, h3, h4, h5, h6, h7, h8⟩ := h
  obtain ⟨a1, a2⟩ := h4
  obtain ⟨b1, b2⟩ := h5
  obtain ⟨c1, c2⟩ := h6
  obtain ⟨⟨f1, f2, f3, f4, _, _⟩, d2, d3⟩ := h8
  unfold Fits at *
  exact ⟨by unfold In64; omega, by unfold In64; omega, by unfold In64; omega, by unfold In64; omega, by unfold In64; omega, by unfold In64; omega, by unfold In64; omega, by unfold In64; omega, by unfold In64; omega, by unfold In64; omega, ⟨⟨by omega, by omega, by omega, by omega, hz⟩, fun i hi => by have := d2 i hi; omega, by omega⟩⟩
theorem eqM_of {a b : Msg} (h : MV a = MV b) : eqA (MV a) (MV b) = true := eqA_iff.2 h
set_option maxHeartbeats 4000000 in
set_option maxRecDepth 10000 in
theorem law_mbytes (m : Msg) (n : Int) (hf : MsgFits m) : AnsL 5 #[.agg (MV m), .int .i64 n] (.bool true) := by
  refine AnsL.of_sts fun t w h0 => ?_
  have T := ((Sts.startK h0).new (MV m) 33).swap
  have cgr := great7 m hf.call.deed.key hf.call.deed.val
  by_cases hz : 200 < m.call.deed.key.size + m.call.deed.val.size
  · rw [decide_eq_true hz] at cgr
    have CGR := Lib.hid cgr; clear cgr hz hf
    go_enter Tryd.func5, Tryd.ntmps5
    go_wp2_with fail
    refine (AnsL.at alive7 T).mono ?_; clear T; rintro e w1 ⟨rfl, T⟩
    have hr := T.row1
    go_wp2_with fail
    refine (Ans.at CGR.out T).mono ?_; clear T hr; rintro e w2 ⟨rfl, T⟩
    go_wp2
    go_ret
    exact ⟨rfl, T.swap.drop⟩
  rw [decide_eq_false hz] at cgr
  have hin := msgIn_of hf (by omega)
  have CGR := Lib.hid cgr; clear cgr hz hf
  have crg := rmailGood_any m n
  have cg := mailGood_any m n
  have cb := mailBytesD t m n 200 hin (by omega)
  have hb : bytesM m n = if goodM m n = true ∧ n ≤ 7 then (sealS (mailB m), 0) else ([], 1) := rfl
  have CR := Lib.hid (rmailBytes m 200 hin (by omega))
  have hrd := fun (hg : goodM m n = true) (hn : n ≤ 7) => read_mail (by omega) hin hg hn
  have hln : (sealS (mailB m)).length ≤ 1000000000 := by
    have h1 := mailB_len hin (by omega)
    have h2 := sealS_len (t := mailB m) (by omega)
    omega
  have CRD := Lib.hid (mailReadD t (sealS (mailB m)) n hln)
  clear hin hln
  go_enter Tryd.func5, Tryd.ntmps5
  go_wp2_with fail
  refine (AnsL.at alive7 T).mono ?_; clear T; rintro e w1 ⟨rfl, T⟩
  have hr := T.row1
  go_wp2_with fail
  refine (Ans.at CGR.out T).mono ?_; clear T hr; rintro e w2 ⟨rfl, T⟩
  have hr := T.row1
  cases hg : goodM m n
  · rw [hg] at cg crg hb
    rw [if_neg (by simp)] at hb
    rw [hb, show strL ([] : List UInt8) = (⟨#[]⟩ : ByteArray) from rfl] at cb
    have CG := Lib.hid cg; have CRG := Lib.hid crg; have CB := Lib.hid cb
    clear cg crg hb cb hrd CRD
    go_wp2_with fail
    refine (Ans.at CRG.out T).mono ?_; clear T hr; rintro e w3 ⟨rfl, T⟩
    have hr := T.row1
    go_wp2_with fail
    refine (Does.at1 CB.out T).mono ?_; clear T hr; rintro e w4 ⟨rfl, T⟩
    have hr := T.row1
    go_wp2_with fail
    refine (AnsK.at CG.out T).mono ?_; clear T hr; rintro e w5 ⟨rfl, T⟩
    go_wp2
    go_ret
    exact ⟨rfl, T.swap.drop⟩
  · rw [hg] at cg crg hb
    have CG := Lib.hid cg; have CRG := Lib.hid crg; clear cg crg
    by_cases hn : n ≤ 7
    · rw [if_pos ⟨rfl, hn⟩] at hb
      rw [hb] at cb
      have CB := Lib.hid cb; clear cb hb
      obtain ⟨r1, r2⟩ := hrd hg hn
      generalize readM (sealS (mailB m)) n = x at *
      have cd := CRD.out; clear CRD
      rw [r1] at cd
      have CRD := Lib.hid cd; clear cd
      have he : eqA (MV x.1) (MV m) = true := eqA_iff.2 r2
      clear r1 r2 hg hrd
      generalize strL (sealS (mailB m)) = B at *
      go_wp2_with fail
      refine (Ans.at CRG.out T).mono ?_; clear T hr; rintro e w3 ⟨rfl, T⟩
      have hr := T.row1
      go_wp2_with fail
      refine (Does.at1 CB.out T).mono ?_; clear T hr; rintro e w4 ⟨rfl, T⟩
      have hr := T.row1
      go_wp2_with fail
      refine (AnsK.at CG.out T).mono ?_; clear T hr; rintro e w5 ⟨rfl, T⟩
      go_wp2_with fail
      refine (Does.at1 CRD.out T).mono ?_; clear T; rintro e w6 ⟨rfl, T⟩
      have T := T.new (MV x.1) 33
      have hr := T.row2
      have hlt := row_lt hr
      go_wp2_with fail
      refine (Ans.at CR.out T).mono ?_; clear T hr hlt; rintro e w7 ⟨rfl, T⟩
      have hr := T.row2
      have hrx := T.row
      go_wp2
      go_ret
      exact ⟨rfl, T.drop.swap.drop⟩
    · rw [if_neg (by simp [hn])] at hb
      rw [hb, show strL ([] : List UInt8) = (⟨#[]⟩ : ByteArray) from rfl] at cb
      have CB := Lib.hid cb; clear cb hb hg hrd CRD
      go_wp2_with fail
      refine (Ans.at CRG.out T).mono ?_; clear T hr; rintro e w3 ⟨rfl, T⟩
      have hr := T.row1
      go_wp2_with fail
      refine (Does.at1 CB.out T).mono ?_; clear T hr; rintro e w4 ⟨rfl, T⟩
      have hr := T.row1
      go_wp2_with fail
      refine (AnsK.at CG.out T).mono ?_; clear T hr; rintro e w5 ⟨rfl, T⟩
      go_wp2
      go_ret
      exact ⟨rfl, T.swap.drop⟩
set_option maxHeartbeats 4000000 in
set_option maxRecDepth 10000 in
theorem law_mreads (b : ByteArray) (n : Int) (hsz : b.size ≤ 140737488351232) : AnsL 6 #[.string b, .int .i64 n] (.bool true) := by
  refine AnsL.of_sts fun t w h0 => ?_
  have T := Sts.startK h0
  by_cases hz : 300 < b.size
  · go_enter Tryd.func6, Tryd.ntmps6
    go_wp2_with fail
    refine (AnsL.at alive7 T).mono ?_; clear T; rintro e w1 ⟨rfl, T⟩
    go_wp2
    go_ret
    exact ⟨rfl, T⟩
  have hl : b.data.toList.length = b.size := rfl
  have cd := mailReadD t b.data.toList n (by omega)
  rw [strL_self] at cd
  have hor := read_or b.data.toList n
  have hinv := @read_inv b.data.toList n
  have hself := strL_self b
  generalize readM b.data.toList n = x at *
  by_cases h0 : x.2 = 0
  · rw [h0] at cd
    have CD := Lib.hid cd; clear cd
    obtain ⟨i1, i2, i3, i4⟩ := hinv h0
    have cg := rmailGood_any x.1 n
    rw [i2] at cg
    have CG := Lib.hid cg
    have cb := rmailBytes x.1 48 i3 (by omega)
    rw [i4, hself] at cb
    have CB := Lib.hid cb
    clear cg cb i2 i3 i4 hinv h0 hor hself hl
    go_enter Tryd.func6, Tryd.ntmps6
    go_wp2_with fail
    refine (AnsL.at alive7 T).mono ?_; clear T; rintro e w1 ⟨rfl, T⟩
    go_wp2_with fail
    refine (Does.at1 CD.out T).mono ?_; clear T; rintro e w2 ⟨rfl, T⟩
    have T := T.new (MV x.1) 33
    go_wp2_with fail
    refine (Ans.at CG.out T).mono ?_; clear T; rintro e w3 ⟨rfl, T⟩
    have hr := T.row
    go_wp2_with fail
    refine (Ans.at CB.out T).mono ?_; clear T hr; rintro e w4 ⟨rfl, T⟩
    go_wp2
    go_ret
    exact ⟨rfl, T.drop⟩
  · have hx := hor.resolve_left h0
    rw [hx] at cd
    have CD := Lib.hid cd; clear cd hinv h0 hor hself hl
    have he := eqA_refl (MV noMsg)
    go_enter Tryd.func6, Tryd.ntmps6
    go_wp2_with fail
    refine (AnsL.at alive7 T).mono ?_; clear T; rintro e w1 ⟨rfl, T⟩
    go_wp2_with fail
    refine (Does.at1 CD.out T).mono ?_; clear T; rintro e w2 ⟨rfl, T⟩
    go_wp2
    go_ret
    exact ⟨rfl, T.keep _⟩
end Go.Proofs.YtahajjfbkdocaaaDoor
/- Layer 7: the laws of unlike messages, of cuts, of what must be empty, walked. -/
namespace Go.Proofs.YtahajjfbkdocaaaDoor
open Go.RowKit
set_option linter.unusedVariables false
attribute [local go_sem] row_alloc row_drew row_drewN row_ext row_setCell row_setRow size_ext setRow_alloc setRow_drew loadOf storeOf piece_lit loadVal_at storeVal_at allOne_lit buildOf buildRes_some
attribute [local go_sem high] cell_alloc frozen_alloc setCell_alloc cell_ext frozen_ext cell_setRow frozen_setRow
attribute [local go_sem ↓] TDeed_ld0 TDeed_st0 TDeed_fd0 TDeed_bd0
attribute [local go_sem] TDeed_size TDeed_one TDeed_piece TDeed_c0 TDeed_c1 TDeed_c2 TDeed_c3 TDeed_c4 TDeed_c5 TDeed_set_kind TDeed_set_key TDeed_set_val TDeed_set_ver TDeed_set_ses TDeed_set_num TDeed_ld TDeed_st TDeed_f_kind TDeed_f_key TDeed_f_val TDeed_f_ver TDeed_f_ses TDeed_f_num TDeed_bd TDeed_fl TDeed_fl_kind TDeed_fl_key TDeed_fl_val TDeed_fl_ver TDeed_fl_ses TDeed_fl_num
attribute [local go_sem high] TDeed_eql TDeed_neq
attribute [local go_sem ↓] index_deps0 load_deps0 store_deps0
attribute [local go_sem] DV_piece DV_size DV_one index_deps load_deps store_deps
attribute [local go_sem high] TDeps_eql TDeps_neq
attribute [local go_sem ↓] TCall_ld0 TCall_st0 TCall_fd0 TCall_bd0
attribute [local go_sem] TCall_size TCall_one TCall_piece TCall_c0 TCall_c1 TCall_c2 TCall_c3 TCall_c4 TCall_c5 TCall_c6 TCall_c7 TCall_c8 TCall_c9 TCall_c10 TCall_c11 TCall_c12 TCall_c13 TCall_p_deed TCall_put_deed TCall_p_deps TCall_put_deps TCall_set_seq TCall_ld TCall_st TCall_f_deed TCall_f_deps TCall_f_seq TCall_bd TCall_fl TCall_fl_deed TCall_fl_deps TCall_fl_seq
attribute [local go_sem high] TCall_eql TCall_neq
attribute [local go_sem ↓] TItem_ld0 TItem_st0 TItem_fd0 TItem_bd0
attribute [local go_sem] TItem_size TItem_one TItem_piece TItem_c0 TItem_c1 TItem_set_rep TItem_set_num TItem_ld TItem_st TItem_f_rep TItem_f_num TItem_bd TItem_fl TItem_fl_rep TItem_fl_num
attribute [local go_sem high] TItem_eql TItem_neq
attribute [local go_sem ↓] TBallot_ld0 TBallot_st0 TBallot_fd0 TBallot_bd0
attribute [local go_sem] TBallot_size TBallot_one TBallot_piece TBallot_c0 TBallot_c1 TBallot_set_round TBallot_set_rep TBallot_ld TBallot_st TBallot_f_round TBallot_f_rep TBallot_bd TBallot_fl TBallot_fl_round TBallot_fl_rep
attribute [local go_sem high] TBallot_eql TBallot_neq
attribute [local go_sem ↓] TMsg_ld0 TMsg_st0 TMsg_fd0 TMsg_bd0
attribute [local go_sem] TMsg_size TMsg_one TMsg_piece TMsg_c0 TMsg_c1 TMsg_c2 TMsg_c3 TMsg_c4 TMsg_c5 TMsg_c6 TMsg_c7 TMsg_c8 TMsg_c9 TMsg_c10 TMsg_c11 TMsg_c12 TMsg_c13 TMsg_c14 TMsg_c15 TMsg_c16 TMsg_c17 TMsg_c18 TMsg_c19 TMsg_c20 TMsg_c21 TMsg_c22 TMsg_c23 TMsg_c24 TMsg_set_kind TMsg_set_frm TMsg_set_to TMsg_p_item TMsg_put_item TMsg_p_bal TMsg_put_bal TMsg_p_vote TMsg_put_vote TMsg_set_status TMsg_set_same TMsg_p_call TMsg_put_call TMsg_ld TMsg_st TMsg_f_kind TMsg_f_frm TMsg_f_to TMsg_f_item TMsg_f_bal TMsg_f_vote TMsg_f_status TMsg_f_same TMsg_f_call TMsg_bd TMsg_fl TMsg_fl_kind TMsg_fl_frm TMsg_fl_to TMsg_fl_item TMsg_fl_bal TMsg_fl_vote TMsg_fl_status TMsg_fl_same TMsg_fl_call
attribute [local go_sem high] TMsg_eql TMsg_neq
theorem callB_congr {a b : Call} (h : CV a = CV b) : callB a = callB b := by
  obtain ⟨h1, h2, h3⟩ := call_congr h
  unfold callB depsL
  rw [h1, h3, h2 0 (by omega), h2 1 (by omega), h2 2 (by omega), h2 3 (by omega), h2 4 (by omega), h2 5 (by omega), h2 6 (by omega)]
theorem mailB_congr {a b : Msg} (h : MV a = MV b) : mailB a = mailB b := by
  obtain ⟨h1, h2, h3, h4, h5, h6, h7, h8, h9⟩ := (TMsg_ext a b).1 h
  obtain ⟨i1, i2⟩ := (TItem_ext _ _).1 h4
  obtain ⟨b1, b2⟩ := (TBallot_ext _ _).1 h5
  obtain ⟨v1, v2⟩ := (TBallot_ext _ _).1 h6
  unfold mailB
  rw [h1, h2, h3, i1, i2, b1, b2, v1, v2, h7, h8, callB_congr h9]
theorem unlike {a b : Msg} {n : Int} (ha : MsgIn a 200) (hb : MsgIn b 200) (ga : goodM a n = true) (gb : goodM b n = true) (hn : n ≤ 7) : ((strL (sealS (mailB a))).toList == (strL (sealS (mailB b))).toList) = eqA (MV a) (MV b) := by
  refine eqA_of ?_
  rw [beq_iff_eq, toList_inj_iff]
  constructor
  · intro h
    have h1 := sealS_inj (by have := mailB_len ha (by omega); omega) (by have := mailB_len hb (by omega); omega) (strL_inj h)
    obtain ⟨x, x1, x2⟩ := getM_mail (by omega) ha ga hn []
    obtain ⟨y, y1, y2⟩ := getM_mail (by omega) hb gb hn []
    rw [h1, y1] at x1
    injection x1 with e _
    rw [← x2, ← y2, e]
  · intro h; rw [mailB_congr h]
set_option maxHeartbeats 4000000 in
set_option maxRecDepth 10000 in
theorem law_munlike (a b : Msg) (n : Int) (hfa : MsgFits a) (hfb : MsgFits b) : AnsL 3 #[.agg (MV a), .agg (MV b), .int .i64 n] (.bool true) := by
  refine AnsL.of_sts fun t w h0 => ?_
  have T := ((((Sts.startK h0).new (MV a) 33).new (MV b) 33).rot2)
  simp only [World.size_alloc] at T
  -- rows: kinds, b, a
  have ca := great7 a hfa.call.deed.key hfa.call.deed.val
  have cb := great7 b hfb.call.deed.key hfb.call.deed.val
  by_cases hza : 200 < a.call.deed.key.size + a.call.deed.val.size
  · rw [decide_eq_true hza] at ca
    have CA := Lib.hid ca; clear ca cb hza hfa hfb
    go_enter Tryd.func3, Tryd.ntmps3
    go_wp2_with fail
    refine (AnsL.at alive7 T).mono ?_; clear T; rintro e w1 ⟨rfl, T⟩
    have hr := T.row2
    go_wp2_with fail
    refine (Ans.at CA.out T).mono ?_; clear T hr; rintro e w2 ⟨rfl, T⟩
    go_wp2
    go_ret
    exact ⟨rfl, T.swap.drop.swap.drop⟩
  rw [decide_eq_false hza] at ca
  have CA := Lib.hid ca; clear ca
  by_cases hzb : 200 < b.call.deed.key.size + b.call.deed.val.size
  · rw [decide_eq_true hzb] at cb
    have CB := Lib.hid cb; clear cb hza hzb hfa hfb
    go_enter Tryd.func3, Tryd.ntmps3
    go_wp2_with fail
    refine (AnsL.at alive7 T).mono ?_; clear T; rintro e w1 ⟨rfl, T⟩
    have hr := T.row2
    go_wp2_with fail
    refine (Ans.at CA.out T).mono ?_; clear T hr; rintro e w2 ⟨rfl, T⟩
    have hr := T.row1
    go_wp2_with fail
    refine (Ans.at CB.out T).mono ?_; clear T hr; rintro e w3 ⟨rfl, T⟩
    go_wp2
    go_ret
    exact ⟨rfl, T.swap.drop.swap.drop⟩
  rw [decide_eq_false hzb] at cb
  have CB := Lib.hid cb; clear cb
  have hia := msgIn_of hfa (by omega)
  have hib := msgIn_of hfb (by omega)
  clear hza hzb hfa hfb
  go_enter Tryd.func3, Tryd.ntmps3
  go_wp2_with fail
  refine (AnsL.at alive7 T).mono ?_; clear T; rintro e w1 ⟨rfl, T⟩
  have hr := T.row2
  go_wp2_with fail
  refine (Ans.at CA.out T).mono ?_; clear T hr; rintro e w2 ⟨rfl, T⟩
  have hr := T.row1
  go_wp2_with fail
  refine (Ans.at CB.out T).mono ?_; clear T hr CA CB; rintro e w3 ⟨rfl, T⟩
  have hra := T.row2
  have hrb := T.row1
  by_cases hn : n ≤ 7
  case neg =>
    clear hia hib
    go_wp2_with fail
    go_ret
    exact ⟨rfl, T.swap.drop.swap.drop⟩
  case pos =>
    have ca := rmailGood_any a n
    have cb := rmailGood_any b n
    cases ga : goodM a n
    · rw [ga] at ca
      have CA := Lib.hid ca; clear ca cb hia hib hrb ga
      go_wp2_with fail
      refine (Ans.at CA.out T).mono ?_; clear T hra; rintro e w4 ⟨rfl, T⟩
      go_wp2
      go_ret
      exact ⟨rfl, T.swap.drop.swap.drop⟩
    · rw [ga] at ca
      have CA := Lib.hid ca; clear ca
      cases gb : goodM b n
      · rw [gb] at cb
        have CB := Lib.hid cb; clear cb hia hib hrb ga gb
        go_wp2_with fail
        refine (Ans.at CA.out T).mono ?_; clear T hra; rintro e w4 ⟨rfl, T⟩
        have hrb := T.row1
        go_wp2_with fail
        refine (Ans.at CB.out T).mono ?_; clear T hrb; rintro e w5 ⟨rfl, T⟩
        go_wp2
        go_ret
        exact ⟨rfl, T.swap.drop.swap.drop⟩
      · rw [gb] at cb
        have CB := Lib.hid cb; clear cb hrb
        have hu := unlike hia hib ga gb hn
        have da := mailBytesD t a n 200 hia (by omega)
        have db := mailBytesD t b n 200 hib (by omega)
        rw [show bytesM a n = (sealS (mailB a), 0) by unfold bytesM; rw [if_pos ⟨ga, hn⟩]] at da
        rw [show bytesM b n = (sealS (mailB b), 0) by unfold bytesM; rw [if_pos ⟨gb, hn⟩]] at db
        have DA := Lib.hid da; have DB := Lib.hid db
        clear da db ga gb hia hib
        generalize strL (sealS (mailB a)) = x at *
        generalize strL (sealS (mailB b)) = y at *
        go_wp2_with fail
        refine (Ans.at CA.out T).mono ?_; clear T hra; rintro e w4 ⟨rfl, T⟩
        have hrb := T.row1
        go_wp2_with fail
        refine (Ans.at CB.out T).mono ?_; clear T hrb; rintro e w5 ⟨rfl, T⟩
        have hra := T.row2
        go_wp2_with fail
        refine (Does.at1 DA.out T).mono ?_; clear T hra; rintro e w6 ⟨rfl, T⟩
        have hrb := T.row1
        go_wp2_with fail
        refine (Does.at1 DB.out T).mono ?_; clear T hrb; rintro e w7 ⟨rfl, T⟩
        have hra := T.row2
        have hrb := T.row1
        go_wp2
        go_ret
        exact ⟨by simp, T.swap.drop.swap.drop⟩
end Go.Proofs.YtahajjfbkdocaaaDoor
