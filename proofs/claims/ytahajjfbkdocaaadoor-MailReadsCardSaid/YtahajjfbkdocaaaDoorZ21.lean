/- Several texts in one. -/
import Derived.Test.YtahajjfbkdocaaaDoorZ18
import Derived.Test.YtahajjfbkdocaaaDoorZ20
/- Layer 7: the document's bytes of a message. -/
namespace Go.Proofs.YtahajjfbkdocaaaDoor
open Go.RowKit
set_option linter.unusedVariables false
attribute [local go_sem] row_alloc row_drew row_drewN row_ext row_setCell row_setRow size_ext setRow_alloc setRow_drew loadOf storeOf piece_lit loadVal_at storeVal_at allOne_lit buildOf buildRes_some
attribute [local go_sem high] cell_alloc frozen_alloc setCell_alloc cell_ext frozen_ext cell_setRow frozen_setRow
attribute [local go_sem ↓] TDeed_ld0 TDeed_st0 TDeed_fd0 TDeed_bd0
attribute [local go_sem] TDeed_size TDeed_one TDeed_piece TDeed_c0 TDeed_c1 TDeed_c2 TDeed_c3 TDeed_c4 TDeed_c5 TDeed_set_kind TDeed_set_key TDeed_set_val TDeed_set_ver TDeed_set_ses TDeed_set_num TDeed_ld TDeed_st TDeed_f_kind TDeed_f_key TDeed_f_val TDeed_f_ver TDeed_f_ses TDeed_f_num TDeed_bd TDeed_fl TDeed_fl_kind TDeed_fl_key TDeed_fl_val TDeed_fl_ver TDeed_fl_ses TDeed_fl_num
attribute [local go_sem high] TDeed_eql TDeed_neq
attribute [local go_sem ↓] index_deps0 load_deps0 store_deps0
attribute [local go_sem] DV_piece DV_size DV_one index_deps load_deps store_deps
attribute [local go_sem high] TDeps_eql TDeps_neq
attribute [local go_sem ↓] TCall_ld0 TCall_st0 TCall_fd0 TCall_bd0
attribute [local go_sem] TCall_size TCall_one TCall_piece TCall_c0 TCall_c1 TCall_c2 TCall_c3 TCall_c4 TCall_c5 TCall_c6 TCall_c7 TCall_c8 TCall_c9 TCall_c10 TCall_c11 TCall_c12 TCall_c13 TCall_p_deed TCall_put_deed TCall_p_deps TCall_put_deps TCall_set_seq TCall_ld TCall_st TCall_f_deed TCall_f_deps TCall_f_seq TCall_bd TCall_fl TCall_fl_deed TCall_fl_deps TCall_fl_seq
attribute [local go_sem high] TCall_eql TCall_neq
attribute [local go_sem ↓] TItem_ld0 TItem_st0 TItem_fd0 TItem_bd0
attribute [local go_sem] TItem_size TItem_one TItem_piece TItem_c0 TItem_c1 TItem_set_rep TItem_set_num TItem_ld TItem_st TItem_f_rep TItem_f_num TItem_bd TItem_fl TItem_fl_rep TItem_fl_num
attribute [local go_sem high] TItem_eql TItem_neq
attribute [local go_sem ↓] TBallot_ld0 TBallot_st0 TBallot_fd0 TBallot_bd0
attribute [local go_sem] TBallot_size TBallot_one TBallot_piece TBallot_c0 TBallot_c1 TBallot_set_round TBallot_set_rep TBallot_ld TBallot_st TBallot_f_round TBallot_f_rep TBallot_bd TBallot_fl TBallot_fl_round TBallot_fl_rep
attribute [local go_sem high] TBallot_eql TBallot_neq
attribute [local go_sem ↓] TMsg_ld0 TMsg_st0 TMsg_fd0 TMsg_bd0
attribute [local go_sem] TMsg_size TMsg_one TMsg_piece TMsg_c0 TMsg_c1 TMsg_c2 TMsg_c3 TMsg_c4 TMsg_c5 TMsg_c6 TMsg_c7 TMsg_c8 TMsg_c9 TMsg_c10 TMsg_c11 TMsg_c12 TMsg_c13 TMsg_c14 TMsg_c15 TMsg_c16 TMsg_c17 TMsg_c18 TMsg_c19 TMsg_c20 TMsg_c21 TMsg_c22 TMsg_c23 TMsg_c24 TMsg_set_kind TMsg_set_frm TMsg_set_to TMsg_p_item TMsg_put_item TMsg_p_bal TMsg_put_bal TMsg_p_vote TMsg_put_vote TMsg_set_status TMsg_set_same TMsg_p_call TMsg_put_call TMsg_ld TMsg_st TMsg_f_kind TMsg_f_frm TMsg_f_to TMsg_f_item TMsg_f_bal TMsg_f_vote TMsg_f_status TMsg_f_same TMsg_f_call TMsg_bd TMsg_fl TMsg_fl_kind TMsg_fl_frm TMsg_fl_to TMsg_fl_item TMsg_fl_bal TMsg_fl_vote TMsg_fl_status TMsg_fl_same TMsg_fl_call
attribute [local go_sem high] TMsg_eql TMsg_neq
set_option maxHeartbeats 1000000 in
theorem rcalls_any (k : Int) : Ans Tryd.prog 12 #[.int .i64 k] (.bool (callsB k)) := by
  intro w
  go_enter Tryd.func12, Tryd.ntmps12
  go_wp2
  all_goals
    go_ret
    refine ⟨congrArg (fun b => Ending.returned (.bool b)) ?_, Below.refl _ _⟩
    rw [Bool.eq_iff_iff]; simp [callsB]; omega
set_option maxHeartbeats 1000000 in
theorem ritemBytes (x : Item) (h1 : In64 x.rep) (h2 : In64 x.num) : Ans Tryd.prog 30 #[.agg (IV x)] (.string (strL (encs [x.rep, x.num]))) := by
  intro w
  have T := (St.start w).new (IV x) 23
  have C1 := Lib.hid (refNat x.rep h1.2); have C2 := Lib.hid (refNat x.num h2.2)
  have e : strL (enc x.rep.toNat) ++ strL (enc x.num.toNat) = strL (encs [x.rep, x.num]) := by
    simp only [strL_app]; simp [encs]
  have E := Lib.hid e; clear e
  have z1 : (strL (enc x.rep.toNat)).size ≤ 9 := by rw [strL_size]; exact enc_len9 (by have := h1.2; omega)
  have z2 : (strL (enc x.num.toNat)).size ≤ 9 := by rw [strL_size]; exact enc_len9 (by have := h2.2; omega)
  generalize strL (encs [x.rep, x.num]) = B at *
  generalize strL (enc x.rep.toNat) = B1 at *
  generalize strL (enc x.num.toNat) = B2 at *
  clear h1 h2
  go_enter Tryd.func30, Tryd.ntmps30
  go_wp2_with fail
  refine wp_region_st (by kernel_rfl) (by kernel_rfl) ?_
  repeat (go_big_quiet_step (first | (go_at_call 29; with_reducible exact C1.out.quiet) | (go_at_call 29; with_reducible exact C2.out.quiet)))
  refine wpQuiet_nil ?_
  rintro _ ⟨x9, rfl⟩
  go_wp2_with fail
  go_ret
  exact ⟨congrArg (fun s => Ending.returned (.string s)) (by rw [← E.out]), (T.ext x9).below⟩
set_option maxHeartbeats 1000000 in
theorem rbalBytes (x : Ballot) (h1 : In64 x.round) (h2 : In64 x.rep) : Ans Tryd.prog 31 #[.agg (BV x)] (.string (strL (encs [x.round, x.rep]))) := by
  intro w
  have T := (St.start w).new (BV x) 25
  have C1 := Lib.hid (refNat x.round h1.2); have C2 := Lib.hid (refNat x.rep h2.2)
  have e : strL (enc x.round.toNat) ++ strL (enc x.rep.toNat) = strL (encs [x.round, x.rep]) := by
    simp only [strL_app]; simp [encs]
  have E := Lib.hid e; clear e
  have z1 : (strL (enc x.round.toNat)).size ≤ 9 := by rw [strL_size]; exact enc_len9 (by have := h1.2; omega)
  have z2 : (strL (enc x.rep.toNat)).size ≤ 9 := by rw [strL_size]; exact enc_len9 (by have := h2.2; omega)
  generalize strL (encs [x.round, x.rep]) = B at *
  generalize strL (enc x.round.toNat) = B1 at *
  generalize strL (enc x.rep.toNat) = B2 at *
  clear h1 h2
  go_enter Tryd.func31, Tryd.ntmps31
  go_wp2_with fail
  refine wp_region_st (by kernel_rfl) (by kernel_rfl) ?_
  repeat (go_big_quiet_step (first | (go_at_call 29; with_reducible exact C1.out.quiet) | (go_at_call 29; with_reducible exact C2.out.quiet)))
  refine wpQuiet_nil ?_
  rintro _ ⟨x9, rfl⟩
  go_wp2_with fail
  go_ret
  exact ⟨congrArg (fun s => Ending.returned (.string s)) (by rw [← E.out]), (T.ext x9).below⟩
set_option maxHeartbeats 4000000 in
set_option maxRecDepth 10000 in
theorem rmailBytes (m : Msg) (N : Nat) (h : MsgIn m N) (hN : N ≤ 1000) : Ans Tryd.prog 15 #[.agg (MV m)] (.string (strL (sealS (mailB m)))) := by
  refine Ans.of_sts fun w => ?_
  have T := (Sts.start0 w).new (MV m) 33
  have C1 := Lib.hid (refNat m.kind h.kind.2); have C2 := Lib.hid (refNat m.frm h.frm.2); have C3 := Lib.hid (refNat m.to h.to.2)
  have C4 := Lib.hid (ritemBytes m.item h.rep h.num); have C5 := Lib.hid (rbalBytes m.bal h.round h.brep)
  have C6 := Lib.hid (rbalBytes m.vote h.vround h.vrep); have C7 := Lib.hid (refNat m.status h.status.2)
  have C8 := Lib.hid (refCallBytes m.call N h.call (by omega))
  have cc := rcalls_any m.kind
  have e1 := encs_le (three_in h.kind h.frm h.to)
  have e2 := encs_le (two_in h.rep h.num)
  have e3 := encs_le (two_in h.round h.brep)
  have e4 := encs_le (two_in h.vround h.vrep)
  have e5 := enc_len9 (n := m.status.toNat) (by have := h.status; unfold In64 at this; omega)
  have e6 := enc_len9 (n := m.kind.toNat) (by have := h.kind; unfold In64 at this; omega)
  have e7 := enc_len9 (n := m.frm.toNat) (by have := h.frm; unfold In64 at this; omega)
  have e8 := enc_len9 (n := m.to.toNat) (by have := h.to; unfold In64 at this; omega)
  have e9 := callB_len h.call (by omega)
  simp only [List.length_cons, List.length_nil] at e1 e2 e3 e4
  have hm : mailB m = enc m.kind.toNat ++ enc m.frm.toNat ++ enc m.to.toNat ++ encs [m.item.rep, m.item.num] ++ encs [m.bal.round, m.bal.rep] ++ (if knownB m.kind then encs [m.vote.round, m.vote.rep] ++ enc m.status.toNat else []) ++ (if knownB m.kind || m.kind == 2 then bitB m.same else []) ++ (if callsB m.kind then callB m.call else []) := by
    unfold mailB
    rw [show encs [m.kind, m.frm, m.to] = enc m.kind.toNat ++ enc m.frm.toNat ++ enc m.to.toNat by simp [encs]]
  have hml : (mailB m).length ≤ 2000 := by
    rw [hm]; simp only [List.length_append]
    have : (if knownB m.kind then encs [m.vote.round, m.vote.rep] ++ enc m.status.toNat else []).length ≤ 27 := by split <;> simp <;> omega
    have : (if knownB m.kind || m.kind == 2 then bitB m.same else []).length ≤ 1 := by split <;> simp [bitB]
    have : (if callsB m.kind then callB m.call else []).length ≤ N + 126 := by
      split
      · exact e9
      · simp
    omega
  have CS := Lib.hid (rseal_any (mailB m) (by omega))
  have hz : (strL (mailB m)).size ≤ 2000 := by rw [strL_size]; exact hml
  clear hml
  have z1 : (strL (enc m.kind.toNat)).size ≤ 9 := by rw [strL_size]; exact e6
  have z2 : (strL (enc m.frm.toNat)).size ≤ 9 := by rw [strL_size]; exact e7
  have z3 : (strL (enc m.to.toNat)).size ≤ 9 := by rw [strL_size]; exact e8
  have z4 : (strL (encs [m.item.rep, m.item.num])).size ≤ 18 := by rw [strL_size]; exact e2
  have z5 : (strL (encs [m.bal.round, m.bal.rep])).size ≤ 18 := by rw [strL_size]; exact e3
  have z6 : (strL (encs [m.vote.round, m.vote.rep])).size ≤ 18 := by rw [strL_size]; exact e4
  have z7 : (strL (enc m.status.toNat)).size ≤ 9 := by rw [strL_size]; exact e5
  have z8 : (strL (callB m.call)).size ≤ 1126 := by rw [strL_size]; omega
  have z9 : (strL (bitB true)).size = 1 := rfl
  have z10 : (strL (bitB false)).size = 1 := rfl
  have b1 : strL (bitB true) = ⟨#[1]⟩ := rfl
  have b0 : strL (bitB false) = ⟨#[0]⟩ := rfl
  have happ := strL_app
  have hmS : strL (mailB m) = strL (enc m.kind.toNat) ++ strL (enc m.frm.toNat) ++ strL (enc m.to.toNat) ++ strL (encs [m.item.rep, m.item.num]) ++ strL (encs [m.bal.round, m.bal.rep]) ++ strL (if knownB m.kind then encs [m.vote.round, m.vote.rep] ++ enc m.status.toNat else []) ++ strL (if knownB m.kind || m.kind == 2 then bitB m.same else []) ++ strL (if callsB m.kind then callB m.call else []) := by
    simp only [strL_app]; rw [hm]
  clear hm e1 e2 e3 e4 e5 e6 e7 e8 e9 h
  cases hkb : knownB m.kind
  case false =>
    cases hcb : callsB m.kind
    case false =>
      have hk2 : (m.kind == 2) = false := by rw [beq_eq_false_iff_ne]; intro e; rw [e] at hcb; simp [callsB] at hcb
      rw [hkb, hcb, hk2] at hmS
      rw [hcb] at cc
      have CC := Lib.hid cc; clear cc
      have e7 : (m.kind == 7) = false := by have h := hkb; unfold knownB at h; rw [Bool.eq_iff_iff] at h ⊢; simpa using h
      simp at hmS
      try simp only [← happ] at hmS
      have nil0 : strL ([] : List UInt8) = ByteArray.empty := rfl
      try simp only [nil0, ByteArray.append_empty] at hmS
      try simp only [← ByteArray.append_assoc] at hmS
      clear nil0 b0 b1 z9 z10
      generalize strL (enc m.kind.toNat) = B1 at *
      generalize strL (enc m.frm.toNat) = B2 at *
      generalize strL (enc m.to.toNat) = B3 at *
      generalize strL (encs [m.item.rep, m.item.num]) = B4 at *
      generalize strL (encs [m.bal.round, m.bal.rep]) = B5 at *
      generalize strL (encs [m.vote.round, m.vote.rep]) = B6 at *
      generalize strL (enc m.status.toNat) = B7 at *
      generalize strL (callB m.call) = B8 at *
      generalize strL (sealS (mailB m)) = SS at *
      generalize strL (mailB m) = MM at *
      have hz2 := hz; rw [hmS] at hz2; simp only [ByteArray.size_append] at hz2
      have E := Lib.hid hmS.symm
      clear hmS happ
      go_enter Tryd.func15, Tryd.ntmps15
      go_wp2_with fail
      refine wp_region_st (by kernel_rfl) (by kernel_rfl) ?_
      repeat (go_big_quiet_step (first | (go_at_call 29; with_reducible exact C1.out.quiet) | (go_at_call 29; with_reducible exact C2.out.quiet) | (go_at_call 29; with_reducible exact C3.out.quiet) | (go_at_call 30; with_reducible exact C4.out.quiet) | (go_at_call 31; with_reducible exact C5.out.quiet)))
      refine wpQuiet_nil ?_
      rintro _ ⟨x9, rfl⟩
      have T := T.ext x9
      have hr := T.row; have hlt := row_lt hr; have hc := row_cell hr
      go_wp2_with fail
      refine (Ans.at CC.out T).mono ?_; clear T hr hlt hc; rintro e w1 ⟨rfl, T⟩
      have E := E.out
      go_wp2_with fail
      refine (Ans.at CS.out T).mono ?_; clear T; rintro e w3 ⟨rfl, T⟩
      go_wp2
      go_ret
      exact ⟨rfl, T.nil⟩
    case true =>
      cases hk2 : m.kind == 2
      case false =>
        rw [hkb, hcb, hk2] at hmS
        rw [hcb] at cc
        have CC := Lib.hid cc; clear cc
        have e7 : (m.kind == 7) = false := by have h := hkb; unfold knownB at h; rw [Bool.eq_iff_iff] at h ⊢; simpa using h
        simp at hmS
        try simp only [← happ] at hmS
        have nil0 : strL ([] : List UInt8) = ByteArray.empty := rfl
        try simp only [nil0, ByteArray.append_empty] at hmS
        try simp only [← ByteArray.append_assoc] at hmS
        clear nil0 b0 b1 z9 z10
        generalize strL (enc m.kind.toNat) = B1 at *
        generalize strL (enc m.frm.toNat) = B2 at *
        generalize strL (enc m.to.toNat) = B3 at *
        generalize strL (encs [m.item.rep, m.item.num]) = B4 at *
        generalize strL (encs [m.bal.round, m.bal.rep]) = B5 at *
        generalize strL (encs [m.vote.round, m.vote.rep]) = B6 at *
        generalize strL (enc m.status.toNat) = B7 at *
        generalize strL (callB m.call) = B8 at *
        generalize strL (sealS (mailB m)) = SS at *
        generalize strL (mailB m) = MM at *
        have hz2 := hz; rw [hmS] at hz2; simp only [ByteArray.size_append] at hz2
        have E := Lib.hid hmS.symm
        clear hmS happ
        go_enter Tryd.func15, Tryd.ntmps15
        go_wp2_with fail
        refine wp_region_st (by kernel_rfl) (by kernel_rfl) ?_
        repeat (go_big_quiet_step (first | (go_at_call 29; with_reducible exact C1.out.quiet) | (go_at_call 29; with_reducible exact C2.out.quiet) | (go_at_call 29; with_reducible exact C3.out.quiet) | (go_at_call 30; with_reducible exact C4.out.quiet) | (go_at_call 31; with_reducible exact C5.out.quiet)))
        refine wpQuiet_nil ?_
        rintro _ ⟨x9, rfl⟩
        have T := T.ext x9
        have hr := T.row; have hlt := row_lt hr; have hc := row_cell hr
        go_wp2_with fail
        refine (Ans.at CC.out T).mono ?_; clear T hr hlt hc; rintro e w1 ⟨rfl, T⟩
        have hr := T.row
        go_wp2_with fail
        refine (Ans.at C8.out T).mono ?_; clear T hr; rintro e w2 ⟨rfl, T⟩
        have E := E.out
        go_wp2_with fail
        refine (Ans.at CS.out T).mono ?_; clear T; rintro e w3 ⟨rfl, T⟩
        go_wp2
        go_ret
        exact ⟨rfl, T.nil⟩
      case true =>
        cases hsm : m.same
        case false =>
          rw [hkb, hcb, hk2] at hmS
          rw [hcb] at cc
          have CC := Lib.hid cc; clear cc
          have e7 : (m.kind == 7) = false := by have h := hkb; unfold knownB at h; rw [Bool.eq_iff_iff] at h ⊢; simpa using h
          rw [hsm] at hmS
          simp at hmS
          try simp only [← happ] at hmS
          rw [b0] at hmS
          have nil0 : strL ([] : List UInt8) = ByteArray.empty := rfl
          try simp only [nil0, ByteArray.append_empty] at hmS
          try simp only [← ByteArray.append_assoc] at hmS
          clear nil0 b0 b1 z9 z10
          generalize strL (enc m.kind.toNat) = B1 at *
          generalize strL (enc m.frm.toNat) = B2 at *
          generalize strL (enc m.to.toNat) = B3 at *
          generalize strL (encs [m.item.rep, m.item.num]) = B4 at *
          generalize strL (encs [m.bal.round, m.bal.rep]) = B5 at *
          generalize strL (encs [m.vote.round, m.vote.rep]) = B6 at *
          generalize strL (enc m.status.toNat) = B7 at *
          generalize strL (callB m.call) = B8 at *
          generalize strL (sealS (mailB m)) = SS at *
          generalize strL (mailB m) = MM at *
          have hz2 := hz; rw [hmS] at hz2; simp only [ByteArray.size_append] at hz2
          have E := Lib.hid hmS.symm
          clear hmS happ
          go_enter Tryd.func15, Tryd.ntmps15
          go_wp2_with fail
          refine wp_region_st (by kernel_rfl) (by kernel_rfl) ?_
          repeat (go_big_quiet_step (first | (go_at_call 29; with_reducible exact C1.out.quiet) | (go_at_call 29; with_reducible exact C2.out.quiet) | (go_at_call 29; with_reducible exact C3.out.quiet) | (go_at_call 30; with_reducible exact C4.out.quiet) | (go_at_call 31; with_reducible exact C5.out.quiet)))
          refine wpQuiet_nil ?_
          rintro _ ⟨x9, rfl⟩
          have T := T.ext x9
          have hr := T.row; have hlt := row_lt hr; have hc := row_cell hr
          go_wp2_with fail
          refine (Ans.at CC.out T).mono ?_; clear T hr hlt hc; rintro e w1 ⟨rfl, T⟩
          have hr := T.row
          go_wp2_with fail
          refine (Ans.at C8.out T).mono ?_; clear T hr; rintro e w2 ⟨rfl, T⟩
          have E := E.out
          go_wp2_with fail
          refine (Ans.at CS.out T).mono ?_; clear T; rintro e w3 ⟨rfl, T⟩
          go_wp2
          go_ret
          exact ⟨rfl, T.nil⟩
        case true =>
          rw [hkb, hcb, hk2] at hmS
          rw [hcb] at cc
          have CC := Lib.hid cc; clear cc
          have e7 : (m.kind == 7) = false := by have h := hkb; unfold knownB at h; rw [Bool.eq_iff_iff] at h ⊢; simpa using h
          rw [hsm] at hmS
          simp at hmS
          try simp only [← happ] at hmS
          rw [b1] at hmS
          have nil0 : strL ([] : List UInt8) = ByteArray.empty := rfl
          try simp only [nil0, ByteArray.append_empty] at hmS
          try simp only [← ByteArray.append_assoc] at hmS
          clear nil0 b0 b1 z9 z10
          generalize strL (enc m.kind.toNat) = B1 at *
          generalize strL (enc m.frm.toNat) = B2 at *
          generalize strL (enc m.to.toNat) = B3 at *
          generalize strL (encs [m.item.rep, m.item.num]) = B4 at *
          generalize strL (encs [m.bal.round, m.bal.rep]) = B5 at *
          generalize strL (encs [m.vote.round, m.vote.rep]) = B6 at *
          generalize strL (enc m.status.toNat) = B7 at *
          generalize strL (callB m.call) = B8 at *
          generalize strL (sealS (mailB m)) = SS at *
          generalize strL (mailB m) = MM at *
          have hz2 := hz; rw [hmS] at hz2; simp only [ByteArray.size_append] at hz2
          have E := Lib.hid hmS.symm
          clear hmS happ
          go_enter Tryd.func15, Tryd.ntmps15
          go_wp2_with fail
          refine wp_region_st (by kernel_rfl) (by kernel_rfl) ?_
          repeat (go_big_quiet_step (first | (go_at_call 29; with_reducible exact C1.out.quiet) | (go_at_call 29; with_reducible exact C2.out.quiet) | (go_at_call 29; with_reducible exact C3.out.quiet) | (go_at_call 30; with_reducible exact C4.out.quiet) | (go_at_call 31; with_reducible exact C5.out.quiet)))
          refine wpQuiet_nil ?_
          rintro _ ⟨x9, rfl⟩
          have T := T.ext x9
          have hr := T.row; have hlt := row_lt hr; have hc := row_cell hr
          go_wp2_with fail
          refine (Ans.at CC.out T).mono ?_; clear T hr hlt hc; rintro e w1 ⟨rfl, T⟩
          have hr := T.row
          go_wp2_with fail
          refine (Ans.at C8.out T).mono ?_; clear T hr; rintro e w2 ⟨rfl, T⟩
          have E := E.out
          go_wp2_with fail
          refine (Ans.at CS.out T).mono ?_; clear T; rintro e w3 ⟨rfl, T⟩
          go_wp2
          go_ret
          exact ⟨rfl, T.nil⟩
  case true =>
    have hcb : callsB m.kind = true := by simp [knownB] at hkb; simp [callsB, hkb]
    cases hsm : m.same
    case false =>
      rw [hkb, hcb] at hmS
      rw [hcb] at cc
      have CC := Lib.hid cc; clear cc
      have e7 : (m.kind == 7) = true := by have h := hkb; unfold knownB at h; rw [Bool.eq_iff_iff] at h ⊢; simpa using h
      have hk2 : (m.kind == 2) = false := by rw [beq_eq_false_iff_ne]; intro e; rw [e] at e7; simp at e7
      rw [hsm] at hmS
      simp at hmS
      try simp only [← happ] at hmS
      rw [b0] at hmS
      have nil0 : strL ([] : List UInt8) = ByteArray.empty := rfl
      try simp only [nil0, ByteArray.append_empty] at hmS
      try simp only [← ByteArray.append_assoc] at hmS
      clear nil0 b0 b1 z9 z10
      generalize strL (enc m.kind.toNat) = B1 at *
      generalize strL (enc m.frm.toNat) = B2 at *
      generalize strL (enc m.to.toNat) = B3 at *
      generalize strL (encs [m.item.rep, m.item.num]) = B4 at *
      generalize strL (encs [m.bal.round, m.bal.rep]) = B5 at *
      generalize strL (encs [m.vote.round, m.vote.rep]) = B6 at *
      generalize strL (enc m.status.toNat) = B7 at *
      generalize strL (callB m.call) = B8 at *
      generalize strL (sealS (mailB m)) = SS at *
      generalize strL (mailB m) = MM at *
      have hz2 := hz; rw [hmS] at hz2; simp only [ByteArray.size_append] at hz2
      have E := Lib.hid hmS.symm
      clear hmS happ
      go_enter Tryd.func15, Tryd.ntmps15
      go_wp2_with fail
      refine wp_region_st (by kernel_rfl) (by kernel_rfl) ?_
      repeat (go_big_quiet_step (first | (go_at_call 29; with_reducible exact C1.out.quiet) | (go_at_call 29; with_reducible exact C2.out.quiet) | (go_at_call 29; with_reducible exact C3.out.quiet) | (go_at_call 30; with_reducible exact C4.out.quiet) | (go_at_call 31; with_reducible exact C5.out.quiet)))
      refine wpQuiet_nil ?_
      rintro _ ⟨x9, rfl⟩
      have T := T.ext x9
      have hr := T.row; have hlt := row_lt hr; have hc := row_cell hr
      go_wp2_with fail
      refine wp_region_st (by kernel_rfl) (by kernel_rfl) ?_
      repeat (go_big_quiet_step (first | (go_at_call 31; with_reducible exact C6.out.quiet) | (go_at_call 29; with_reducible exact C7.out.quiet)))
      refine wpQuiet_nil ?_
      rintro _ ⟨x8, rfl⟩
      have T := T.ext x8
      have hr := T.row; have hlt := row_lt hr; have hc := row_cell hr
      go_wp2_with fail
      refine (Ans.at CC.out T).mono ?_; clear T hr hlt hc; rintro e w1 ⟨rfl, T⟩
      have hr := T.row
      go_wp2_with fail
      refine (Ans.at C8.out T).mono ?_; clear T hr; rintro e w2 ⟨rfl, T⟩
      have E := E.out
      go_wp2_with fail
      refine (Ans.at CS.out T).mono ?_; clear T; rintro e w3 ⟨rfl, T⟩
      go_wp2
      go_ret
      exact ⟨rfl, T.nil⟩
    case true =>
      rw [hkb, hcb] at hmS
      rw [hcb] at cc
      have CC := Lib.hid cc; clear cc
      have e7 : (m.kind == 7) = true := by have h := hkb; unfold knownB at h; rw [Bool.eq_iff_iff] at h ⊢; simpa using h
      have hk2 : (m.kind == 2) = false := by rw [beq_eq_false_iff_ne]; intro e; rw [e] at e7; simp at e7
      rw [hsm] at hmS
      simp at hmS
      try simp only [← happ] at hmS
      rw [b1] at hmS
      have nil0 : strL ([] : List UInt8) = ByteArray.empty := rfl
      try simp only [nil0, ByteArray.append_empty] at hmS
      try simp only [← ByteArray.append_assoc] at hmS
      clear nil0 b0 b1 z9 z10
      generalize strL (enc m.kind.toNat) = B1 at *
      generalize strL (enc m.frm.toNat) = B2 at *
      generalize strL (enc m.to.toNat) = B3 at *
      generalize strL (encs [m.item.rep, m.item.num]) = B4 at *
      generalize strL (encs [m.bal.round, m.bal.rep]) = B5 at *
      generalize strL (encs [m.vote.round, m.vote.rep]) = B6 at *
      generalize strL (enc m.status.toNat) = B7 at *
      generalize strL (callB m.call) = B8 at *
      generalize strL (sealS (mailB m)) = SS at *
      generalize strL (mailB m) = MM at *
      have hz2 := hz; rw [hmS] at hz2; simp only [ByteArray.size_append] at hz2
      have E := Lib.hid hmS.symm
      clear hmS happ
      go_enter Tryd.func15, Tryd.ntmps15
      go_wp2_with fail
      refine wp_region_st (by kernel_rfl) (by kernel_rfl) ?_
      repeat (go_big_quiet_step (first | (go_at_call 29; with_reducible exact C1.out.quiet) | (go_at_call 29; with_reducible exact C2.out.quiet) | (go_at_call 29; with_reducible exact C3.out.quiet) | (go_at_call 30; with_reducible exact C4.out.quiet) | (go_at_call 31; with_reducible exact C5.out.quiet)))
      refine wpQuiet_nil ?_
      rintro _ ⟨x9, rfl⟩
      have T := T.ext x9
      have hr := T.row; have hlt := row_lt hr; have hc := row_cell hr
      go_wp2_with fail
      refine wp_region_st (by kernel_rfl) (by kernel_rfl) ?_
      repeat (go_big_quiet_step (first | (go_at_call 31; with_reducible exact C6.out.quiet) | (go_at_call 29; with_reducible exact C7.out.quiet)))
      refine wpQuiet_nil ?_
      rintro _ ⟨x8, rfl⟩
      have T := T.ext x8
      have hr := T.row; have hlt := row_lt hr; have hc := row_cell hr
      go_wp2_with fail
      refine (Ans.at CC.out T).mono ?_; clear T hr hlt hc; rintro e w1 ⟨rfl, T⟩
      have hr := T.row
      go_wp2_with fail
      refine (Ans.at C8.out T).mono ?_; clear T hr; rintro e w2 ⟨rfl, T⟩
      have E := E.out
      go_wp2_with fail
      refine (Ans.at CS.out T).mono ?_; clear T; rintro e w3 ⟨rfl, T⟩
      go_wp2
      go_ret
      exact ⟨rfl, T.nil⟩
end Go.Proofs.YtahajjfbkdocaaaDoor
