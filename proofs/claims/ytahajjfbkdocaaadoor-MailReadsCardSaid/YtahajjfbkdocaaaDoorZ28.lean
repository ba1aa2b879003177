/- Several texts in one. -/
import Derived.Test.YtahajjfbkdocaaaDoorZ27
/- Layer 7: the law of what must be empty, walked. -/
namespace Go.Proofs.YtahajjfbkdocaaaDoor
open Go.RowKit
set_option linter.unusedVariables false
attribute [local go_sem] row_alloc row_drew row_drewN row_ext row_setCell row_setRow size_ext setRow_alloc setRow_drew loadOf storeOf piece_lit loadVal_at storeVal_at allOne_lit buildOf buildRes_some
attribute [local go_sem high] cell_alloc frozen_alloc setCell_alloc cell_ext frozen_ext cell_setRow frozen_setRow
attribute [local go_sem ↓] TDeed_ld0 TDeed_st0 TDeed_fd0 TDeed_bd0
attribute [local go_sem] TDeed_size TDeed_one TDeed_piece TDeed_c0 TDeed_c1 TDeed_c2 TDeed_c3 TDeed_c4 TDeed_c5 TDeed_set_kind TDeed_set_key TDeed_set_val TDeed_set_ver TDeed_set_ses TDeed_set_num TDeed_ld TDeed_st TDeed_f_kind TDeed_f_key TDeed_f_val TDeed_f_ver TDeed_f_ses TDeed_f_num TDeed_bd TDeed_fl TDeed_fl_kind TDeed_fl_key TDeed_fl_val TDeed_fl_ver TDeed_fl_ses TDeed_fl_num
attribute [local go_sem high] TDeed_eql TDeed_neq
attribute [local go_sem ↓] index_deps0 load_deps0 store_deps0
attribute [local go_sem] DV_piece DV_size DV_one index_deps load_deps store_deps
attribute [local go_sem high] TDeps_eql TDeps_neq
attribute [local go_sem ↓] TCall_ld0 TCall_st0 TCall_fd0 TCall_bd0
attribute [local go_sem] TCall_size TCall_one TCall_piece TCall_c0 TCall_c1 TCall_c2 TCall_c3 TCall_c4 TCall_c5 TCall_c6 TCall_c7 TCall_c8 TCall_c9 TCall_c10 TCall_c11 TCall_c12 TCall_c13 TCall_p_deed TCall_put_deed TCall_p_deps TCall_put_deps TCall_set_seq TCall_ld TCall_st TCall_f_deed TCall_f_deps TCall_f_seq TCall_bd TCall_fl TCall_fl_deed TCall_fl_deps TCall_fl_seq
attribute [local go_sem high] TCall_eql TCall_neq
attribute [local go_sem ↓] TItem_ld0 TItem_st0 TItem_fd0 TItem_bd0
attribute [local go_sem] TItem_size TItem_one TItem_piece TItem_c0 TItem_c1 TItem_set_rep TItem_set_num TItem_ld TItem_st TItem_f_rep TItem_f_num TItem_bd TItem_fl TItem_fl_rep TItem_fl_num
attribute [local go_sem high] TItem_eql TItem_neq
attribute [local go_sem ↓] TBallot_ld0 TBallot_st0 TBallot_fd0 TBallot_bd0
attribute [local go_sem] TBallot_size TBallot_one TBallot_piece TBallot_c0 TBallot_c1 TBallot_set_round TBallot_set_rep TBallot_ld TBallot_st TBallot_f_round TBallot_f_rep TBallot_bd TBallot_fl TBallot_fl_round TBallot_fl_rep
attribute [local go_sem high] TBallot_eql TBallot_neq
attribute [local go_sem ↓] TMsg_ld0 TMsg_st0 TMsg_fd0 TMsg_bd0
attribute [local go_sem] TMsg_size TMsg_one TMsg_piece TMsg_c0 TMsg_c1 TMsg_c2 TMsg_c3 TMsg_c4 TMsg_c5 TMsg_c6 TMsg_c7 TMsg_c8 TMsg_c9 TMsg_c10 TMsg_c11 TMsg_c12 TMsg_c13 TMsg_c14 TMsg_c15 TMsg_c16 TMsg_c17 TMsg_c18 TMsg_c19 TMsg_c20 TMsg_c21 TMsg_c22 TMsg_c23 TMsg_c24 TMsg_set_kind TMsg_set_frm TMsg_set_to TMsg_p_item TMsg_put_item TMsg_p_bal TMsg_put_bal TMsg_p_vote TMsg_put_vote TMsg_set_status TMsg_set_same TMsg_p_call TMsg_put_call TMsg_ld TMsg_st TMsg_f_kind TMsg_f_frm TMsg_f_to TMsg_f_item TMsg_f_bal TMsg_f_vote TMsg_f_status TMsg_f_same TMsg_f_call TMsg_bd TMsg_fl TMsg_fl_kind TMsg_fl_frm TMsg_fl_to TMsg_fl_item TMsg_fl_bal TMsg_fl_vote TMsg_fl_status TMsg_fl_same TMsg_fl_call
attribute [local go_sem high] TMsg_eql TMsg_neq
theorem AnsK.quiet {f : FuncId} {args : Array Value} {v : Value} {W n : World} (h : AnsK f args v) (hk : row? W 0 = some KV) : Calls Tryd.prog f args (ext W n) fun e w'' => e = .returned v ∧ ∃ m, w'' = ext W m :=
  (h (ext W n) (by rw [row_ext, if_pos (row_lt hk)]; exact hk)).mono fun _ _ ⟨he, hb⟩ => ⟨he, ext_of ((ext_below W n).trans (hb.mono (ext_size W n)))⟩
theorem bare1 {m : Msg} {n : Int} (v : Ballot) (s : Int) (hg : goodM m n = true) (hk : m.kind ≠ 7) : goodM { m with vote := v, status := s } n = (eqA (BV v) (BV noBallot) && s == 0) := by
  have g := (goodM_iff _ _).1 hg
  have hkb : knownB m.kind = false := by unfold knownB; simpa using hk
  rw [Bool.eq_iff_iff, goodM_iff, Bool.and_eq_true, eqA_iff, beq_iff_eq]
  constructor
  · intro h; exact h.bare hkb
  · intro h
    refine ⟨g.kind, g.frm, g.to, g.rep, g.num, g.round, g.brep, g.call, g.none, fun _ => h, g.same, fun hx => ?_⟩
    rw [show ({ m with vote := v, status := s } : Msg).kind = m.kind from rfl, hkb] at hx; cases hx
theorem bare2 {m : Msg} {n : Int} (v : Ballot) (s : Int) (c : Call) (hg : goodM m n = true) (hk : m.kind ≠ 7) (hcb : callsB m.kind = false) : goodM { m with vote := v, status := s, call := c } n = (eqA (BV v) (BV noBallot) && s == 0 && eqA (CV c) (CV noCall)) := by
  have g := (goodM_iff _ _).1 hg
  have hkb : knownB m.kind = false := by unfold knownB; simpa using hk
  rw [Bool.eq_iff_iff, goodM_iff, Bool.and_eq_true, Bool.and_eq_true, eqA_iff, eqA_iff, beq_iff_eq]
  constructor
  · intro h; exact ⟨h.bare hkb, h.none hcb⟩
  · intro h
    refine ⟨g.kind, g.frm, g.to, g.rep, g.num, g.round, g.brep, fun hx => ?_, fun _ => h.2, fun _ => h.1, g.same, fun hx => ?_⟩
    · rw [show ({ m with vote := v, status := s, call := c } : Msg).kind = m.kind from rfl, hcb] at hx; cases hx
    · rw [show ({ m with vote := v, status := s, call := c } : Msg).kind = m.kind from rfl, hkb] at hx; cases hx
set_option maxHeartbeats 4000000 in
set_option maxRecDepth 10000 in
theorem law_mbare (m : Msg) (n : Int) (o : Msg) (hfa : MsgFits m) (hfb : MsgFits o) : AnsL 4 #[.agg (MV m), .int .i64 n, .agg (MV o)] (.bool true) := by
  refine AnsL.of_sts fun t w h0 => ?_
  have T := ((((Sts.startK h0).new (MV m) 33).new (MV o) 33).rot2)
  simp only [World.size_alloc] at T
  -- rows: kinds, o, m
  have ca := great7 m hfa.call.deed.key hfa.call.deed.val
  have cb := great7 o hfb.call.deed.key hfb.call.deed.val
  by_cases hza : 200 < m.call.deed.key.size + m.call.deed.val.size
  · rw [decide_eq_true hza] at ca
    have CA := Lib.hid ca; clear ca cb hza hfa hfb
    go_enter Tryd.func4, Tryd.ntmps4
    go_wp2_with fail
    refine (AnsL.at alive7 T).mono ?_; clear T; rintro e w1 ⟨rfl, T⟩
    have hr := T.row2
    go_wp2_with fail
    refine (Ans.at CA.out T).mono ?_; clear T hr; rintro e w2 ⟨rfl, T⟩
    go_wp2
    go_ret
    exact ⟨rfl, T.swap.drop.swap.drop⟩
  rw [decide_eq_false hza] at ca
  have CA := Lib.hid ca; clear ca
  by_cases hzb : 200 < o.call.deed.key.size + o.call.deed.val.size
  · rw [decide_eq_true hzb] at cb
    have CB := Lib.hid cb; clear cb hza hzb hfa hfb
    go_enter Tryd.func4, Tryd.ntmps4
    go_wp2_with fail
    refine (AnsL.at alive7 T).mono ?_; clear T; rintro e w1 ⟨rfl, T⟩
    have hr := T.row2
    go_wp2_with fail
    refine (Ans.at CA.out T).mono ?_; clear T hr; rintro e w2 ⟨rfl, T⟩
    have hr := T.row1
    go_wp2_with fail
    refine (Ans.at CB.out T).mono ?_; clear T hr; rintro e w3 ⟨rfl, T⟩
    go_wp2
    go_ret
    exact ⟨rfl, T.swap.drop.swap.drop⟩
  rw [decide_eq_false hzb] at cb
  have CB := Lib.hid cb; clear cb hza hzb hfa hfb
  have cg := rmailGood_any m n
  have ck := rcalls_any m.kind
  go_enter Tryd.func4, Tryd.ntmps4
  go_wp2_with fail
  refine (AnsL.at alive7 T).mono ?_; clear T; rintro e w1 ⟨rfl, T⟩
  have hr := T.row2
  go_wp2_with fail
  refine (Ans.at CA.out T).mono ?_; clear T hr; rintro e w2 ⟨rfl, T⟩
  have hr := T.row1
  go_wp2_with fail
  refine (Ans.at CB.out T).mono ?_; clear T hr CA CB; rintro e w3 ⟨rfl, T⟩
  have hra := T.row2
  cases hg : goodM m n
  · rw [hg] at cg
    have CG := Lib.hid cg; clear cg ck hg
    go_wp2_with fail
    refine (Ans.at CG.out T).mono ?_; clear T hra; rintro e w4 ⟨rfl, T⟩
    go_wp2
    go_ret
    exact ⟨rfl, T.swap.drop.swap.drop⟩
  rw [hg] at cg
  have CG := Lib.hid cg; clear cg
  cases hk7 : (m.kind == 7)
  case true =>
    clear ck hg
    go_wp2_with fail
    refine (Ans.at CG.out T).mono ?_; clear T hra; rintro e w4 ⟨rfl, T⟩
    have hra := row_cell T.row2
    go_wp2
    go_ret
    exact ⟨rfl, T.swap.drop.swap.drop⟩
  have hne : m.kind ≠ 7 := by simpa using hk7
  cases hcb : callsB m.kind
  · rw [hcb] at ck
    have CK := Lib.hid ck; clear ck
    have hx := bare2 o.vote o.status o.call hg hne hcb
    have cx := mailGood_any { m with vote := o.vote, status := o.status, call := o.call } n
    rw [hx] at cx
    have CX := Lib.hid cx; clear cx hx hg hne hcb
    go_wp2_with fail
    refine (Ans.at CG.out T).mono ?_; clear T hra; rintro e w4 ⟨rfl, T⟩
    have hra := T.row2
    have hca := row_cell hra
    have hro := T.row1
    have hco := row_cell hro
    have hla := row_lt hra
    have hlo := row_lt hro
    have T := (T.new (MV { m with vote := o.vote, status := o.status }) 33).swap
    go_wp2_with fail
    refine (Ans.at CK.out T).mono ?_; clear T hra hca hro hco hla hlo CG; rintro e w5 ⟨rfl, T⟩
    -- rows: kinds, x, o, m
    have hro := T.row2
    have hco := row_cell hro
    have hrx := T.row1
    have hlx := row_lt hrx
    have hlo := row_lt hro
    have hne : w4.heap.size ≠ w.heap.size + 1 := T.drop.ne
    have T := T.swap.setRow (MV { m with vote := o.vote, status := o.status, call := o.call })
    have hk := T.knd1
    cases hv : eqA (BV o.vote) (BV noBallot)
    · rw [hv] at CX
      go_wp2_with fail
      refine wp_region_ext (by kernel_rfl) (by kernel_rfl) ?_
      repeat (go_big_quiet_step (first | (go_at_call 13; exact CX.out.quiet hk)))
      refine wpQuiet_nil ?_
      rintro _ ⟨x9, rfl⟩
      have T := T.ext x9
      go_wp2_with fail
      go_ret
      exact ⟨rfl, T.drop.swap.drop.swap.drop⟩
    · rw [hv] at CX
      cases hst : (o.status == 0)
      · rw [hst] at CX
        go_wp2_with fail
        refine wp_region_ext (by kernel_rfl) (by kernel_rfl) ?_
        repeat (go_big_quiet_step (first | (go_at_call 13; exact CX.out.quiet hk)))
        refine wpQuiet_nil ?_
        rintro _ ⟨x9, rfl⟩
        have T := T.ext x9
        go_wp2_with fail
        go_ret
        exact ⟨rfl, T.drop.swap.drop.swap.drop⟩
      · rw [hst] at CX
        cases hc : eqA (CV o.call) (CV noCall)
        · rw [hc] at CX
          go_wp2_with fail
          refine wp_region_ext (by kernel_rfl) (by kernel_rfl) ?_
          repeat (go_big_quiet_step (first | (go_at_call 13; exact CX.out.quiet hk)))
          refine wpQuiet_nil ?_
          rintro _ ⟨x9, rfl⟩
          have T := T.ext x9
          go_wp2_with fail
          go_ret
          exact ⟨rfl, T.drop.swap.drop.swap.drop⟩
        · rw [hc] at CX
          go_wp2_with fail
          refine wp_region_ext (by kernel_rfl) (by kernel_rfl) ?_
          repeat (go_big_quiet_step (first | (go_at_call 13; exact CX.out.quiet hk)))
          refine wpQuiet_nil ?_
          rintro _ ⟨x9, rfl⟩
          have T := T.ext x9
          go_wp2_with fail
          go_ret
          exact ⟨rfl, T.drop.swap.drop.swap.drop⟩
  · rw [hcb] at ck
    have CK := Lib.hid ck; clear ck
    have hx := bare1 o.vote o.status hg hne
    have cx := mailGood_any { m with vote := o.vote, status := o.status } n
    rw [hx] at cx
    have CX := Lib.hid cx; clear cx hx hg hne hcb
    go_wp2_with fail
    refine (Ans.at CG.out T).mono ?_; clear T hra; rintro e w4 ⟨rfl, T⟩
    have hra := T.row2
    have hca := row_cell hra
    have hro := T.row1
    have hco := row_cell hro
    have hla := row_lt hra
    have hlo := row_lt hro
    have T := (T.new (MV { m with vote := o.vote, status := o.status }) 33).swap
    go_wp2_with fail
    refine (Ans.at CK.out T).mono ?_; clear T hra hca hro hco hla hlo CG; rintro e w5 ⟨rfl, T⟩
    have hro := T.row2
    have hco := row_cell hro
    have hrx := T.row1
    have hlx := row_lt hrx
    have hlo := row_lt hro
    have hk := T.knd
    cases hv : eqA (BV o.vote) (BV noBallot)
    · rw [hv] at CX
      go_wp2_with fail
      refine wp_region_ext (by kernel_rfl) (by kernel_rfl) ?_
      repeat (go_big_quiet_step (first | (go_at_call 13; exact CX.out.quiet hk)))
      refine wpQuiet_nil ?_
      rintro _ ⟨x9, rfl⟩
      have T := T.ext x9
      go_wp2_with fail
      go_ret
      exact ⟨rfl, T.swap.drop.swap.drop.swap.drop⟩
    · rw [hv] at CX
      cases hst : (o.status == 0)
      · rw [hst] at CX
        go_wp2_with fail
        refine wp_region_ext (by kernel_rfl) (by kernel_rfl) ?_
        repeat (go_big_quiet_step (first | (go_at_call 13; exact CX.out.quiet hk)))
        refine wpQuiet_nil ?_
        rintro _ ⟨x9, rfl⟩
        have T := T.ext x9
        go_wp2_with fail
        go_ret
        exact ⟨rfl, T.swap.drop.swap.drop.swap.drop⟩
      · rw [hst] at CX
        go_wp2_with fail
        refine wp_region_ext (by kernel_rfl) (by kernel_rfl) ?_
        repeat (go_big_quiet_step (first | (go_at_call 13; exact CX.out.quiet hk)))
        refine wpQuiet_nil ?_
        rintro _ ⟨x9, rfl⟩
        have T := T.ext x9
        go_wp2_with fail
        go_ret
        exact ⟨rfl, T.swap.drop.swap.drop.swap.drop⟩
end Go.Proofs.YtahajjfbkdocaaaDoor
/- Layer 7: the law of cuts, walked. -/
namespace Go.Proofs.YtahajjfbkdocaaaDoor
open Go.RowKit
set_option linter.unusedVariables false
attribute [local go_sem] row_alloc row_drew row_drewN row_ext row_setCell row_setRow size_ext setRow_alloc setRow_drew loadOf storeOf piece_lit loadVal_at storeVal_at allOne_lit buildOf buildRes_some
attribute [local go_sem high] cell_alloc frozen_alloc setCell_alloc cell_ext frozen_ext cell_setRow frozen_setRow
attribute [local go_sem ↓] TDeed_ld0 TDeed_st0 TDeed_fd0 TDeed_bd0
attribute [local go_sem] TDeed_size TDeed_one TDeed_piece TDeed_c0 TDeed_c1 TDeed_c2 TDeed_c3 TDeed_c4 TDeed_c5 TDeed_set_kind TDeed_set_key TDeed_set_val TDeed_set_ver TDeed_set_ses TDeed_set_num TDeed_ld TDeed_st TDeed_f_kind TDeed_f_key TDeed_f_val TDeed_f_ver TDeed_f_ses TDeed_f_num TDeed_bd TDeed_fl TDeed_fl_kind TDeed_fl_key TDeed_fl_val TDeed_fl_ver TDeed_fl_ses TDeed_fl_num
attribute [local go_sem high] TDeed_eql TDeed_neq
attribute [local go_sem ↓] index_deps0 load_deps0 store_deps0
attribute [local go_sem] DV_piece DV_size DV_one index_deps load_deps store_deps
attribute [local go_sem high] TDeps_eql TDeps_neq
attribute [local go_sem ↓] TCall_ld0 TCall_st0 TCall_fd0 TCall_bd0
attribute [local go_sem] TCall_size TCall_one TCall_piece TCall_c0 TCall_c1 TCall_c2 TCall_c3 TCall_c4 TCall_c5 TCall_c6 TCall_c7 TCall_c8 TCall_c9 TCall_c10 TCall_c11 TCall_c12 TCall_c13 TCall_p_deed TCall_put_deed TCall_p_deps TCall_put_deps TCall_set_seq TCall_ld TCall_st TCall_f_deed TCall_f_deps TCall_f_seq TCall_bd TCall_fl TCall_fl_deed TCall_fl_deps TCall_fl_seq
attribute [local go_sem high] TCall_eql TCall_neq
attribute [local go_sem ↓] TItem_ld0 TItem_st0 TItem_fd0 TItem_bd0
attribute [local go_sem] TItem_size TItem_one TItem_piece TItem_c0 TItem_c1 TItem_set_rep TItem_set_num TItem_ld TItem_st TItem_f_rep TItem_f_num TItem_bd TItem_fl TItem_fl_rep TItem_fl_num
attribute [local go_sem high] TItem_eql TItem_neq
attribute [local go_sem ↓] TBallot_ld0 TBallot_st0 TBallot_fd0 TBallot_bd0
attribute [local go_sem] TBallot_size TBallot_one TBallot_piece TBallot_c0 TBallot_c1 TBallot_set_round TBallot_set_rep TBallot_ld TBallot_st TBallot_f_round TBallot_f_rep TBallot_bd TBallot_fl TBallot_fl_round TBallot_fl_rep
attribute [local go_sem high] TBallot_eql TBallot_neq
attribute [local go_sem ↓] TMsg_ld0 TMsg_st0 TMsg_fd0 TMsg_bd0
attribute [local go_sem] TMsg_size TMsg_one TMsg_piece TMsg_c0 TMsg_c1 TMsg_c2 TMsg_c3 TMsg_c4 TMsg_c5 TMsg_c6 TMsg_c7 TMsg_c8 TMsg_c9 TMsg_c10 TMsg_c11 TMsg_c12 TMsg_c13 TMsg_c14 TMsg_c15 TMsg_c16 TMsg_c17 TMsg_c18 TMsg_c19 TMsg_c20 TMsg_c21 TMsg_c22 TMsg_c23 TMsg_c24 TMsg_set_kind TMsg_set_frm TMsg_set_to TMsg_p_item TMsg_put_item TMsg_p_bal TMsg_put_bal TMsg_p_vote TMsg_put_vote TMsg_set_status TMsg_set_same TMsg_p_call TMsg_put_call TMsg_ld TMsg_st TMsg_f_kind TMsg_f_frm TMsg_f_to TMsg_f_item TMsg_f_bal TMsg_f_vote TMsg_f_status TMsg_f_same TMsg_f_call TMsg_bd TMsg_fl TMsg_fl_kind TMsg_fl_frm TMsg_fl_to TMsg_fl_item TMsg_fl_bal TMsg_fl_vote TMsg_fl_status TMsg_fl_same TMsg_fl_call
attribute [local go_sem high] TMsg_eql TMsg_neq
def mx2 (x y : Int) : Int := if y > x then y else x
def mx4 (a b c d : Int) : Int := mx2 (mx2 (mx2 a b) c) d
theorem run_max4 {P : Program} (w : World) (ts : Array TypeId) (t : TypeId) (k k1 k2 k3 : IntKind) (a b c d : Int) : (Builtin.max_ ts t #[.int k a, .int k1 b, .int k2 c, .int k3 d]).run P w = .ok (.int k (mx4 a b c d)) w := by
  simp [Builtin.max_, Builtin.max2, mx4, mx2]
theorem mx4_le (a b c d : Int) : mx4 a b c d = a ∨ mx4 a b c d = b ∨ mx4 a b c d = c ∨ mx4 a b c d = d := by
  unfold mx4 mx2; omega
attribute [local go_sem] run_max4
set_option maxHeartbeats 4000000 in
set_option maxRecDepth 10000 in
theorem law_mcuts (m : Msg) (n cut : Int) (more : ByteArray) (hf : MsgFits m) (hm : more.size ≤ 140737488351232) : AnsL 7 #[.agg (MV m), .int .i64 n, .int .i64 cut, .string more] (.bool true) := by
  refine AnsL.of_sts fun t w h0 => ?_
  have T := ((Sts.startK h0).new (MV m) 33).swap
  have ca := great7 m hf.call.deed.key hf.call.deed.val
  by_cases hz : 200 < m.call.deed.key.size + m.call.deed.val.size
  · rw [decide_eq_true hz] at ca
    have CA := Lib.hid ca; clear ca hz hf
    go_enter Tryd.func7, Tryd.ntmps7
    go_wp2_with fail
    refine (AnsL.at alive7 T).mono ?_; clear T; rintro e w1 ⟨rfl, T⟩
    have hr := T.row1
    go_wp2_with fail
    refine (Ans.at CA.out T).mono ?_; clear T hr; rintro e w2 ⟨rfl, T⟩
    go_wp2
    go_ret
    exact ⟨rfl, T.swap.drop⟩
  rw [decide_eq_false hz] at ca
  have CA := Lib.hid ca; clear ca
  have hin := msgIn_of hf (by omega)
  clear hz hf
  have cg := rmailGood_any m n
  cases hg : goodM m n
  · rw [hg] at cg
    have CG := Lib.hid cg; clear cg hg hin
    go_enter Tryd.func7, Tryd.ntmps7
    go_wp2_with fail
    refine (AnsL.at alive7 T).mono ?_; clear T; rintro e w1 ⟨rfl, T⟩
    have hr := T.row1
    go_wp2_with fail
    refine (Ans.at CA.out T).mono ?_; clear T hr; rintro e w2 ⟨rfl, T⟩
    have hr := T.row1
    go_wp2_with fail
    refine (Ans.at CG.out T).mono ?_; clear T hr; rintro e w3 ⟨rfl, T⟩
    go_wp2
    go_ret
    exact ⟨rfl, T.swap.drop⟩
  rw [hg] at cg
  have CG := Lib.hid cg; clear cg
  by_cases hn : n ≤ 7
  case neg =>
    clear hg hin
    go_enter Tryd.func7, Tryd.ntmps7
    go_wp2_with fail
    refine (AnsL.at alive7 T).mono ?_; clear T; rintro e w1 ⟨rfl, T⟩
    have hr := T.row1
    go_wp2_with fail
    refine (Ans.at CA.out T).mono ?_; clear T hr; rintro e w2 ⟨rfl, T⟩
    have hr := T.row1
    go_wp2_with fail
    refine (Ans.at CG.out T).mono ?_; clear T hr; rintro e w3 ⟨rfl, T⟩
    go_wp2
    go_ret
    exact ⟨rfl, T.swap.drop⟩
  by_cases hm0 : more.toList = []
  · have hmb : (more.toList == []) = true := by rw [hm0]; rfl
    have hmb2 : more.toList.isEmpty = true := by rw [hm0]; rfl
    clear hg hin
    go_enter Tryd.func7, Tryd.ntmps7
    go_wp2_with fail
    refine (AnsL.at alive7 T).mono ?_; clear T; rintro e w1 ⟨rfl, T⟩
    have hr := T.row1
    go_wp2_with fail
    refine (Ans.at CA.out T).mono ?_; clear T hr; rintro e w2 ⟨rfl, T⟩
    have hr := T.row1
    go_wp2_with fail
    refine (Ans.at CG.out T).mono ?_; clear T hr; rintro e w3 ⟨rfl, T⟩
    go_wp2
    go_ret
    exact ⟨rfl, T.swap.drop⟩
  have hmb2 : more.toList.isEmpty = false := by simpa using hm0
  by_cases hms : 100 < more.size
  · clear hg hin
    go_enter Tryd.func7, Tryd.ntmps7
    go_wp2_with fail
    refine (AnsL.at alive7 T).mono ?_; clear T; rintro e w1 ⟨rfl, T⟩
    have hr := T.row1
    go_wp2_with fail
    refine (Ans.at CA.out T).mono ?_; clear T hr; rintro e w2 ⟨rfl, T⟩
    have hr := T.row1
    go_wp2_with fail
    refine (Ans.at CG.out T).mono ?_; clear T hr; rintro e w3 ⟨rfl, T⟩
    go_wp2
    go_ret
    exact ⟨rfl, T.swap.drop⟩
  -- the road
  have hl := mailB_len hin (by omega)
  have hp := sealS_pos (t := mailB m) (by omega)
  have hle := sealS_len (t := mailB m) (by omega)
  obtain ⟨t0, ht0⟩ : ∃ t0, t0 = mailB m := ⟨_, rfl⟩
  obtain ⟨s0, hs0⟩ : ∃ s0, s0 = sealS (mailB m) := ⟨_, rfl⟩
  have db := mailBytesD t m n 200 hin (by omega)
  rw [show bytesM m n = (s0, 0) by unfold bytesM; rw [if_pos ⟨hg, hn⟩, hs0]] at db
  have DB := Lib.hid db; clear db
  rw [← hs0] at hp hle
  have hle2 : s0.length ≤ 2013 := by omega
  -- cut
  obtain ⟨k, hk⟩ : ∃ k, k = (IntKind.u64.wrap cut).toNat % s0.length := ⟨_, rfl⟩
  have hkl : k < s0.length := by rw [hk]; exact Nat.mod_lt _ hp
  have r1 : readM (s0.take k) n = (noMsg, 4) := by
    refine read_no (open_cut (t := mailB m) (r := s0.drop k) (by omega) (by rw [← hs0, List.take_append_drop]) ?_)
    intro h
    have := congrArg List.length h
    simp at this; omega
  have r2 : readM (s0 ++ more.data.toList) n = (noMsg, 4) := by
    refine read_no (.inr ?_)
    have := open_seal (t := mailB m) (by omega) more.data.toList
    rw [← hs0] at this
    rw [this]
    intro h
    rw [List.length_append] at h
    simp only at h
    have h2 : more.data.toList = [] := List.eq_nil_of_length_eq_zero (by omega)
    rw [ByteArray.toList_eq] at hm0
    exact hm0 h2
  obtain ⟨q, hq⟩ : ∃ q, q = mx4 m.frm m.to m.item.rep m.bal.rep := ⟨_, rfl⟩
  have hmx := mx4_le m.frm m.to m.item.rep m.bal.rep
  rw [← hq] at hmx
  have r3 : readM s0 q = (noMsg, 4) := by
    rw [hs0]
    refine read_fewer (by omega) hin hg hn ?_
    cases hq2 : goodM m q
    · rfl
    · have g := (goodM_iff _ _).1 hq2
      have a1 := g.frm; have a2 := g.to; have a3 := g.rep; have a4 := g.brep
      exfalso; omega
  have d1 := mailReadD t (s0.take k) n (by rw [List.length_take]; omega)
  have d2 := mailReadD t (s0 ++ more.data.toList) n (by rw [List.length_append, show more.data.toList.length = more.size from rfl]; omega)
  have d3 := mailReadD t s0 q (by omega)
  rw [r1] at d1; rw [r2] at d2; rw [r3] at d3
  have hcut : (strL s0).extract 0 k = strL (s0.take k) := strL_take _ _
  have happ : strL s0 ++ more = strL (s0 ++ more.data.toList) := strL_add _ _
  rw [← happ] at d2
  rw [← hcut] at d1
  have D1 := Lib.hid d1; have D2 := Lib.hid d2; have D3 := Lib.hid d3
  clear d1 d2 d3 r1 r2 r3 hmx hcut happ hg hin hl ht0 hs0
  have hsz := strL_size s0
  rw [← hsz] at hk hp hkl
  have hsle : (strL s0).size ≤ 2013 := by rw [hsz]; exact hle2
  clear hsz hle hle2 t0
  generalize strL s0 = B at *
  have hu : 0 ≤ IntKind.u64.wrap cut ∧ IntKind.u64.wrap cut < 18446744073709551616 := by rw [IntKind.wrap_u64]; omega
  have hki : wrap64 ((IntKind.u64.wrap cut).tmod (B.size : Int)) = (k : Int) := by
    rw [Int.tmod_eq_emod_of_nonneg hu.1]
    have : (IntKind.u64.wrap cut) % (B.size : Int) = (k : Int) := by rw [hk, Int.natCast_emod, Int.toNat_of_nonneg hu.1]
    rw [this]; unfold wrap64; omega
  have hms2 : more.size ≤ 100 := by omega
  clear hk hu
  go_enter Tryd.func7, Tryd.ntmps7
  go_wp2_with fail
  refine (AnsL.at alive7 T).mono ?_; clear T; rintro e w1 ⟨rfl, T⟩
  have hr := T.row1
  go_wp2_with fail
  refine (Ans.at CA.out T).mono ?_; clear T hr; rintro e w2 ⟨rfl, T⟩
  have hr := T.row1
  go_wp2_with fail
  refine (Ans.at CG.out T).mono ?_; clear T hr; rintro e w3 ⟨rfl, T⟩
  have hr := T.row1
  go_wp2_with fail
  refine (Does.at1 DB.out T).mono ?_; clear T hr; rintro e w4 ⟨rfl, T⟩
  go_wp2_with fail
  refine (Does.at1 D1.out T).mono ?_; clear T; rintro e w5 ⟨rfl, T⟩
  have T := T.keep (.cells (MV noMsg) 33)
  go_wp2_with fail
  refine (Does.at1 D2.out T).mono ?_; clear T; rintro e w6 ⟨rfl, T⟩
  have hr := T.row1
  have hc := row_cell hr
  have hlt := row_lt hr
  have T := T.keep (.cells (MV noMsg) 33)
  rw [hq] at D3
  go_wp2_with fail
  refine (Does.at1 D3.out T).mono ?_; clear T hr hc hlt; rintro e w7 ⟨rfl, T⟩
  go_wp2
  go_ret
  exact ⟨rfl, (T.keep _).swap.drop⟩
end Go.Proofs.YtahajjfbkdocaaaDoor
