/- Several texts in one. -/
import Derived.Test.YtahajjfbkdocaaaDoorZ5
import Derived.Test.YtahajjfbkdocaaaDoorZ16
import Derived.Test.YtahajjfbkdocaaaDoorZ17
import Derived.Test.YtahajjfbkdocaaaDoorZ21
/- Endings with a row and a slot. Nothing of the program stands here. -/
namespace Go.Proofs.YtahajjfbkdocaaaDoor
open Go.RowKit
theorem ret_row_tmp {P : Program} {fn : Func} {R : Ending → World → Prop} {a : Act} {w : World} {p q : Tmp} {T : TypeId} {n : Nat} {d : TypeDesc} (X : Array Value) (v : Value) {g : Nat} (hu : P.underlying T = some d) (hd : d.isRow = true)
    (hi : (P.info? T).map (·.size) = some n) (hr : fn.results = #[.cell p T, .tmp q]) (hp : a.tmps.getD p undef = .pointer (some ⟨g, 0, none⟩)) (hv : a.tmps.getD q undef = v) (hdf : a.defers = []) (hX : X.size = n) (hrow : row? w g = some X) (hR : R (.returned (.tuple #[.agg X, v])) w) : bodyPost P fn R .ret a w := by
  obtain ⟨t, ht⟩ := row_some hrow
  refine bodyPost_ret ?_ hdf hR
  have hp' : a.tmps[p]?.getD undef = .pointer (some ⟨g, 0, none⟩) := by simpa using hp
  have hv' : a.tmps[q]?.getD undef = v := by simpa using hv
  have hl := run_loadVar_row w g t T X (0, 0) d ht hu (by cases d <;> first | rfl | exact hd) (by rw [hi, hX])
  simp [results, hr, hp', hv', asAddr, hl]
end Go.Proofs.YtahajjfbkdocaaaDoor
/- Layer 7: a message's bytes, sealed; a message read. -/
namespace Go.Proofs.YtahajjfbkdocaaaDoor
open Go.RowKit
set_option linter.unusedVariables false
attribute [local go_sem] row_alloc row_drew row_drewN row_ext row_setCell row_setRow size_ext setRow_alloc setRow_drew loadOf storeOf piece_lit loadVal_at storeVal_at allOne_lit buildOf buildRes_some
attribute [local go_sem high] cell_alloc frozen_alloc setCell_alloc cell_ext frozen_ext cell_setRow frozen_setRow
attribute [local go_sem ↓] TDeed_ld0 TDeed_st0 TDeed_fd0 TDeed_bd0
attribute [local go_sem] TDeed_size TDeed_one TDeed_piece TDeed_c0 TDeed_c1 TDeed_c2 TDeed_c3 TDeed_c4 TDeed_c5 TDeed_set_kind TDeed_set_key TDeed_set_val TDeed_set_ver TDeed_set_ses TDeed_set_num TDeed_ld TDeed_st TDeed_f_kind TDeed_f_key TDeed_f_val TDeed_f_ver TDeed_f_ses TDeed_f_num TDeed_bd TDeed_fl TDeed_fl_kind TDeed_fl_key TDeed_fl_val TDeed_fl_ver TDeed_fl_ses TDeed_fl_num
attribute [local go_sem high] TDeed_eql TDeed_neq
attribute [local go_sem ↓] index_deps0 load_deps0 store_deps0
attribute [local go_sem] DV_piece DV_size DV_one index_deps load_deps store_deps
attribute [local go_sem high] TDeps_eql TDeps_neq
attribute [local go_sem ↓] TCall_ld0 TCall_st0 TCall_fd0 TCall_bd0
attribute [local go_sem] TCall_size TCall_one TCall_piece TCall_c0 TCall_c1 TCall_c2 TCall_c3 TCall_c4 TCall_c5 TCall_c6 TCall_c7 TCall_c8 TCall_c9 TCall_c10 TCall_c11 TCall_c12 TCall_c13 TCall_p_deed TCall_put_deed TCall_p_deps TCall_put_deps TCall_set_seq TCall_ld TCall_st TCall_f_deed TCall_f_deps TCall_f_seq TCall_bd TCall_fl TCall_fl_deed TCall_fl_deps TCall_fl_seq
attribute [local go_sem high] TCall_eql TCall_neq
attribute [local go_sem ↓] TItem_ld0 TItem_st0 TItem_fd0 TItem_bd0
attribute [local go_sem] TItem_size TItem_one TItem_piece TItem_c0 TItem_c1 TItem_set_rep TItem_set_num TItem_ld TItem_st TItem_f_rep TItem_f_num TItem_bd TItem_fl TItem_fl_rep TItem_fl_num
attribute [local go_sem high] TItem_eql TItem_neq
attribute [local go_sem ↓] TBallot_ld0 TBallot_st0 TBallot_fd0 TBallot_bd0
attribute [local go_sem] TBallot_size TBallot_one TBallot_piece TBallot_c0 TBallot_c1 TBallot_set_round TBallot_set_rep TBallot_ld TBallot_st TBallot_f_round TBallot_f_rep TBallot_bd TBallot_fl TBallot_fl_round TBallot_fl_rep
attribute [local go_sem high] TBallot_eql TBallot_neq
attribute [local go_sem ↓] TMsg_ld0 TMsg_st0 TMsg_fd0 TMsg_bd0
attribute [local go_sem] TMsg_size TMsg_one TMsg_piece TMsg_c0 TMsg_c1 TMsg_c2 TMsg_c3 TMsg_c4 TMsg_c5 TMsg_c6 TMsg_c7 TMsg_c8 TMsg_c9 TMsg_c10 TMsg_c11 TMsg_c12 TMsg_c13 TMsg_c14 TMsg_c15 TMsg_c16 TMsg_c17 TMsg_c18 TMsg_c19 TMsg_c20 TMsg_c21 TMsg_c22 TMsg_c23 TMsg_c24 TMsg_set_kind TMsg_set_frm TMsg_set_to TMsg_p_item TMsg_put_item TMsg_p_bal TMsg_put_bal TMsg_p_vote TMsg_put_vote TMsg_set_status TMsg_set_same TMsg_p_call TMsg_put_call TMsg_ld TMsg_st TMsg_f_kind TMsg_f_frm TMsg_f_to TMsg_f_item TMsg_f_bal TMsg_f_vote TMsg_f_status TMsg_f_same TMsg_f_call TMsg_bd TMsg_fl TMsg_fl_kind TMsg_fl_frm TMsg_fl_to TMsg_fl_item TMsg_fl_bal TMsg_fl_vote TMsg_fl_status TMsg_fl_same TMsg_fl_call
attribute [local go_sem high] TMsg_eql TMsg_neq
attribute [local go_sem] KV_size
theorem mailB_len {m : Msg} {N : Nat} (h : MsgIn m N) (hN : N ≤ 1000) : (mailB m).length ≤ 2000 := by
  have e1 := encs_le (three_in h.kind h.frm h.to)
  have e2 := encs_le (two_in h.rep h.num)
  have e3 := encs_le (two_in h.round h.brep)
  have e4 := encs_le (two_in h.vround h.vrep)
  have e5 := enc_len9 (n := m.status.toNat) (by have := h.status; unfold In64 at this; omega)
  have e9 := callB_len h.call (by omega)
  simp only [List.length_cons, List.length_nil] at e1 e2 e3 e4
  have : (if knownB m.kind then encs [m.vote.round, m.vote.rep] ++ enc m.status.toNat else []).length ≤ 27 := by split <;> simp <;> omega
  have : (if knownB m.kind || m.kind == 2 then bitB m.same else []).length ≤ 1 := by split <;> simp [bitB]
  have : (if callsB m.kind then callB m.call else []).length ≤ N + 126 := by
    split
    · exact e9
    · simp
  unfold mailB
  simp only [List.length_append]
  omega
theorem AnsK.at {t : TypeId} {f : FuncId} {args : Array Value} {v : Value} {w W : World} {F : Nat → Prop} {L : List Res} (h : AnsK f args v) (T : Sts w F W (kndR t :: L)) : Calls Tryd.prog f args W fun e W' => e = .returned v ∧ Sts w F W' (kndR t :: L) := (h W T.knd).mono fun _ _ ⟨he, hb⟩ => ⟨he, T.pure hb⟩
noncomputable def bytesM (m : Msg) (n : Int) : List UInt8 × Int := if goodM m n = true ∧ n ≤ 7 then (sealS (mailB m), 0) else ([], 1)
theorem goodM_kind {m : Msg} {n : Int} (h : goodM m n = true) : 1 ≤ m.kind ∧ m.kind ≤ 8 ∧ 0 ≤ m.frm ∧ m.frm < n ∧ 0 ≤ m.to ∧ m.to < n := by
  unfold goodM at h
  simp only [Bool.and_eq_true, decide_eq_true_eq] at h
  exact h.1.1.1.1.1.1
set_option maxHeartbeats 1000000 in
theorem mailBytesD (t : TypeId) (m : Msg) (n : Int) (N : Nat) (h : MsgIn m N) (hN : N ≤ 1000) :
    Does Tryd.prog 11 #[.agg (MV m), .int .i64 n] [kndR t] (.tuple #[.string (strL (bytesM m n).1), .int .i64 (bytesM m n).2]) [kndR t] := by
  intro W G hS
  have T := ((Sts.start hS).new (MV m) 33).swap
  clear hS
  have cg := mailGood_any m n
  have hb : bytesM m n = if goodM m n = true ∧ n ≤ 7 then (sealS (mailB m), 0) else ([], 1) := rfl
  have hr := T.row1
  cases hg : goodM m n
  · rw [hg] at cg hb
    have CG := Lib.hid cg; clear cg
    rw [if_neg (by simp)] at hb
    have HB := Lib.hid hb; clear hb
    clear hg h
    go_enter Tryd.func11, Tryd.ntmps11
    go_wp2_with fail
    refine (AnsK.at CG.out T).mono ?_; clear T hr; rintro e w1 ⟨rfl, T⟩
    go_wp2
    go_ret2
    exact ⟨by rw [HB.out]; rfl, T.swap.drop⟩
  · have hk := goodM_kind hg
    rw [hg] at cg hb
    have CG := Lib.hid cg; clear cg hg
    by_cases h7 : n ≤ 7
    · rw [if_pos ⟨rfl, h7⟩] at hb
      have HB := Lib.hid hb; clear hb
      have hlen := mailB_len h hN
      have CS := Lib.hid (seal_any (mailB m) (by omega))
      have CP := Lib.hid (fun g => mailPutD t g [] m N h hN (by omega) (by simp))
      clear hlen hk h
      go_enter Tryd.func11, Tryd.ntmps11
      go_wp2_with fail
      refine (AnsK.at CG.out T).mono ?_; clear T hr; rintro e w1 ⟨rfl, T⟩
      have T := sinkNew T
      have hr := T.row2
      have hlt := row_lt hr
      go_wp2_with fail
      refine (Does.at2 (CP.out w1.heap.size) T).mono ?_; clear T hr hlt; rintro e w2 ⟨rfl, T⟩
      rw [List.nil_append] at T
      go_wp2_with fail
      refine (Does.at1 (sinkBytesD w1.heap.size _) T).mono ?_; clear T; rintro e w3 ⟨rfl, T⟩
      go_wp2_with fail
      refine (Ans.at CS.out T).mono ?_; clear T; rintro e w4 ⟨rfl, T⟩
      go_wp2
      go_ret2
      exact ⟨by rw [HB.out]; rfl, T.drop.swap.drop⟩
    · rw [if_neg (by simp [h7])] at hb
      have HB := Lib.hid hb; clear hb h hk
      go_enter Tryd.func11, Tryd.ntmps11
      go_wp2_with fail
      refine (AnsK.at CG.out T).mono ?_; clear T hr; rintro e w1 ⟨rfl, T⟩
      go_wp2
      go_ret2
      exact ⟨by rw [HB.out]; rfl, T.swap.drop⟩
noncomputable def readM (b : List UInt8) (n : Int) : Msg × Int :=
  if (openS b).2 = 0 ∨ (openS b).2 ≠ b.length then (noMsg, 4)
  else if (!(getM ⟨(openS b).1, false⟩).2.dry && (getM ⟨(openS b).1, false⟩).2.left.isEmpty) = true ∧ goodM (getM ⟨(openS b).1, false⟩).1 n = true ∧ n ≤ 7 then ((getM ⟨(openS b).1, false⟩).1, 0)
  else (noMsg, 4)
set_option maxHeartbeats 2000000 in
set_option maxRecDepth 10000 in
theorem mailReadD (t : TypeId) (b : List UInt8) (n : Int) (hb : b.length ≤ 1000000000) :
    Does Tryd.prog 14 #[.string (strL b), .int .i64 n] [kndR t] (.tuple #[.agg (MV (readM b n).1), .int .i64 (readM b n).2]) [kndR t] := by
  intro W G hS
  have T := ((Sts.start hS).new (MV noMsg) 33).swap
  clear hS
  have CO := Lib.hid (open_any b hb)
  have hsz := strL_size b
  have hrd : readM b n = if (openS b).2 = 0 ∨ (openS b).2 ≠ b.length then (noMsg, 4)
    else if (!(getM ⟨(openS b).1, false⟩).2.dry && (getM ⟨(openS b).1, false⟩).2.left.isEmpty) = true ∧ goodM (getM ⟨(openS b).1, false⟩).1 n = true ∧ n ≤ 7 then ((getM ⟨(openS b).1, false⟩).1, 0)
    else (noMsg, 4) := rfl
  generalize openS b = o at *
  have hr := T.row1
  have hlt := row_lt hr
  by_cases h1 : o.2 = 0 ∨ o.2 ≠ b.length
  · rw [if_pos h1] at hrd
    have HRD := Lib.hid hrd; clear hrd
    have h1' : ((o.2 : Int) == 0 || (o.2 : Int) != ((strL b).size : Int)) = true := by rw [hsz]; simp; omega
    generalize strL b = B at *
    clear hsz h1 hb
    go_enter Tryd.func14, Tryd.ntmps14
    go_wp2_with fail
    refine (Ans.at CO.out T).mono ?_; clear T hr hlt; rintro e w1 ⟨rfl, T⟩
    have hr := T.row1
    have hlt := row_lt hr
    have T := T.swap.setRow (MV noMsg)
    cases hz : ((o.2 : Int) == 0)
    · have hne : ((o.2 : Int) != (B.size : Int)) = true := by rw [hz] at h1'; simpa using h1'
      go_wp2
      exact ret_row_tmp _ _ TMsg_und rfl (by kernel_rfl) rfl rfl rfl rfl (TMsg_size _) (row_setRow_same _ _ _ _ hr) ⟨by rw [HRD.out]; rfl, T.drop⟩
    · go_wp2
      exact ret_row_tmp _ _ TMsg_und rfl (by kernel_rfl) rfl rfl rfl rfl (TMsg_size _) (row_setRow_same _ _ _ _ hr) ⟨by rw [HRD.out]; rfl, T.drop⟩
  · rw [if_neg h1] at hrd
    have hz : ((o.2 : Int) == 0) = false := by simp; omega
    have hne : ((o.2 : Int) != ((strL b).size : Int)) = false := by rw [hsz]; simp; omega
    clear hsz h1 hb
    have HRD := Lib.hid hrd; clear hrd
    generalize strL b = B at *
    go_enter Tryd.func14, Tryd.ntmps14
    go_wp2_with fail
    refine (Ans.at CO.out T).mono ?_; clear T hr hlt; rintro e w1 ⟨rfl, T⟩
    go_wp2_with fail
    refine (fromS T o.1).mono ?_; clear T hz hne; rintro e w2 ⟨rfl, T⟩
    generalize w1.heap.size = g at *
    go_wp2_with fail
    refine (Does.at2 (mailGetD t g _) T).mono ?_; clear T; rintro e w3 ⟨rfl, T⟩
    have hrd := HRD.out; clear HRD
    generalize getM ⟨o.1, false⟩ = x at *
    have cg := mailGood_any x.1 n
    have hl3 := row_lt T.row2
    have hne3 : W.heap.size ≠ w3.heap.size := by omega
    have T0 := T
    have T := T.new (MV x.1) 33
    -- rows: message, source, kinds, result
    have T := T.swap
    cases hov : (!x.2.dry && x.2.left.isEmpty)
    · rw [hov, if_neg (by simp)] at hrd
      have HRD := Lib.hid hrd; clear hrd
      have CV := Lib.hid (overQ T)
      rw [hov] at CV
      go_wp2_with fail
      refine CV.out.mono ?_; rintro e w4 ⟨rfl, rfl⟩
      have hr3 := T0.row2
      have T := (T0.rot2.setRow (MV noMsg)).new (MV x.1) 33
      clear T0
      go_wp2
      exact ret_row_tmp _ _ TMsg_und rfl (by kernel_rfl) rfl rfl rfl rfl (TMsg_size _) T.row1 ⟨by rw [HRD.out]; rfl, T.drop.drop.drop⟩
    · clear T0
      rw [hov] at hrd
      have CV := Lib.hid (overQ T)
      rw [hov] at CV
      have hrm := T.row1
      go_wp2_with fail
      refine CV.out.mono ?_; rintro e w4 ⟨rfl, rfl⟩
      cases hg : goodM x.1 n
      · rw [hg] at cg hrd
        rw [if_neg (by simp)] at hrd
        have HRD := Lib.hid hrd; clear hrd
        have CG := Lib.hid cg; clear cg
        go_wp2_with fail
        refine (AnsK.at CG.out T.rot2).mono ?_; clear T CV hrm; rintro e w4 ⟨rfl, T⟩
        have hr := T.row3
        have hlt := row_lt hr
        have T := T.rot3.setRow (MV noMsg)
        go_wp2
        exact ret_row_tmp _ _ TMsg_und rfl (by kernel_rfl) rfl rfl rfl rfl (TMsg_size _) (row_setRow_same _ _ _ _ hr) ⟨by rw [HRD.out]; rfl, T.drop.swap.drop.swap.drop⟩
      · rw [hg] at cg hrd
        have CG := Lib.hid cg; clear cg
        by_cases h7 : n ≤ 7
        · rw [if_pos (by simp [h7])] at hrd
          have HRD := Lib.hid hrd; clear hrd
          go_wp2_with fail
          refine (AnsK.at CG.out T.rot2).mono ?_; clear T CV hrm; rintro e w4 ⟨rfl, T⟩
          have hr := T.row3
          have hlt := row_lt hr
          have hrm := T.row2
          have hlm := row_lt hrm
          have T := T.rot3.setRow (MV x.1)
          go_wp2
          exact ret_row_tmp _ _ TMsg_und rfl (by kernel_rfl) rfl rfl rfl rfl (TMsg_size _) (row_setRow_same _ _ _ _ hr) ⟨by rw [HRD.out]; rfl, T.drop.swap.drop.swap.drop⟩
        · rw [if_neg (by simp [h7])] at hrd
          have HRD := Lib.hid hrd; clear hrd
          go_wp2_with fail
          refine (AnsK.at CG.out T.rot2).mono ?_; clear T CV hrm; rintro e w4 ⟨rfl, T⟩
          have hr := T.row3
          have hlt := row_lt hr
          have T := T.rot3.setRow (MV noMsg)
          go_wp2
          exact ret_row_tmp _ _ TMsg_und rfl (by kernel_rfl) rfl rfl rfl rfl (TMsg_size _) (row_setRow_same _ _ _ _ hr) ⟨by rw [HRD.out]; rfl, T.drop.swap.drop.swap.drop⟩
end Go.Proofs.YtahajjfbkdocaaaDoor
