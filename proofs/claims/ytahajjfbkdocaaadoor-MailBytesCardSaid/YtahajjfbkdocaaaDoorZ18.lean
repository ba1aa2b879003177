/- Several texts in one. -/
import Derived.Test.YtahajjfbkdocaaaDoorZ17
import Derived.Test.YtahajjfbkdocaaaDoorZ3
/- Layer 7: a message's bytes. -/
namespace Go.Proofs.YtahajjfbkdocaaaDoor
open Go.RowKit
set_option linter.unusedVariables false
attribute [local go_sem] row_alloc row_drew row_drewN row_ext row_setCell row_setRow size_ext setRow_alloc setRow_drew loadOf storeOf piece_lit loadVal_at storeVal_at allOne_lit buildOf buildRes_some
attribute [local go_sem high] cell_alloc frozen_alloc setCell_alloc cell_ext frozen_ext cell_setRow frozen_setRow
attribute [local go_sem ↓] TDeed_ld0 TDeed_st0 TDeed_fd0 TDeed_bd0
attribute [local go_sem] TDeed_size TDeed_one TDeed_piece TDeed_c0 TDeed_c1 TDeed_c2 TDeed_c3 TDeed_c4 TDeed_c5 TDeed_set_kind TDeed_set_key TDeed_set_val TDeed_set_ver TDeed_set_ses TDeed_set_num TDeed_ld TDeed_st TDeed_f_kind TDeed_f_key TDeed_f_val TDeed_f_ver TDeed_f_ses TDeed_f_num TDeed_bd TDeed_fl TDeed_fl_kind TDeed_fl_key TDeed_fl_val TDeed_fl_ver TDeed_fl_ses TDeed_fl_num
attribute [local go_sem high] TDeed_eql TDeed_neq
attribute [local go_sem ↓] index_deps0 load_deps0 store_deps0
attribute [local go_sem] DV_piece DV_size DV_one index_deps load_deps store_deps
attribute [local go_sem high] TDeps_eql TDeps_neq
attribute [local go_sem ↓] TCall_ld0 TCall_st0 TCall_fd0 TCall_bd0
attribute [local go_sem] TCall_size TCall_one TCall_piece TCall_c0 TCall_c1 TCall_c2 TCall_c3 TCall_c4 TCall_c5 TCall_c6 TCall_c7 TCall_c8 TCall_c9 TCall_c10 TCall_c11 TCall_c12 TCall_c13 TCall_p_deed TCall_put_deed TCall_p_deps TCall_put_deps TCall_set_seq TCall_ld TCall_st TCall_f_deed TCall_f_deps TCall_f_seq TCall_bd TCall_fl TCall_fl_deed TCall_fl_deps TCall_fl_seq
attribute [local go_sem high] TCall_eql TCall_neq
attribute [local go_sem ↓] TItem_ld0 TItem_st0 TItem_fd0 TItem_bd0
attribute [local go_sem] TItem_size TItem_one TItem_piece TItem_c0 TItem_c1 TItem_set_rep TItem_set_num TItem_ld TItem_st TItem_f_rep TItem_f_num TItem_bd TItem_fl TItem_fl_rep TItem_fl_num
attribute [local go_sem high] TItem_eql TItem_neq
attribute [local go_sem ↓] TBallot_ld0 TBallot_st0 TBallot_fd0 TBallot_bd0
attribute [local go_sem] TBallot_size TBallot_one TBallot_piece TBallot_c0 TBallot_c1 TBallot_set_round TBallot_set_rep TBallot_ld TBallot_st TBallot_f_round TBallot_f_rep TBallot_bd TBallot_fl TBallot_fl_round TBallot_fl_rep
attribute [local go_sem high] TBallot_eql TBallot_neq
attribute [local go_sem ↓] TMsg_ld0 TMsg_st0 TMsg_fd0 TMsg_bd0
attribute [local go_sem] TMsg_size TMsg_one TMsg_piece TMsg_c0 TMsg_c1 TMsg_c2 TMsg_c3 TMsg_c4 TMsg_c5 TMsg_c6 TMsg_c7 TMsg_c8 TMsg_c9 TMsg_c10 TMsg_c11 TMsg_c12 TMsg_c13 TMsg_c14 TMsg_c15 TMsg_c16 TMsg_c17 TMsg_c18 TMsg_c19 TMsg_c20 TMsg_c21 TMsg_c22 TMsg_c23 TMsg_c24 TMsg_set_kind TMsg_set_frm TMsg_set_to TMsg_p_item TMsg_put_item TMsg_p_bal TMsg_put_bal TMsg_p_vote TMsg_put_vote TMsg_set_status TMsg_set_same TMsg_p_call TMsg_put_call TMsg_ld TMsg_st TMsg_f_kind TMsg_f_frm TMsg_f_to TMsg_f_item TMsg_f_bal TMsg_f_vote TMsg_f_status TMsg_f_same TMsg_f_call TMsg_bd TMsg_fl TMsg_fl_kind TMsg_fl_frm TMsg_fl_to TMsg_fl_item TMsg_fl_bal TMsg_fl_vote TMsg_fl_status TMsg_fl_same TMsg_fl_call
attribute [local go_sem high] TMsg_eql TMsg_neq
attribute [local go_sem ↓] TCarries_ld0 TCarries_st0 TCarries_fd0 TCarries_bd0
attribute [local go_sem] TCarries_size TCarries_one TCarries_piece TCarries_c0 TCarries_c1 TCarries_set_call TCarries_set_known TCarries_ld TCarries_st TCarries_f_call TCarries_f_known TCarries_bd TCarries_fl TCarries_fl_call TCarries_fl_known
attribute [local go_sem high] TCarries_eql TCarries_neq
attribute [local go_sem] KV_size
structure MsgIn (m : Msg) (N : Nat) : Prop where
  kind : In64 m.kind
  frm : In64 m.frm
  to : In64 m.to
  rep : In64 m.item.rep
  num : In64 m.item.num
  round : In64 m.bal.round
  brep : In64 m.bal.rep
  vround : In64 m.vote.round
  vrep : In64 m.vote.rep
  status : In64 m.status
  call : CallIn m.call N
/-- A message's bytes, not sealed. -/
def mailB (m : Msg) : List UInt8 := encs [m.kind, m.frm, m.to] ++ encs [m.item.rep, m.item.num] ++ encs [m.bal.round, m.bal.rep] ++ (if knownB m.kind then encs [m.vote.round, m.vote.rep] ++ enc m.status.toNat else []) ++ (if knownB m.kind || m.kind == 2 then bitB m.same else []) ++ (if callsB m.kind then callB m.call else [])
theorem encs_le {ns : List Int} (h : ∀ n ∈ ns, -9223372036854775808 ≤ n ∧ n < 9223372036854775808) : (encs ns).length ≤ 9 * ns.length := encs_len fun n hn => (h n hn).2
theorem three_in {a b c : Int} (ha : In64 a) (hb : In64 b) (hc : In64 c) : ∀ n ∈ [a, b, c], -9223372036854775808 ≤ n ∧ n < 9223372036854775808 := by
  intro n hn; simp at hn; rcases hn with rfl | rfl | rfl
  · exact ha
  · exact hb
  · exact hc
theorem one_in {a : Int} (ha : In64 a) : ∀ n ∈ [a], -9223372036854775808 ≤ n ∧ n < 9223372036854775808 := by
  intro n hn; simp at hn; subst hn; exact ha
set_option maxHeartbeats 8000000 in
set_option maxRecDepth 10000 in
theorem mailPutD (t : TypeId) (g : Nat) (l : List UInt8) (m : Msg) (N : Nat) (h : MsgIn m N) (hN : N ≤ 1000) (hk : 0 ≤ m.kind ∧ m.kind ≤ 8) (hb : l.length ≤ 10000) :
    Does Tryd.prog 19 #[.pointer (some ⟨g, 0, none⟩), .agg (MV m)] [snkR g l, kndR t] (.tuple #[]) [snkR g (l ++ mailB m), kndR t] := by
  intro W G hS
  have T := ((Sts.start hS).new (MV m) 33).new #[.int .i64 m.kind, .int .i64 m.frm, .int .i64 m.to] 3
  clear hS
  have e1 := encs_le (three_in h.kind h.frm h.to)
  have e2 := encs_le (two_in h.rep h.num)
  have e3 := encs_le (two_in h.round h.brep)
  have e4 := encs_le (two_in h.vround h.vrep)
  have e5 := enc_len9 (n := m.status.toNat) (by have := h.status; unfold In64 at this; omega)
  have hp := KV_piece m.kind.toNat (by omega)
  have hs : m.kind.toNat * 2 + 2 ≤ 18 := by omega
  rw [show ((m.kind.toNat : Nat) : Int) = m.kind by omega] at hp
  obtain ⟨q1, q2⟩ := hk
  have hm : mailB m = encs [m.kind, m.frm, m.to] ++ encs [m.item.rep, m.item.num] ++ encs [m.bal.round, m.bal.rep] ++ (if knownB m.kind then encs [m.vote.round, m.vote.rep] ++ enc m.status.toNat else []) ++ (if knownB m.kind || m.kind == 2 then bitB m.same else []) ++ (if callsB m.kind then callB m.call else []) := rfl
  simp only [List.length_cons, List.length_nil] at e1 e2 e3 e4
  simp only [World.size_alloc] at T
  -- the rows: ints, message, sink, kinds
  go_enter Tryd.func19, Tryd.ntmps19
  go_wp2_with fail
  refine (Does.at2 (sinkNatD g l (W.heap.size + 1) 0 3 _ [m.kind, m.frm, m.to] ?_ (three_in h.kind h.frm h.to) (by simp; omega)) T.rot2.swap2.swap2).mono ?_; clear T
  · intro j hj
    match j, hj with
    | 0, _ => rfl
    | 1, _ => rfl
    | 2, _ => rfl
  rintro e w1 ⟨rfl, T⟩
  have T := T.swap.drop
  have hr := T.row1
  have hlt := row_lt hr
  go_wp2_with fail
  refine (Does.at1 (itemPutD g _ m.item h.rep h.num (by rw [List.length_append]; omega)) T).mono ?_; clear T hr hlt; rintro e w2 ⟨rfl, T⟩
  have hr := T.row1
  have hlt := row_lt hr
  go_wp2_with fail
  refine (Does.at1 (balPutD g _ m.bal h.round h.brep (by simp only [List.length_append]; omega)) T).mono ?_; clear T hr hlt; rintro e w3 ⟨rfl, T⟩
  have hr := T.row1
  have hlt := row_lt hr
  have hc := row_cell hr
  have hrk := T.knd2
  have hlk := row_lt hrk
  cases hkb : knownB m.kind
  all_goals cases hcb : callsB m.kind
  case false.false =>
    rw [hkb, hcb] at hp
    rw [hkb, hcb] at hm
    have hk2 : (m.kind == 2) = false := by
      rw [beq_eq_false_iff_ne]; intro e; rw [e] at hcb; simp [callsB] at hcb
    rw [hk2] at hm
    have HM := Lib.hid hm; clear hm hkb hcb
    go_wp2
    go_end0
    exact ⟨rfl, by rw [HM.out]; simpa using (T.keep _).swap.drop⟩
  case false.true =>
    rw [hkb, hcb] at hp
    rw [hkb, hcb] at hm
    cases hk2 : (m.kind == 2)
    · rw [hk2] at hm
      have HM := Lib.hid hm; clear hm hkb hcb
      have T := (T.keep (.cells (KRV ⟨true, false⟩) 60))
      go_wp2_with fail
      refine (Does.at1 (callPutD g _ m.call N h.call (by omega) (by simp only [List.length_append]; omega)) T).mono ?_; clear T hr hlt hc hrk hlk; rintro e w4 ⟨rfl, T⟩
      go_wp2
      go_end0
      exact ⟨rfl, by rw [HM.out]; simpa using T.swap.drop⟩
    · rw [hk2] at hm
      have HM := Lib.hid hm; clear hm hkb hcb
      have T := (T.new (KRV ⟨true, false⟩) 60)
      go_wp2_with fail
      refine (Does.at1 (sinkBitD g _ m.same (by simp only [List.length_append]; omega)) T.swap).mono ?_; clear T hr hlt hc hrk hlk; rintro e w4 ⟨rfl, T⟩
      have hr := T.row2
      have hlt := row_lt hr
      have hkc := row_cell T.row1
      have hbl : (bitB m.same).length = 1 := rfl
      go_wp2_with fail
      refine (Does.at1 (callPutD g _ m.call N h.call (by omega) (by simp only [List.length_append]; omega)) T).mono ?_; clear T hr hlt hkc; rintro e w5 ⟨rfl, T⟩
      go_wp2
      go_end0
      exact ⟨rfl, by rw [HM.out]; simpa using T.swap.drop.swap.drop⟩
  case true.false =>
    exfalso
    simp [knownB] at hkb
    simp [callsB, hkb] at hcb
  case true.true =>
    rw [hkb, hcb] at hp
    rw [hkb, hcb] at hm
    have HM := Lib.hid hm; clear hm hkb hcb
    have T := (T.new (KRV ⟨true, true⟩) 60)
    go_wp2_with fail
    refine (Does.at1 (balPutD g _ m.vote h.vround h.vrep (by simp only [List.length_append]; omega)) T.swap).mono ?_; clear T hr hlt hc hrk hlk; rintro e w4 ⟨rfl, T⟩
    have hr := T.row2
    have hlt := row_lt hr
    have hc := row_cell hr
    have T := T.new #[.int .i64 m.status] 3
    go_wp2_with fail
    refine (Does.at2 (sinkNatD g _ w4.heap.size 0 1 _ [m.status] (by intro j hj; simp at hj; subst hj; rfl) (one_in h.status) (by simp only [List.length_append, List.length_cons, List.length_nil]; omega)) T.swap).mono ?_; clear T hr hlt hc; rintro e w5 ⟨rfl, T⟩
    have T := T.swap.drop
    have hkc := row_cell T.row1
    have hr := T.row2
    have hlt := row_lt hr
    have hc := row_cell hr
    have hes : (encs [m.status]).length = (enc m.status.toNat).length := by simp [encs]
    go_wp2_with fail
    refine (Does.at1 (sinkBitD g _ m.same (by simp only [List.length_append]; omega)) T).mono ?_; clear T hr hlt hc hkc; rintro e w6 ⟨rfl, T⟩
    have hkc := row_cell T.row1
    have hr := T.row2
    have hlt := row_lt hr
    have hbl : (bitB m.same).length = 1 := rfl
    go_wp2_with fail
    refine (Does.at1 (callPutD g _ m.call N h.call (by omega) (by simp only [List.length_append]; omega)) T).mono ?_; clear T hr hlt hkc; rintro e w7 ⟨rfl, T⟩
    go_wp2
    go_end0
    exact ⟨rfl, by rw [HM.out]; simpa [encs] using T.swap.drop.swap.drop⟩
end Go.Proofs.YtahajjfbkdocaaaDoor
/- Layer 6: the plain law of a sum, bit by bit. No program stands here. -/
namespace Go.Proofs.YtahajjfbkdocaaaDoor
set_option linter.unusedVariables false
def crcP : Nat := 3988292384
def crc1 (c : Nat) : Nat := if c % 2 = 1 then (c / 2) ^^^ crcP else c / 2
def crcN : Nat → Nat → Nat
  | 0, c => c
  | k + 1, c => crc1 (crcN k c)
def crcB (c b : Nat) : Nat := crcN 8 (c ^^^ b)
def crcL (c : Nat) (l : List UInt8) : Nat := l.foldl (fun c b => crcB c b.toNat) c
def crc (l : List UInt8) : Nat := 4294967295 - crcL 4294967295 l
theorem crc1_lt {c : Nat} (h : c < 4294967296) : crc1 c < 4294967296 := by
  unfold crc1
  split
  · exact Nat.xor_lt_two_pow (n := 32) (by omega) (by unfold crcP; omega)
  · omega
theorem crcN_lt {c : Nat} (h : c < 4294967296) : ∀ k, crcN k c < 4294967296
  | 0 => h
  | k + 1 => crc1_lt (crcN_lt h k)
theorem crcB_lt {c b : Nat} (h : c < 4294967296) (hb : b < 256) : crcB c b < 4294967296 := crcN_lt (Nat.xor_lt_two_pow (n := 32) (by omega) (by omega)) 8
theorem crcL_lt : ∀ {l : List UInt8} {c : Nat}, c < 4294967296 → crcL c l < 4294967296
  | [], _, h => h
  | b :: l, c, h => crcL_lt (l := l) (crcB_lt h b.toNat_lt)
theorem crcL_app (c : Nat) (l m : List UInt8) : crcL c (l ++ m) = crcL (crcL c l) m := by simp [crcL]
theorem crcL_snoc (c : Nat) (l : List UInt8) (b : UInt8) : crcL c (l ++ [b]) = crcB (crcL c l) b.toNat := by simp [crcL]
/-- The document's step for bit k of b. -/
def ref1 (c b k : Nat) : Nat := if b / 2 ^ k % 2 ≠ c % 2 then (c / 2) ^^^ crcP else c / 2
def refN (c b : Nat) : Nat → Nat
  | 0 => c
  | k + 1 => ref1 (refN c b k) b k
theorem xor_half (a b : Nat) : (a ^^^ b) / 2 = a / 2 ^^^ b / 2 := by
  have := Nat.shiftRight_xor_distrib (a := a) (b := b) (i := 1)
  simpa [Nat.shiftRight_eq_div_pow] using this
theorem xor_odd (a b : Nat) : (a ^^^ b) % 2 = (a + b) % 2 := by
  have h := Nat.xor_mod_two_pow (a := a) (b := b) (n := 1)
  simp only [Nat.pow_one] at h
  rw [h]
  rcases Nat.mod_two_eq_zero_or_one a with ha | ha <;> rcases Nat.mod_two_eq_zero_or_one b with hb | hb <;> rw [ha, hb] <;> simp <;> omega
theorem crc_ref (c b : Nat) : ∀ k, crcN k (c ^^^ b) = refN c b k ^^^ b / 2 ^ k
  | 0 => by simp [crcN, refN]
  | k + 1 => by
    rw [crcN, crc_ref c b k, refN]
    generalize refN c b k = e
    have hx : b / 2 ^ (k + 1) = b / 2 ^ k / 2 := by rw [Nat.pow_succ, Nat.div_div_eq_div_mul]
    rw [hx]
    generalize hy : b / 2 ^ k = x
    unfold crc1 ref1
    rw [hy, xor_half, xor_odd]
    by_cases h : x % 2 ≠ e % 2
    · rw [if_pos (by omega), if_pos h, Nat.xor_assoc, Nat.xor_comm (x / 2), ← Nat.xor_assoc]
    · rw [if_neg (by omega), if_neg h]
theorem crcB_ref {c b : Nat} (hb : b < 256) : crcB c b = refN c b 8 := by
  unfold crcB
  rw [crc_ref, show b / 2 ^ 8 = 0 by omega, Nat.xor_zero]
theorem refN_lt {c b : Nat} (h : c < 4294967296) : ∀ k, refN c b k < 4294967296
  | 0 => h
  | k + 1 => by
    have := refN_lt (b := b) h k
    rw [refN]; unfold ref1
    split
    · exact Nat.xor_lt_two_pow (n := 32) (by omega) (by unfold crcP; omega)
    · omega
theorem crc_lt (l : List UInt8) : crc l < 4294967296 := by unfold crc; omega
def fourB (c : Nat) : List UInt8 := [UInt8.ofNat c, UInt8.ofNat (c / 256), UInt8.ofNat (c / 65536), UInt8.ofNat (c / 16777216)]
/-- A text with its length, and its sum, ahead. -/
def sealB (l : List UInt8) (n : List UInt8) : List UInt8 := n ++ fourB (crc (n ++ l)) ++ l
end Go.Proofs.YtahajjfbkdocaaaDoor
