/- Several texts in one. -/
import Derived.Test.YtpganpiidgkofaaZ33
import Derived.Test.YtpganpiidgkofaaZ10
import Derived.Test.YtpganpiidgkofaaZ8
import Derived.Test.YtpganpiidgkofaaZ20
/- Layer 9: more than is played? -/
namespace Go.Proofs.Ytpganpiidgkofaa
open Go.RowKit
set_option linter.unusedVariables false
set_option maxRecDepth 20000
attribute [local go_sem] row_alloc row_drew row_drewN row_ext row_setCell row_setRow size_ext setRow_alloc setRow_drew loadOf storeOf piece_lit loadVal_at storeVal_at allOne_lit buildOf buildRes_some
attribute [local go_sem high] cell_alloc frozen_alloc setCell_alloc cell_ext frozen_ext cell_setRow frozen_setRow
attribute [local go_sem ↓] TDeed_ld0 TDeed_st0 TDeed_fd0 TDeed_bd0
attribute [local go_sem] TDeed_size TDeed_one TDeed_piece TDeed_c0 TDeed_c1 TDeed_c2 TDeed_c3 TDeed_c4 TDeed_c5 TDeed_set_kind TDeed_set_key TDeed_set_val TDeed_set_ver TDeed_set_ses TDeed_set_num TDeed_ld TDeed_st TDeed_f_kind TDeed_f_key TDeed_f_val TDeed_f_ver TDeed_f_ses TDeed_f_num TDeed_bd TDeed_fl TDeed_fl_kind TDeed_fl_key TDeed_fl_val TDeed_fl_ver TDeed_fl_ses TDeed_fl_num
attribute [local go_sem high] TDeed_eql TDeed_neq
attribute [local go_sem ↓] index_deps0 load_deps0 store_deps0
attribute [local go_sem] DV_piece DV_size DV_one index_deps load_deps store_deps
attribute [local go_sem high] TDeps_eql TDeps_neq
attribute [local go_sem ↓] TCall_ld0 TCall_st0 TCall_fd0 TCall_bd0
attribute [local go_sem] TCall_size TCall_one TCall_piece TCall_c0 TCall_c1 TCall_c2 TCall_c3 TCall_c4 TCall_c5 TCall_c6 TCall_c7 TCall_c8 TCall_c9 TCall_c10 TCall_c11 TCall_c12 TCall_c13 TCall_p_deed TCall_put_deed TCall_p_deps TCall_put_deps TCall_set_seq TCall_ld TCall_st TCall_f_deed TCall_f_deps TCall_f_seq TCall_bd TCall_fl TCall_fl_deed TCall_fl_deps TCall_fl_seq
attribute [local go_sem high] TCall_eql TCall_neq
attribute [local go_sem ↓] TItem_ld0 TItem_st0 TItem_fd0 TItem_bd0
attribute [local go_sem] TItem_size TItem_one TItem_piece TItem_c0 TItem_c1 TItem_set_rep TItem_set_num TItem_ld TItem_st TItem_f_rep TItem_f_num TItem_bd TItem_fl TItem_fl_rep TItem_fl_num
attribute [local go_sem high] TItem_eql TItem_neq
attribute [local go_sem ↓] TBallot_ld0 TBallot_st0 TBallot_fd0 TBallot_bd0
attribute [local go_sem] TBallot_size TBallot_one TBallot_piece TBallot_c0 TBallot_c1 TBallot_set_round TBallot_set_rep TBallot_ld TBallot_st TBallot_f_round TBallot_f_rep TBallot_bd TBallot_fl TBallot_fl_round TBallot_fl_rep
attribute [local go_sem high] TBallot_eql TBallot_neq
attribute [local go_sem ↓] TInst_ld0 TInst_st0 TInst_fd0 TInst_bd0
attribute [local go_sem] TInst_size TInst_one TInst_piece TInst_c0 TInst_c1 TInst_c2 TInst_c3 TInst_c4 TInst_c5 TInst_c6 TInst_c7 TInst_c8 TInst_c9 TInst_c10 TInst_c11 TInst_c12 TInst_c13 TInst_c14 TInst_c15 TInst_c16 TInst_c17 TInst_c18 TInst_c19 TInst_p_prom TInst_put_prom TInst_p_vote TInst_put_vote TInst_set_status TInst_p_call TInst_put_call TInst_set_same TInst_ld TInst_st TInst_f_prom TInst_f_vote TInst_f_status TInst_f_call TInst_f_same TInst_bd TInst_fl TInst_fl_prom TInst_fl_vote TInst_fl_status TInst_fl_call TInst_fl_same
attribute [local go_sem high] TInst_eql TInst_neq
attribute [local go_sem ↓] TLCall_ld0 TLCall_st0 TLCall_fd0 TLCall_bd0
attribute [local go_sem] TLCall_size TLCall_one TLCall_piece TLCall_c0 TLCall_c1 TLCall_c2 TLCall_c3 TLCall_c4 TLCall_c5 TLCall_c6 TLCall_c7 TLCall_c8 TLCall_c9 TLCall_c10 TLCall_c11 TLCall_c12 TLCall_c13 TLCall_c14 TLCall_c15 TLCall_c16 TLCall_c17 TLCall_c18 TLCall_c19 TLCall_c20 TLCall_c21 TLCall_c22 TLCall_c23 TLCall_c24 TLCall_set_kind TLCall_p_item TLCall_put_item TLCall_p_inst TLCall_put_inst TLCall_set_keep TLCall_set_spoil TLCall_ld TLCall_st TLCall_f_kind TLCall_f_item TLCall_f_inst TLCall_f_keep TLCall_f_spoil TLCall_bd TLCall_fl TLCall_fl_kind TLCall_fl_item TLCall_fl_inst TLCall_fl_keep TLCall_fl_spoil
attribute [local go_sem high] TLCall_eql TLCall_neq
def overL (x : LCall) : Bool := decide ((200 : Int) < (x.inst.call.deed.key.size : Int) + (x.inst.call.deed.val.size : Int))
def greatL (l : List LCall) : Bool := l.any overL || decide ((60 : Int) < (l.length : Int))
def FitL (l : List LCall) : Prop := ∀ x ∈ l, x.inst.call.deed.key.size ≤ 140737488351232 ∧ x.inst.call.deed.val.size ≤ 140737488351232
set_option maxHeartbeats 4000000 in
theorem great9 (A : Option Addr) (c : Nat) (l : List LCall) (w W : World) (R : List Res) (hx : RowsIn w A 25 LCV l) (hf : FitL l) (T : Sts w (fun _ => False) W R) :
    Calls Try.prog 26 #[.slice A l.length c] W fun e W' => e = .returned (.bool (greatL l)) ∧ Sts w (fun _ => False) W' R := by
  have hll := hx.len
  go_enter Try.func26, Try.ntmps26
  go_wp2_with fail
  go_loopw [7] (fun i wr => ∃ k : Nat, k ≤ l.length ∧ i = .int .i64 k ∧ (l.take k).any overL = false ∧ Sts w (fun _ => False) wr R) (fun i _ => l.length - (intOf i).toNat)
  case atStart => exact ⟨0, by omega, rfl, rfl, T⟩
  case round =>
    clear T
    obtain ⟨k, hk0, rfl, hno, T⟩ := hrel
    by_cases hkl : k < l.length
    · cases A with
      | none => have := hx.nil rfl; subst this; simp at hkl
      | some a =>
        have hld := hx.load (P := Try.prog) (T := 62) TLCall_size TLCall_und rfl (by kernel_rfl) T.below rfl hkl
        obtain ⟨hk1, hk2⟩ := hf l[k] (List.getElem_mem hkl)
        have hoj : l[k]? = some l[k] := List.getElem?_eq_getElem hkl
        have hme : l[k] ∈ l := List.getElem_mem hkl
        have HF := Lib.hid hf; clear hf
        generalize l[k] = x at *
        have T := T.new (LCV x) 62
        have hr := T.row; have hlt := row_lt hr; have hc := row_cell hr
        have HM := Lib.hid hme; have HO := Lib.hid hoj; have HNO := Lib.hid hno; have HT := Lib.hid T
        clear hme hoj hno T
        cases hov : overL x
        case false =>
          have hg : decide ((200 : Int) < (x.inst.call.deed.key.size : Int) + (x.inst.call.deed.val.size : Int)) = false := hov
          go_wp2
          go_roundw
          case rel => exact ⟨k + 1, by omega, by go_num, by rw [List.take_add_one, HO.out, List.any_append, HNO.out]; simp [hov], HT.out.drop⟩
          case measure => simp [intOf]; omega
        case true =>
          have hg : decide ((200 : Int) < (x.inst.call.deed.key.size : Int) + (x.inst.call.deed.val.size : Int)) = true := hov
          have hm : greatL l = true := by
            unfold greatL
            rw [Bool.or_eq_true]; left
            rw [List.any_eq_true]
            exact ⟨x, HM.out, hov⟩
          have HG := Lib.hid hm; clear hm
          go_wp2
          go_ret
          exact ⟨by rw [HG.out]; rfl, HT.out.drop⟩
    · obtain rfl : k = l.length := by omega
      rw [List.take_length] at hno
      have hm : greatL l = decide ((60 : Int) < (l.length : Int)) := by unfold greatL; rw [hno]; rfl
      have HG := Lib.hid hm; have HT := Lib.hid T; clear hm T
      go_wp2
      go_ret
      exact ⟨by rw [HG.out]; rfl, HT.out⟩
end Go.Proofs.Ytpganpiidgkofaa
/- Layers 6, 9: what was sealed is opened, what was written is read, and the other way. No walk stands here. -/
namespace Go.Proofs.Ytpganpiidgkofaa
open Go.RowKit
set_option linter.unusedVariables false
theorem p128 : (128 : Nat) ^ 9 = 9223372036854775808 := by decide
theorem rawS_app {a r : List UInt8} {n : Int} (h : (a.length : Int) = n) : rawS ⟨a ++ r, false⟩ n = (a, ⟨r, false⟩) := by
  unfold rawS
  rw [if_neg (by simp; omega)]
  have : n.toNat = a.length := by omega
  rw [this, List.take_left, List.drop_left]
theorem fourB_len (c : Nat) : (fourB c).length = 4 := rfl
theorem sealS_eq {t : List UInt8} (h : t.length ≤ 16384) : sealS t = enc t.length ++ fourB (crc (enc t.length ++ t)) ++ t := by
  unfold sealS; rw [if_neg (by omega)]; rfl
theorem open_seal {t : List UInt8} (h : t.length ≤ 16384) (r : List UInt8) : openS (sealS t ++ r) = (t, (sealS t).length) := by
  have e1 : natS ⟨sealS t ++ r, false⟩ 16384 = (t.length, ⟨fourB (crc (enc t.length ++ t)) ++ (t ++ r), false⟩) := by
    rw [sealS_eq h, List.append_assoc, List.append_assoc, natS_enc (by rw [p128]; omega), if_pos h]
  have e2 : rawS ⟨fourB (crc (enc t.length ++ t)) ++ (t ++ r), false⟩ 4 = (fourB (crc (enc t.length ++ t)), ⟨t ++ r, false⟩) := rawS_app rfl
  have e3 : rawS ⟨t ++ r, false⟩ t.length = (t, ⟨r, false⟩) := rawS_app rfl
  unfold openS
  simp only [e1, e2, e3]
  rw [if_neg (by simp)]
  simp
theorem rawS_inv2 {s : Src} {n : Int} (h : (rawS s n).2.dry = false) : s.dry = false ∧ 0 ≤ n ∧ s.left = (rawS s n).1 ++ (rawS s n).2.left ∧ ((rawS s n).1.length : Int) = n := by
  unfold rawS at h ⊢
  split at h
  · simp [dryS] at h
  · rename_i hc
    rw [if_neg hc]
    simp only [not_or, Bool.not_eq_true] at hc
    refine ⟨hc.1, by omega, by simp, ?_⟩
    simp only [List.length_take]; omega
theorem rawS_dry {n : Int} {s : Src} (h : s.dry = true) : (rawS s n).2.dry = true := by
  unfold rawS; rw [if_pos (.inl h)]; rfl
theorem open_inv {b : List UInt8} (h : (openS b).2 ≠ 0) : (openS b).1.length ≤ 16384 ∧ ∃ r, b = sealS (openS b).1 ++ r ∧ (openS b).2 = (sealS (openS b).1).length := by
  obtain ⟨n, hn⟩ : ∃ n, n = natS ⟨b, false⟩ 16384 := ⟨_, rfl⟩
  obtain ⟨q, hq⟩ : ∃ q, q = rawS n.2 4 := ⟨_, rfl⟩
  obtain ⟨s, hs⟩ : ∃ s, s = rawS q.2 n.1 := ⟨_, rfl⟩
  have ho : openS b = if s.2.dry = true ∨ fourB (crc (enc n.1 ++ s.1)) ≠ q.1 then ([], 0) else (s.1, b.length - s.2.left.length) := by
    rw [hs, hq, hn]; rfl
  rw [ho] at h ⊢
  split at h
  · exact absurd rfl h
  rename_i hc
  rw [if_neg hc]
  simp only [not_or, ne_eq, Decidable.not_not, Bool.not_eq_true] at hc
  obtain ⟨c1, c2⟩ := hc
  have a := rawS_inv2 (s := q.2) (n := n.1) (by rw [← hs]; exact c1)
  rw [← hs] at a
  have b2 := rawS_inv2 (s := n.2) (n := 4) (by rw [← hq]; exact a.1)
  rw [← hq] at b2
  have c := natS_inv (s := ⟨b, false⟩) (most := 16384) (by rw [← hn]; exact b2.1)
  rw [← hn] at c
  have hl : s.1.length = n.1 := by omega
  have hle : s.1.length ≤ 16384 := by omega
  refine ⟨hle, s.2.left, ?_, ?_⟩
  · rw [sealS_eq hle, hl, c2]
    have : b = enc n.1 ++ n.2.left := c.2.1
    rw [this, b2.2.2.1, a.2.2.1]; simp
  · rw [sealS_eq hle, hl, c2]
    have : b.length = (enc n.1 ++ n.2.left).length := congrArg List.length c.2.1
    rw [this, b2.2.2.1, a.2.2.1]; simp; omega
theorem open_short {b : List UInt8} : (openS b).2 ≤ b.length := by
  by_cases h : (openS b).2 = 0
  · omega
  · obtain ⟨_, r, h2, h3⟩ := open_inv h
    rw [h3]
    have := congrArg List.length h2
    rw [List.length_append] at this; omega
theorem open_cut {t p r : List UInt8} (h : t.length ≤ 16384) (hp : sealS t = p ++ r) (hr : r ≠ []) : (openS p).2 = 0 ∨ (openS p).2 ≠ p.length := by
  by_cases h0 : (openS p).2 = 0
  · exact .inl h0
  right
  intro hl
  obtain ⟨h1, r2, h2, h3⟩ := open_inv h0
  have h4 : r2 = [] := by
    have := congrArg List.length h2
    rw [List.length_append] at this
    exact List.eq_nil_of_length_eq_zero (by omega)
  subst h4
  rw [List.append_nil] at h2
  have e1 : openS (p ++ r) = (t, (sealS t).length) := by rw [← hp]; have := open_seal h []; rwa [List.append_nil] at this
  have e3 : openS (p ++ r) = ((openS p).1, p.length) := by have := open_seal h1 r; rwa [← h2] at this
  have e4 := congrArg Prod.snd (e1.symm.trans e3)
  simp only at e4
  have e2 := congrArg List.length hp
  rw [List.length_append] at e2
  have : r.length = 0 := by omega
  exact hr (List.eq_nil_of_length_eq_zero this)
theorem sealS_pos {t : List UInt8} (h : t.length ≤ 16384) : 0 < (sealS t).length := by
  rw [sealS_eq h, List.length_append, List.length_append, fourB_len]; omega
theorem sealS_len {t : List UInt8} (h : t.length ≤ 16384) : (sealS t).length ≤ t.length + 13 := by
  rw [sealS_eq h]
  have := enc_len9 (n := t.length) (by omega)
  simp only [List.length_append, fourB_len]; omega
theorem sealS_inj {a b : List UInt8} (ha : a.length ≤ 16384) (hb : b.length ≤ 16384) (h : sealS a = sealS b) : a = b := by
  have e1 := open_seal ha []
  have e2 := open_seal hb []
  rw [h, e2] at e1
  exact (congrArg Prod.fst e1).symm
theorem enc2 (v : Int) (r : List UInt8) (m : Nat) (h0 : 0 ≤ v) (h1 : v ≤ m) (hm : m < 9223372036854775808) : natS ⟨enc v.toNat ++ r, false⟩ m = (v.toNat, ⟨r, false⟩) := by
  rw [natS_enc (by rw [p128]; omega), if_pos (by omega)]
theorem getI_enc (x : Item) (r : List UInt8) (h1 : 0 ≤ x.rep ∧ x.rep ≤ 6) (h2 : 0 ≤ x.num ∧ x.num ≤ 64) : getI ⟨encs [x.rep, x.num] ++ r, false⟩ = (x, ⟨r, false⟩) := by
  have e : encs [x.rep, x.num] ++ r = enc x.rep.toNat ++ (enc x.num.toNat ++ r) := by simp [encs]
  unfold getI
  rw [e, enc2 _ _ 6 h1.1 (by omega) (by omega)]
  simp only
  rw [enc2 _ _ 64 h2.1 (by omega) (by omega)]
  obtain ⟨a, b⟩ := x
  simp at h1 h2 ⊢; omega
theorem getBal_enc (x : Ballot) (r : List UInt8) (h1 : 0 ≤ x.round ∧ x.round ≤ 1099511627776) (h2 : 0 ≤ x.rep ∧ x.rep ≤ 6) : getBal ⟨encs [x.round, x.rep] ++ r, false⟩ = (x, ⟨r, false⟩) := by
  have e : encs [x.round, x.rep] ++ r = enc x.round.toNat ++ (enc x.rep.toNat ++ r) := by simp [encs]
  unfold getBal
  rw [e, enc2 _ _ 1099511627776 h1.1 (by omega) (by omega)]
  simp only
  rw [enc2 _ _ 6 h2.1 (by omega) (by omega)]
  obtain ⟨a, b⟩ := x
  simp at h1 h2 ⊢; omega
theorem getBit_enc (b : Bool) (r : List UInt8) : natS ⟨bitB b ++ r, false⟩ 1 = (if b then 1 else 0, ⟨r, false⟩) := by
  cases b
  · rw [show bitB false = enc 0 by rw [enc_small (by omega)]; rfl, natS_enc (by rw [p128]; omega), if_pos (by omega)]; rfl
  · rw [show bitB true = enc 1 by rw [enc_small (by omega)]; rfl, natS_enc (by rw [p128]; omega), if_pos (by omega)]; rfl
theorem goodC_7 {c : Call} {n : Int} (h : goodC c n = true) (hn : n ≤ 7) : goodC c 7 = true := by
  unfold goodC at h ⊢
  simp only [Bool.and_eq_true, decide_eq_true_eq] at h ⊢
  obtain ⟨⟨⟨h1, h2⟩, h3⟩, h4⟩ := h
  refine ⟨⟨⟨h1, goodD_yes fun i hi => ?_⟩, h3⟩, h4⟩
  have := goodD_of h2 i hi
  exact ⟨this.1, this.2.1, fun h => by omega⟩
theorem call_congr {a b : Call} (h : CV a = CV b) : a.deed = b.deed ∧ (∀ i, i < 7 → a.deps i = b.deps i) ∧ a.seq = b.seq := by
  obtain ⟨h1, h2, h3⟩ := (TCall_ext a b).1 h
  refine ⟨?_, DV_inj h2, h3⟩
  obtain ⟨x1, x2, x3, x4, x5, x6⟩ := (TDeed_ext a.deed b.deed).1 h1
  cases ha : a.deed; cases hb : b.deed
  rw [ha, hb] at x1 x2 x3 x4 x5 x6
  simp only at x1 x2 x3 x4 x5 x6
  rw [x1, x2, x3, x4, x5, x6]
theorem goodC_congr {a b : Call} (h : CV a = CV b) (n : Int) (hg : goodC a n = true) : goodC b n = true := by
  obtain ⟨h1, h2, h3⟩ := call_congr h
  unfold goodC at hg ⊢
  simp only [Bool.and_eq_true, decide_eq_true_eq] at hg ⊢
  obtain ⟨⟨⟨g1, g2⟩, g3⟩, g4⟩ := hg
  refine ⟨⟨⟨h1 ▸ g1, goodD_yes fun i hi => ?_⟩, h3 ▸ g3⟩, h3 ▸ g4⟩
  rw [← h2 i hi]; exact goodD_of g2 i hi
theorem getI_inv {s : Src} (h : (getI s).2.dry = false) : s.dry = false ∧ s.left = encs [(getI s).1.rep, (getI s).1.num] ++ (getI s).2.left ∧ 0 ≤ (getI s).1.rep ∧ (getI s).1.rep ≤ 6 ∧ 0 ≤ (getI s).1.num ∧ (getI s).1.num ≤ 64 := by
  unfold getI at h ⊢
  simp only at h ⊢
  obtain ⟨a1, a2, a3, _⟩ := natS_inv h
  obtain ⟨b1, b2, b3, _⟩ := natS_inv a1
  refine ⟨b1, ?_, by omega, by omega, by omega, by omega⟩
  rw [b2, a2]; simp [encs]
theorem getBal_inv {s : Src} (h : (getBal s).2.dry = false) : s.dry = false ∧ s.left = encs [(getBal s).1.round, (getBal s).1.rep] ++ (getBal s).2.left ∧ 0 ≤ (getBal s).1.round ∧ (getBal s).1.round ≤ 1099511627776 ∧ 0 ≤ (getBal s).1.rep ∧ (getBal s).1.rep ≤ 6 := by
  unfold getBal at h ⊢
  simp only at h ⊢
  obtain ⟨a1, a2, a3, _⟩ := natS_inv h
  obtain ⟨b1, b2, b3, _⟩ := natS_inv a1
  refine ⟨b1, ?_, by omega, by omega, by omega, by omega⟩
  rw [b2, a2]; simp [encs]
theorem getBit_inv {s : Src} (h : (natS s 1).2.dry = false) : s.dry = false ∧ s.left = bitB ((natS s 1).1 == 1) ++ (natS s 1).2.left := by
  obtain ⟨a1, a2, a3, _⟩ := natS_inv h
  refine ⟨a1, ?_⟩
  generalize natS s 1 = x at *
  have : x.1 = 0 ∨ x.1 = 1 := by omega
  rcases this with e | e
  · rw [a2, e, show bitB ((0 : Nat) == 1) = enc 0 by rw [enc_small (by omega)]; rfl]
  · rw [a2, e, show bitB ((1 : Nat) == 1) = enc 1 by rw [enc_small (by omega)]; rfl]
theorem in64 {a : Int} (h0 : 0 ≤ a) (h1 : a ≤ 1099511627776) : In64 a := by unfold In64; omega
theorem callB_congr {a b : Call} (h : CV a = CV b) : callB a = callB b := by
  obtain ⟨h1, h2, h3⟩ := call_congr h
  unfold callB depsL
  rw [h1, h3, h2 0 (by omega), h2 1 (by omega), h2 2 (by omega), h2 3 (by omega), h2 4 (by omega), h2 5 (by omega), h2 6 (by omega)]
theorem status_enc (v : Int) (r : List UInt8) (h0 : 0 ≤ v) (h1 : v ≤ 3) : natS ⟨encs [v] ++ r, false⟩ 3 = (v.toNat, ⟨r, false⟩) := by
  have e : encs [v] ++ r = enc v.toNat ++ r := by simp [encs]
  rw [e, enc2 v r 3 h0 h1 (by omega)]
theorem inst_congr {a b : Inst} (h : NV a = NV b) : a.prom = b.prom ∧ a.vote = b.vote ∧ a.status = b.status ∧ CV a.call = CV b.call ∧ a.same = b.same := by
  obtain ⟨h1, h2, h3, h4, h5⟩ := (TInst_ext a b).1 h
  have e1 := (TBallot_ext _ _).1 h1
  have e2 := (TBallot_ext _ _).1 h2
  refine ⟨?_, ?_, h3, h4, h5⟩
  · cases ha : a.prom; cases hb : b.prom; rw [ha, hb] at e1; simp at e1 ⊢; exact e1
  · cases ha : a.vote; cases hb : b.vote; rw [ha, hb] at e2; simp at e2 ⊢; exact e2
theorem recB_congr {x : Item} {a b : Inst} (h : NV a = NV b) : recB x a = recB x b := by
  obtain ⟨h1, h2, h3, h4, h5⟩ := inst_congr h
  unfold recB
  rw [h1, h2, h3, h5, callB_congr h4]
theorem goodN_congr {a b : Inst} (h : NV a = NV b) (n : Int) : goodN a n = goodN b n := by
  have key : ∀ {a b : Inst}, NV a = NV b → goodN a n = true → goodN b n = true := fun {a b} h hg => by
    obtain ⟨h1, h2, h3, h4, h5⟩ := inst_congr h
    unfold goodN at hg ⊢
    simp only [Bool.and_eq_true] at hg ⊢
    obtain ⟨⟨⟨⟨g1, g2⟩, g3⟩, g4⟩, g5⟩ := hg
    refine ⟨⟨⟨⟨h1 ▸ g1, h2 ▸ g2⟩, h3 ▸ g3⟩, goodC_congr h4 n g4⟩, ?_⟩
    have hb : bareI a = bareI b := by unfold bareI; rw [h1]
    rw [← h3, ← h, ← hb]; exact g5
  rw [Bool.eq_iff_iff]
  exact ⟨key h, key h.symm⟩
/-- A record is read as it was written. -/
theorem read_rec {x : Item} {i : Inst} {n : Int} (hn : n ≤ 7) (hx : goodI x n = true) (hi : goodN i n = true) : okT n (recB x i) = true ∧ (readS ⟨recB x i, false⟩).1 = x ∧ NV (readS ⟨recB x i, false⟩).2.1 = NV i := by
  have hin := goodN_in hi hn
  have hgx := hx
  unfold goodI at hgx
  rw [decide_eq_true_iff] at hgx
  have hgi := hi
  unfold goodN at hgi
  simp only [Bool.and_eq_true, decide_eq_true_eq] at hgi
  obtain ⟨⟨⟨⟨g1, g2⟩, g3⟩, g4⟩, g5⟩ := hgi
  unfold goodBal at g1 g2
  rw [decide_eq_true_iff] at g1 g2
  obtain ⟨c', hc, hcv⟩ := getC_enc (N := 100) (by omega) hin.call (goodC_7 g4 hn) []
  rw [List.append_nil] at hc
  have e : readS ⟨recB x i, false⟩ = (x, ⟨i.prom, i.vote, i.status.toNat, c', i.same⟩, ⟨[], false⟩) := by
    unfold readS recB
    simp only [List.append_assoc]
    rw [getI_enc x _ (by omega) (by omega)]
    simp only
    rw [getBal_enc i.prom _ (by omega) (by omega)]
    simp only
    rw [getBal_enc i.vote _ (by omega) (by omega)]
    simp only
    rw [status_enc i.status _ (by omega) (by omega)]
    simp only
    rw [getBit_enc i.same _]
    simp only
    rw [hc]
    cases i.same <;> rfl
  have hnv : NV (⟨i.prom, i.vote, i.status.toNat, c', i.same⟩ : Inst) = NV i := (TInst_ext _ _).2 ⟨rfl, rfl, by simp only; omega, hcv, rfl⟩
  refine ⟨?_, by rw [e], by rw [e]; exact hnv⟩
  unfold okT
  rw [e]
  simp only [hx, goodN_congr hnv n, hi]
  rfl
end Go.Proofs.Ytpganpiidgkofaa
