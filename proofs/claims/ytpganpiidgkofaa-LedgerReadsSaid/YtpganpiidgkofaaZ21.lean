/- Several texts in one. -/
import Derived.Test.YtpganpiidgkofaaZ5
import Derived.Test.YtpganpiidgkofaaZ20
import Derived.Test.YtpganpiidgkofaaZ3
/- Layers 2, 3, 5: items, ballots, calls: whether they can be, their bytes. -/
namespace Go.Proofs.Ytpganpiidgkofaa
open Go.RowKit
set_option linter.unusedVariables false
attribute [local go_sem] row_alloc row_drew row_drewN row_ext row_setCell row_setRow size_ext setRow_alloc setRow_drew loadOf storeOf piece_lit loadVal_at storeVal_at allOne_lit buildOf buildRes_some
attribute [local go_sem high] cell_alloc frozen_alloc setCell_alloc cell_ext frozen_ext cell_setRow frozen_setRow
attribute [local go_sem ↓] TDeed_ld0 TDeed_st0 TDeed_fd0 TDeed_bd0
attribute [local go_sem] TDeed_size TDeed_one TDeed_piece TDeed_c0 TDeed_c1 TDeed_c2 TDeed_c3 TDeed_c4 TDeed_c5 TDeed_set_kind TDeed_set_key TDeed_set_val TDeed_set_ver TDeed_set_ses TDeed_set_num TDeed_ld TDeed_st TDeed_f_kind TDeed_f_key TDeed_f_val TDeed_f_ver TDeed_f_ses TDeed_f_num TDeed_bd TDeed_fl TDeed_fl_kind TDeed_fl_key TDeed_fl_val TDeed_fl_ver TDeed_fl_ses TDeed_fl_num
attribute [local go_sem high] TDeed_eql TDeed_neq
attribute [local go_sem ↓] index_deps0 load_deps0 store_deps0
attribute [local go_sem] DV_piece DV_size DV_one index_deps load_deps store_deps
attribute [local go_sem high] TDeps_eql TDeps_neq
attribute [local go_sem ↓] TCall_ld0 TCall_st0 TCall_fd0 TCall_bd0
attribute [local go_sem] TCall_size TCall_one TCall_piece TCall_c0 TCall_c1 TCall_c2 TCall_c3 TCall_c4 TCall_c5 TCall_c6 TCall_c7 TCall_c8 TCall_c9 TCall_c10 TCall_c11 TCall_c12 TCall_c13 TCall_p_deed TCall_put_deed TCall_p_deps TCall_put_deps TCall_set_seq TCall_ld TCall_st TCall_f_deed TCall_f_deps TCall_f_seq TCall_bd TCall_fl TCall_fl_deed TCall_fl_deps TCall_fl_seq
attribute [local go_sem high] TCall_eql TCall_neq
attribute [local go_sem ↓] TItem_ld0 TItem_st0 TItem_fd0 TItem_bd0
attribute [local go_sem] TItem_size TItem_one TItem_piece TItem_c0 TItem_c1 TItem_set_rep TItem_set_num TItem_ld TItem_st TItem_f_rep TItem_f_num TItem_bd TItem_fl TItem_fl_rep TItem_fl_num
attribute [local go_sem high] TItem_eql TItem_neq
attribute [local go_sem ↓] TBallot_ld0 TBallot_st0 TBallot_fd0 TBallot_bd0
attribute [local go_sem] TBallot_size TBallot_one TBallot_piece TBallot_c0 TBallot_c1 TBallot_set_round TBallot_set_rep TBallot_ld TBallot_st TBallot_f_round TBallot_f_rep TBallot_bd TBallot_fl TBallot_fl_round TBallot_fl_rep
attribute [local go_sem high] TBallot_eql TBallot_neq
/-! bytes -/
def In64 (n : Int) : Prop := -9223372036854775808 ≤ n ∧ n < 9223372036854775808
theorem two_in {a b : Int} (ha : In64 a) (hb : In64 b) : ∀ n ∈ [a, b], -9223372036854775808 ≤ n ∧ n < 9223372036854775808 := by
  intro n hn; simp at hn; rcases hn with rfl | rfl
  · exact ha
  · exact hb
set_option maxHeartbeats 1000000 in
theorem itemPutD (g : Nat) (l : List UInt8) (x : Item) (h1 : In64 x.rep) (h2 : In64 x.num) (hb : l.length ≤ 1000000) :
    Does Try.prog 88 #[.pointer (some ⟨g, 0, none⟩), .agg (IV x)] [snkR g l] (.tuple #[]) [snkR g (l ++ encs [x.rep, x.num])] := by
  intro W G hS
  have T := ((Sts.start hS).new (IV x) 42).new #[.int .i64 x.rep, .int .i64 x.num] 3
  clear hS
  simp only [World.size_alloc] at T
  go_enter Try.func88, Try.ntmps88
  go_wp2_with fail
  refine (Does.at2 (sinkNatD g l (W.heap.size + 1) 0 2 _ [x.rep, x.num] ?_ (two_in h1 h2) (by simp; omega)) T.rot2.swap2.swap2).mono ?_; clear T
  · intro j hj
    match j, hj with
    | 0, _ => rfl
    | 1, _ => rfl
  rintro e w1 ⟨rfl, T⟩
  go_wp2
  go_end0
  exact ⟨rfl, T.swap.drop.swap.drop⟩
set_option maxHeartbeats 1000000 in
theorem balPutD (g : Nat) (l : List UInt8) (x : Ballot) (h1 : In64 x.round) (h2 : In64 x.rep) (hb : l.length ≤ 1000000) :
    Does Try.prog 89 #[.pointer (some ⟨g, 0, none⟩), .agg (BV x)] [snkR g l] (.tuple #[]) [snkR g (l ++ encs [x.round, x.rep])] := by
  intro W G hS
  have T := ((Sts.start hS).new (BV x) 31).new #[.int .i64 x.round, .int .i64 x.rep] 3
  clear hS
  simp only [World.size_alloc] at T
  go_enter Try.func89, Try.ntmps89
  go_wp2_with fail
  refine (Does.at2 (sinkNatD g l (W.heap.size + 1) 0 2 _ [x.round, x.rep] ?_ (two_in h1 h2) (by simp; omega)) T.rot2.swap2.swap2).mono ?_; clear T
  · intro j hj
    match j, hj with
    | 0, _ => rfl
    | 1, _ => rfl
  rintro e w1 ⟨rfl, T⟩
  go_wp2
  go_end0
  exact ⟨rfl, T.swap.drop.swap.drop⟩
def bitB (b : Bool) : List UInt8 := [if b then 1 else 0]
set_option maxHeartbeats 1000000 in
theorem sinkBitD (g : Nat) (l : List UInt8) (b : Bool) (hb : l.length ≤ 1000000) :
    Does Try.prog 91 #[.pointer (some ⟨g, 0, none⟩), .bool b] [snkR g l] (.tuple #[]) [snkR g (l ++ bitB b)] := by
  intro W G hS
  cases b
  · have T := (Sts.start hS).new #[.int .i64 0] 3
    clear hS
    go_enter Try.func91, Try.ntmps91
    go_wp2_with fail
    refine (Does.at2 (sinkNatD g l W.heap.size 0 1 _ [0] (by intro j hj; simp at hj; subst hj; rfl) (by simp) (by simp; omega)) T.swap).mono ?_; clear T
    rintro e w1 ⟨rfl, T⟩
    go_wp2
    go_end0
    rw [show encs [(0 : Int)] = bitB false by show enc 0 ++ [] = _; rw [enc_small (by omega)]; rfl] at T
    exact ⟨rfl, T.swap.drop⟩
  · have T := (Sts.start hS).new #[.int .i64 1] 3
    clear hS
    go_enter Try.func91, Try.ntmps91
    go_wp2_with fail
    refine (Does.at2 (sinkNatD g l W.heap.size 0 1 _ [1] (by intro j hj; simp at hj; subst hj; rfl) (by simp) (by simp; omega)) T.swap).mono ?_; clear T
    rintro e w1 ⟨rfl, T⟩
    go_wp2
    go_end0
    rw [show encs [(1 : Int)] = bitB true by show enc 1 ++ [] = _; rw [enc_small (by omega)]; rfl] at T
    exact ⟨rfl, T.swap.drop⟩
def getI (s : Src) : Item × Src := (⟨(natS s 6).1, (natS (natS s 6).2 64).1⟩, (natS (natS s 6).2 64).2)
def getBal (s : Src) : Ballot × Src := (⟨(natS s 1099511627776).1, (natS (natS s 1099511627776).2 6).1⟩, (natS (natS s 1099511627776).2 6).2)
set_option maxHeartbeats 1000000 in
theorem itemGetD (g : Nat) (s : Src) : Does Try.prog 80 #[.pointer (some ⟨g, 0, none⟩)] [srcR g s] (.agg (IV (getI s).1)) [srcR g (getI s).2] := by
  intro W G h
  have T := (Sts.start h).new (IV noItem) 42
  clear h
  go_enter Try.func80, Try.ntmps80
  go_wp2_with fail
  refine (Does.at1 (natD g s 6 (by omega)) T.swap).mono ?_; clear T; rintro e w1 ⟨rfl, T⟩
  go_wp2_with fail
  refine (Does.at1 (natD g _ 64 (by omega)) T).mono ?_; clear T; rintro e w2 ⟨rfl, T⟩
  have hr := T.row1
  have hlt := row_lt hr
  have hI : getI s = (⟨(natS s 6).1, (natS (natS s 6).2 64).1⟩, (natS (natS s 6).2 64).2) := rfl
  have HI := Lib.hid hI; clear hI
  go_wp2
  exact TItem_ret _ rfl rfl rfl (row_setRow_same _ _ _ _ hr) ⟨by rw [HI.out], by rw [HI.out]; exact (T.swap.setRow _).swap.swap.drop⟩
set_option maxHeartbeats 1000000 in
theorem balGetD (g : Nat) (s : Src) : Does Try.prog 81 #[.pointer (some ⟨g, 0, none⟩)] [srcR g s] (.agg (BV (getBal s).1)) [srcR g (getBal s).2] := by
  intro W G h
  have T := (Sts.start h).new (BV noBallot) 31
  clear h
  go_enter Try.func81, Try.ntmps81
  go_wp2_with fail
  refine (Does.at1 (natD g s 1099511627776 (by omega)) T.swap).mono ?_; clear T; rintro e w1 ⟨rfl, T⟩
  go_wp2_with fail
  refine (Does.at1 (natD g _ 6 (by omega)) T).mono ?_; clear T; rintro e w2 ⟨rfl, T⟩
  have hr := T.row1
  have hlt := row_lt hr
  have hI : getBal s = (⟨(natS s 1099511627776).1, (natS (natS s 1099511627776).2 6).1⟩, (natS (natS s 1099511627776).2 6).2) := rfl
  have HI := Lib.hid hI; clear hI
  go_wp2
  exact TBallot_ret _ rfl rfl rfl (row_setRow_same _ _ _ _ hr) ⟨by rw [HI.out], by rw [HI.out]; exact (T.swap.setRow _).swap.swap.drop⟩
set_option maxHeartbeats 1000000 in
theorem bitD (g : Nat) (s : Src) : Does Try.prog 83 #[.pointer (some ⟨g, 0, none⟩)] [srcR g s] (.bool ((natS s 1).1 == 1)) [srcR g (natS s 1).2] := by
  intro W G h
  have T := Sts.start h
  clear h
  go_enter Try.func83, Try.ntmps83
  go_wp2_with fail
  refine (Does.at1 (natD g s 1 (by omega)) T).mono ?_; clear T; rintro e w1 ⟨rfl, T⟩
  go_wp2
  go_ret
  refine ⟨congrArg (fun b => Ending.returned (.bool b)) ?_, T⟩
  rw [Bool.eq_iff_iff]; simp; omega
set_option maxHeartbeats 1000000 in
theorem overQ {w W : World} {F : Nat → Prop} {R : List Res} {g : Nat} {s : Src} (T : Sts w F W (srcR g s :: R)) : Calls Try.prog 85 #[.pointer (some ⟨g, 0, none⟩)] W fun e W' => e = .returned (.bool (!s.dry && s.left.isEmpty)) ∧ W = W' := by
  have hc := row_cell T.row
  unfold SV at hc
  clear T
  have he : ((strL s.left).toList == []) = s.left.isEmpty := by
    rw [Bool.eq_iff_iff, beq_iff_eq, ByteArray.toList_eq, List.isEmpty_iff]; exact Iff.rfl
  have he2 : (strL s.left).toList.isEmpty = s.left.isEmpty := by
    rw [Bool.eq_iff_iff, List.isEmpty_iff, ByteArray.toList_eq, List.isEmpty_iff]; exact Iff.rfl
  generalize strL s.left = B at *
  cases hd : s.dry
  · rw [hd] at hc
    go_enter Try.func85, Try.ntmps85
    go_wp2
    go_ret
    exact ⟨rfl, rfl⟩
  · rw [hd] at hc
    go_enter Try.func85, Try.ntmps85
    go_wp2
    go_ret
    exact ⟨rfl, rfl⟩
end Go.Proofs.Ytpganpiidgkofaa
/- Layer 6: the plain law of a sum, bit by bit. No program stands here. -/
namespace Go.Proofs.Ytpganpiidgkofaa
set_option linter.unusedVariables false
def crcP : Nat := 3988292384
def crc1 (c : Nat) : Nat := if c % 2 = 1 then (c / 2) ^^^ crcP else c / 2
def crcN : Nat → Nat → Nat
  | 0, c => c
  | k + 1, c => crc1 (crcN k c)
def crcB (c b : Nat) : Nat := crcN 8 (c ^^^ b)
def crcL (c : Nat) (l : List UInt8) : Nat := l.foldl (fun c b => crcB c b.toNat) c
def crc (l : List UInt8) : Nat := 4294967295 - crcL 4294967295 l
theorem crc1_lt {c : Nat} (h : c < 4294967296) : crc1 c < 4294967296 := by
  unfold crc1
  split
  · exact Nat.xor_lt_two_pow (n := 32) (by omega) (by unfold crcP; omega)
  · omega
theorem crcN_lt {c : Nat} (h : c < 4294967296) : ∀ k, crcN k c < 4294967296
  | 0 => h
  | k + 1 => crc1_lt (crcN_lt h k)
theorem crcB_lt {c b : Nat} (h : c < 4294967296) (hb : b < 256) : crcB c b < 4294967296 := crcN_lt (Nat.xor_lt_two_pow (n := 32) (by omega) (by omega)) 8
theorem crcL_lt : ∀ {l : List UInt8} {c : Nat}, c < 4294967296 → crcL c l < 4294967296
  | [], _, h => h
  | b :: l, c, h => crcL_lt (l := l) (crcB_lt h b.toNat_lt)
theorem crcL_app (c : Nat) (l m : List UInt8) : crcL c (l ++ m) = crcL (crcL c l) m := by simp [crcL]
theorem crcL_snoc (c : Nat) (l : List UInt8) (b : UInt8) : crcL c (l ++ [b]) = crcB (crcL c l) b.toNat := by simp [crcL]
/-- The document's step for bit k of b. -/
def ref1 (c b k : Nat) : Nat := if b / 2 ^ k % 2 ≠ c % 2 then (c / 2) ^^^ crcP else c / 2
def refN (c b : Nat) : Nat → Nat
  | 0 => c
  | k + 1 => ref1 (refN c b k) b k
theorem xor_half (a b : Nat) : (a ^^^ b) / 2 = a / 2 ^^^ b / 2 := by
  have := Nat.shiftRight_xor_distrib (a := a) (b := b) (i := 1)
  simpa [Nat.shiftRight_eq_div_pow] using this
theorem xor_odd (a b : Nat) : (a ^^^ b) % 2 = (a + b) % 2 := by
  have h := Nat.xor_mod_two_pow (a := a) (b := b) (n := 1)
  simp only [Nat.pow_one] at h
  rw [h]
  rcases Nat.mod_two_eq_zero_or_one a with ha | ha <;> rcases Nat.mod_two_eq_zero_or_one b with hb | hb <;> rw [ha, hb] <;> simp <;> omega
theorem crc_ref (c b : Nat) : ∀ k, crcN k (c ^^^ b) = refN c b k ^^^ b / 2 ^ k
  | 0 => by simp [crcN, refN]
  | k + 1 => by
    rw [crcN, crc_ref c b k, refN]
    generalize refN c b k = e
    have hx : b / 2 ^ (k + 1) = b / 2 ^ k / 2 := by rw [Nat.pow_succ, Nat.div_div_eq_div_mul]
    rw [hx]
    generalize hy : b / 2 ^ k = x
    unfold crc1 ref1
    rw [hy, xor_half, xor_odd]
    by_cases h : x % 2 ≠ e % 2
    · rw [if_pos (by omega), if_pos h, Nat.xor_assoc, Nat.xor_comm (x / 2), ← Nat.xor_assoc]
    · rw [if_neg (by omega), if_neg h]
theorem crcB_ref {c b : Nat} (hb : b < 256) : crcB c b = refN c b 8 := by
  unfold crcB
  rw [crc_ref, show b / 2 ^ 8 = 0 by omega, Nat.xor_zero]
theorem refN_lt {c b : Nat} (h : c < 4294967296) : ∀ k, refN c b k < 4294967296
  | 0 => h
  | k + 1 => by
    have := refN_lt (b := b) h k
    rw [refN]; unfold ref1
    split
    · exact Nat.xor_lt_two_pow (n := 32) (by omega) (by unfold crcP; omega)
    · omega
theorem crc_lt (l : List UInt8) : crc l < 4294967296 := by unfold crc; omega
def fourB (c : Nat) : List UInt8 := [UInt8.ofNat c, UInt8.ofNat (c / 256), UInt8.ofNat (c / 65536), UInt8.ofNat (c / 16777216)]
/-- A text with its length, and its sum, ahead. -/
def sealB (l : List UInt8) (n : List UInt8) : List UInt8 := n ++ fourB (crc (n ++ l)) ++ l
end Go.Proofs.Ytpganpiidgkofaa
