/- Several texts in one. -/
import Derived.Test.YtomlilkobhkoiaaGreatDoorQ3
import Derived.Test.YtomlilkobhkoiaaGreatDoorQ5
import Derived.Test.YtomlilkobhkoiaaGreatDoorQ15
import Derived.Test.YtomlilkobhkoiaaGreatDoorQ2
import Derived.Test.YtomlilkobhkoiaaGreatDoorQ14
import Derived.Test.YtomlilkobhkoiaaGreatDoorQ9
/- Layers 2, 3, 5: items, ballots, calls: whether they can be, their bytes. -/
namespace Go.Proofs.YtomlilkobhkoiaaGreatDoor
open Go.RowKit
set_option linter.unusedVariables false
attribute [local go_sem] row_alloc row_drew row_drewN row_ext row_setCell row_setRow size_ext setRow_alloc setRow_drew loadOf storeOf piece_lit loadVal_at storeVal_at allOne_lit buildOf buildRes_some
attribute [local go_sem high] cell_alloc frozen_alloc setCell_alloc cell_ext frozen_ext cell_setRow frozen_setRow
attribute [local go_sem ↓] TDeed_ld0 TDeed_st0 TDeed_fd0 TDeed_bd0
attribute [local go_sem] TDeed_size TDeed_one TDeed_piece TDeed_c0 TDeed_c1 TDeed_c2 TDeed_c3 TDeed_c4 TDeed_c5 TDeed_set_kind TDeed_set_key TDeed_set_val TDeed_set_ver TDeed_set_ses TDeed_set_num TDeed_ld TDeed_st TDeed_f_kind TDeed_f_key TDeed_f_val TDeed_f_ver TDeed_f_ses TDeed_f_num TDeed_bd TDeed_fl TDeed_fl_kind TDeed_fl_key TDeed_fl_val TDeed_fl_ver TDeed_fl_ses TDeed_fl_num
attribute [local go_sem high] TDeed_eql TDeed_neq
attribute [local go_sem ↓] index_deps0 load_deps0 store_deps0
attribute [local go_sem] DV_piece DV_size DV_one index_deps load_deps store_deps
attribute [local go_sem high] TDeps_eql TDeps_neq
attribute [local go_sem ↓] TCall_ld0 TCall_st0 TCall_fd0 TCall_bd0
attribute [local go_sem] TCall_size TCall_one TCall_piece TCall_c0 TCall_c1 TCall_c2 TCall_c3 TCall_c4 TCall_c5 TCall_c6 TCall_c7 TCall_c8 TCall_c9 TCall_c10 TCall_c11 TCall_c12 TCall_c13 TCall_p_deed TCall_put_deed TCall_p_deps TCall_put_deps TCall_set_seq TCall_ld TCall_st TCall_f_deed TCall_f_deps TCall_f_seq TCall_bd TCall_fl TCall_fl_deed TCall_fl_deps TCall_fl_seq
attribute [local go_sem high] TCall_eql TCall_neq
attribute [local go_sem ↓] TItem_ld0 TItem_st0 TItem_fd0 TItem_bd0
attribute [local go_sem] TItem_size TItem_one TItem_piece TItem_c0 TItem_c1 TItem_set_rep TItem_set_num TItem_ld TItem_st TItem_f_rep TItem_f_num TItem_bd TItem_fl TItem_fl_rep TItem_fl_num
attribute [local go_sem high] TItem_eql TItem_neq
attribute [local go_sem ↓] TBallot_ld0 TBallot_st0 TBallot_fd0 TBallot_bd0
attribute [local go_sem] TBallot_size TBallot_one TBallot_piece TBallot_c0 TBallot_c1 TBallot_set_round TBallot_set_rep TBallot_ld TBallot_st TBallot_f_round TBallot_f_rep TBallot_bd TBallot_fl TBallot_fl_round TBallot_fl_rep
attribute [local go_sem high] TBallot_eql TBallot_neq
/-! bytes -/
def In64 (n : Int) : Prop := -9223372036854775808 ≤ n ∧ n < 9223372036854775808
theorem two_in {a b : Int} (ha : In64 a) (hb : In64 b) : ∀ n ∈ [a, b], -9223372036854775808 ≤ n ∧ n < 9223372036854775808 := by
 intro n hn; simp at hn; rcases hn with rfl | rfl
 ·exact ha
 ·exact hb
set_option maxHeartbeats 1000000 in
theorem itemPutD (g : Nat) (l : List UInt8) (x : Item) (h1 : In64 x.rep) (h2 : In64 x.num) (hb : l.length ≤ 1000000) :
  Does Tryz.prog 139 #[.pointer (some ⟨g, 0, none⟩), .agg (IV x)] [snkR g l] (.tuple #[]) [snkR g (l ++ encs [x.rep, x.num])] := by
 intro W G hS
 have T := ((Sts.start hS).new (IV x) 33).new #[.int .i64 x.rep, .int .i64 x.num] 3
 clear hS
 simp only [World.size_alloc] at T
 go_enter Tryz.func139, Tryz.ntmps139
 go_wp2_with fail
 refine (Does.at2 (sinkNatD g l (W.heap.size + 1) 0 2 _ [x.rep, x.num] ?_ (two_in h1 h2) (by simp; omega)) T.rot2.swap2.swap2).mono ?_; clear T
 ·intro j hj
  match j, hj with
  | 0, _ => rfl
  | 1, _ => rfl
 rintro e w1 ⟨rfl, T⟩
 go_wp2
 go_end0
 exact ⟨rfl, T.swap.drop.swap.drop⟩
set_option maxHeartbeats 1000000 in
theorem balPutD (g : Nat) (l : List UInt8) (x : Ballot) (h1 : In64 x.round) (h2 : In64 x.rep) (hb : l.length ≤ 1000000) :
  Does Tryz.prog 140 #[.pointer (some ⟨g, 0, none⟩), .agg (BV x)] [snkR g l] (.tuple #[]) [snkR g (l ++ encs [x.round, x.rep])] := by
 intro W G hS
 have T := ((Sts.start hS).new (BV x) 64).new #[.int .i64 x.round, .int .i64 x.rep] 3
 clear hS
 simp only [World.size_alloc] at T
 go_enter Tryz.func140, Tryz.ntmps140
 go_wp2_with fail
 refine (Does.at2 (sinkNatD g l (W.heap.size + 1) 0 2 _ [x.round, x.rep] ?_ (two_in h1 h2) (by simp; omega)) T.rot2.swap2.swap2).mono ?_; clear T
 ·intro j hj
  match j, hj with
  | 0, _ => rfl
  | 1, _ => rfl
 rintro e w1 ⟨rfl, T⟩
 go_wp2
 go_end0
 exact ⟨rfl, T.swap.drop.swap.drop⟩
def bitB (b : Bool) : List UInt8 := [if b then 1 else 0]
set_option maxHeartbeats 1000000 in
theorem sinkBitD (g : Nat) (l : List UInt8) (b : Bool) (hb : l.length ≤ 1000000) :
  Does Tryz.prog 141 #[.pointer (some ⟨g, 0, none⟩), .bool b] [snkR g l] (.tuple #[]) [snkR g (l ++ bitB b)] := by
 intro W G hS
 cases b
 ·have T := (Sts.start hS).new #[.int .i64 0] 3
  clear hS
  go_enter Tryz.func141, Tryz.ntmps141
  go_wp2_with fail
  refine (Does.at2 (sinkNatD g l W.heap.size 0 1 _ [0] (by intro j hj; simp at hj; subst hj; rfl) (by simp) (by simp; omega)) T.swap).mono ?_; clear T
  rintro e w1 ⟨rfl, T⟩
  go_wp2
  go_end0
  rw [show encs [(0 : Int)] = bitB false by show enc 0 ++ [] = _; rw [enc_small (by omega)]; rfl] at T
  exact ⟨rfl, T.swap.drop⟩
 ·have T := (Sts.start hS).new #[.int .i64 1] 3
  clear hS
  go_enter Tryz.func141, Tryz.ntmps141
  go_wp2_with fail
  refine (Does.at2 (sinkNatD g l W.heap.size 0 1 _ [1] (by intro j hj; simp at hj; subst hj; rfl) (by simp) (by simp; omega)) T.swap).mono ?_; clear T
  rintro e w1 ⟨rfl, T⟩
  go_wp2
  go_end0
  rw [show encs [(1 : Int)] = bitB true by show enc 1 ++ [] = _; rw [enc_small (by omega)]; rfl] at T
  exact ⟨rfl, T.swap.drop⟩
def getI (s : Src) : Item × Src := (⟨(natS s 6).1, (natS (natS s 6).2 64).1⟩, (natS (natS s 6).2 64).2)
def getBal (s : Src) : Ballot × Src := (⟨(natS s 1099511627776).1, (natS (natS s 1099511627776).2 6).1⟩, (natS (natS s 1099511627776).2 6).2)
set_option maxHeartbeats 1000000 in
theorem itemGetD (g : Nat) (s : Src) : Does Tryz.prog 101 #[.pointer (some ⟨g, 0, none⟩)] [srcR g s] (.agg (IV (getI s).1)) [srcR g (getI s).2] := by
 intro W G h
 have T := (Sts.start h).new (IV noItem) 33
 clear h
 go_enter Tryz.func101, Tryz.ntmps101
 go_wp2_with fail
 refine (Does.at1 (natD g s 6 (by omega)) T.swap).mono ?_; clear T; rintro e w1 ⟨rfl, T⟩
 go_wp2_with fail
 refine (Does.at1 (natD g _ 64 (by omega)) T).mono ?_; clear T; rintro e w2 ⟨rfl, T⟩
 have hr := T.row1
 have hlt := row_lt hr
 have hI : getI s = (⟨(natS s 6).1, (natS (natS s 6).2 64).1⟩, (natS (natS s 6).2 64).2) := rfl
 have HI := Lib.hid hI; clear hI
 go_wp2
 exact TItem_ret _ rfl rfl rfl (row_setRow_same _ _ _ _ hr) ⟨by rw [HI.out], by rw [HI.out]; exact (T.swap.setRow _).swap.swap.drop⟩
set_option maxHeartbeats 1000000 in
theorem balGetD (g : Nat) (s : Src) : Does Tryz.prog 102 #[.pointer (some ⟨g, 0, none⟩)] [srcR g s] (.agg (BV (getBal s).1)) [srcR g (getBal s).2] := by
 intro W G h
 have T := (Sts.start h).new (BV noBallot) 64
 clear h
 go_enter Tryz.func102, Tryz.ntmps102
 go_wp2_with fail
 refine (Does.at1 (natD g s 1099511627776 (by omega)) T.swap).mono ?_; clear T; rintro e w1 ⟨rfl, T⟩
 go_wp2_with fail
 refine (Does.at1 (natD g _ 6 (by omega)) T).mono ?_; clear T; rintro e w2 ⟨rfl, T⟩
 have hr := T.row1
 have hlt := row_lt hr
 have hI : getBal s = (⟨(natS s 1099511627776).1, (natS (natS s 1099511627776).2 6).1⟩, (natS (natS s 1099511627776).2 6).2) := rfl
 have HI := Lib.hid hI; clear hI
 go_wp2
 exact TBallot_ret _ rfl rfl rfl (row_setRow_same _ _ _ _ hr) ⟨by rw [HI.out], by rw [HI.out]; exact (T.swap.setRow _).swap.swap.drop⟩
set_option maxHeartbeats 1000000 in
theorem bitD (g : Nat) (s : Src) : Does Tryz.prog 104 #[.pointer (some ⟨g, 0, none⟩)] [srcR g s] (.bool ((natS s 1).1 == 1)) [srcR g (natS s 1).2] := by
 intro W G h
 have T := Sts.start h
 clear h
 go_enter Tryz.func104, Tryz.ntmps104
 go_wp2_with fail
 refine (Does.at1 (natD g s 1 (by omega)) T).mono ?_; clear T; rintro e w1 ⟨rfl, T⟩
 go_wp2
 go_ret
 refine ⟨congrArg (fun b => Ending.returned (.bool b)) ?_, T⟩
 rw [Bool.eq_iff_iff]; simp; omega
set_option maxHeartbeats 1000000 in
theorem overQ {w W : World} {F : Nat → Prop} {R : List Res} {g : Nat} {s : Src} (T : Sts w F W (srcR g s :: R)) : Calls Tryz.prog 106 #[.pointer (some ⟨g, 0, none⟩)] W fun e W' => e = .returned (.bool (!s.dry && s.left.isEmpty)) ∧ W = W' := by
 have hc := row_cell T.row
 unfold SV at hc
 clear T
 have he : ((strL s.left).toList == []) = s.left.isEmpty := by
  rw [Bool.eq_iff_iff, beq_iff_eq, ByteArray.toList_eq, List.isEmpty_iff]; exact Iff.rfl
 have he2 : (strL s.left).toList.isEmpty = s.left.isEmpty := by
  rw [Bool.eq_iff_iff, List.isEmpty_iff, ByteArray.toList_eq, List.isEmpty_iff]; exact Iff.rfl
 generalize strL s.left = B at *
 cases hd : s.dry
 ·rw [hd] at hc
  go_enter Tryz.func106, Tryz.ntmps106
  go_wp2
  go_ret
  exact ⟨rfl, rfl⟩
 ·rw [hd] at hc
  go_enter Tryz.func106, Tryz.ntmps106
  go_wp2
  go_ret
  exact ⟨rfl, rfl⟩
end Go.Proofs.YtomlilkobhkoiaaGreatDoor
/- Layer 6: the plain law of a sum, bit by bit. No program stands here. -/
namespace Go.Proofs.YtomlilkobhkoiaaGreatDoor
set_option linter.unusedVariables false
def crcP : Nat := 3988292384
def crc1 (c : Nat) : Nat := if c % 2 = 1 then (c / 2) ^^^ crcP else c / 2
def crcN : Nat → Nat → Nat
 | 0, c => c
 | k + 1, c => crc1 (crcN k c)
def crcB (c b : Nat) : Nat := crcN 8 (c ^^^ b)
def crcL (c : Nat) (l : List UInt8) : Nat := l.foldl (fun c b => crcB c b.toNat) c
def crc (l : List UInt8) : Nat := 4294967295 - crcL 4294967295 l
theorem crc1_lt {c : Nat} (h : c < 4294967296) : crc1 c < 4294967296 := by
 unfold crc1
 split
 ·exact Nat.xor_lt_two_pow (n := 32) (by omega) (by unfold crcP; omega)
 ·omega
theorem crcN_lt {c : Nat} (h : c < 4294967296) : ∀ k, crcN k c < 4294967296
 | 0 => h
 | k + 1 => crc1_lt (crcN_lt h k)
theorem crcB_lt {c b : Nat} (h : c < 4294967296) (hb : b < 256) : crcB c b < 4294967296 := crcN_lt (Nat.xor_lt_two_pow (n := 32) (by omega) (by omega)) 8
theorem crcL_lt : ∀ {l : List UInt8} {c : Nat}, c < 4294967296 → crcL c l < 4294967296
 | [], _, h => h
 | b :: l, c, h => crcL_lt (l := l) (crcB_lt h b.toNat_lt)
theorem crcL_app (c : Nat) (l m : List UInt8) : crcL c (l ++ m) = crcL (crcL c l) m := by simp [crcL]
theorem crcL_snoc (c : Nat) (l : List UInt8) (b : UInt8) : crcL c (l ++ [b]) = crcB (crcL c l) b.toNat := by simp [crcL]
theorem crc_lt (l : List UInt8) : crc l < 4294967296 := by unfold crc; omega
def fourB (c : Nat) : List UInt8 := [UInt8.ofNat c, UInt8.ofNat (c / 256), UInt8.ofNat (c / 65536), UInt8.ofNat (c / 16777216)]
/-- A text with its length, and its sum, ahead. -/
def sealB (l : List UInt8) (n : List UInt8) : List UInt8 := n ++ fourB (crc (n ++ l)) ++ l
end Go.Proofs.YtomlilkobhkoiaaGreatDoor
/- Layer 6: sums, texts sealed. -/
namespace Go.Proofs.YtomlilkobhkoiaaGreatDoor
open Go.RowKit
set_option linter.unusedVariables false
attribute [local go_sem] row_alloc row_drew row_drewN row_ext row_setCell row_setRow size_ext setRow_alloc setRow_drew loadOf storeOf piece_lit loadVal_at storeVal_at allOne_lit buildOf buildRes_some
attribute [local go_sem high] cell_alloc frozen_alloc setCell_alloc cell_ext frozen_ext cell_setRow frozen_setRow
theorem and_one (c : Nat) (h : c < 4294967296) : bits .and .u32 (c : Int) 1 = ((c % 2 : Nat) : Int) := by
 have := u32_and_nat c 1 h (by omega)
 rw [show ((1 : Nat) : Int) = 1 from rfl] at this
 rw [this, Nat.and_one_is_mod]
theorem xor_poly (c : Nat) (h : c < 4294967296) : bits .xor .u32 ((c : Int) / 2) 3988292384 = ((c / 2 ^^^ crcP : Nat) : Int) := by
 have := u32_xor_nat (c / 2) crcP (by omega) (by unfold crcP; omega)
 rw [← this]; rfl
set_option maxHeartbeats 1000000 in
theorem step_any (c b : Nat) (hc : c < 4294967296) (hb : b < 256) : Ans Tryz.prog 182 #[.int .u32 c, .int .u8 b] (.int .u32 (crcB c b)) := by
 intro w
 have hx := u32_xor_nat c b hc (by omega)
 go_enter Tryz.func182, Tryz.ntmps182
 go_wp2
 go_loop [0, 9] (fun u i => ∃ k : Nat, k ≤ 8 ∧ i = .int .i64 k ∧ u = .int .u32 (crcN k (c ^^^ b))) (fun _ i => 8 - (intOf i).toNat)
 case atStart => exact ⟨0, by omega, rfl, rfl⟩
 case round =>
  obtain ⟨k, hk, rfl, rfl⟩ := hrel
  clear hx
  by_cases hk8 : k < 8
  ·have hlt := crcN_lt (c := c ^^^ b) (Nat.xor_lt_two_pow (n := 32) (by omega) (by omega)) k
   have hs : crcN (k + 1) (c ^^^ b) = crc1 (crcN k (c ^^^ b)) := rfl
   have HS := Lib.hid hs; clear hs
   generalize crcN k (c ^^^ b) = e at *
   have h1 := and_one e hlt
   have h2 := xor_poly e hlt
   by_cases ho : e % 2 = 1
   ·have hc1 : crc1 e = e / 2 ^^^ crcP := by unfold crc1; rw [if_pos ho]
    rw [ho] at h1
    have HC := Lib.hid hc1; clear hc1 ho
    generalize e / 2 ^^^ crcP = e2 at *
    go_wp2
    go_round
    case rel => exact ⟨k + 1, by omega, by go_num, by rw [HS.out, HC.out]⟩
    case measure => simp [intOf]; omega
   ·have ho0 : e % 2 = 0 := by omega
    have hc1 : crc1 e = e / 2 := by unfold crc1; rw [if_neg ho]
    rw [ho0] at h1
    have HC := Lib.hid hc1; clear hc1 ho ho0
    go_wp2
    go_round
    case rel => exact ⟨k + 1, by omega, by go_num, by rw [HS.out, HC.out]; first | rfl | simp⟩
    case measure => simp [intOf]; omega
  ·obtain rfl : k = 8 := by omega
   go_wp2
   go_ret
   exact ⟨rfl, Below.refl _ _⟩
theorem conv_four (W : World) (a b c d : UInt8) : (convert 73 9 (.slice (some ⟨W.heap.size, 0, none⟩) 4 4)).run Tryz.prog (W.alloc (.cells #[.int .u8 (a.toNat : Int), .int .u8 (b.toNat : Int), .int .u8 (c.toNat : Int), .int .u8 (d.toNat : Int)] 5)) = .ok (.string (strL [a, b, c, d])) (W.alloc (.cells #[.int .u8 (a.toNat : Int), .int .u8 (b.toNat : Int), .int .u8 (c.toNat : Int), .int .u8 (d.toNat : Int)] 5)) := by
 refine run_convert_bytes_back _ _ _ _ ⟨W.heap.size, 0, none⟩ 4 [a, b, c, d] Tryz.underlying73 Tryz.underlying5 Tryz.underlying9 fun j hj => ?_
 have hadd : (⟨W.heap.size, 0, none⟩ : Addr).add j = ⟨W.heap.size, j, none⟩ := by unfold Addr.add; split <;> simp_all
 rw [hadd, cell_alloc, if_pos rfl]
 match j, hj with
 | 0, _ => rfl
 | 1, _ => rfl
 | 2, _ => rfl
 | 3, _ => rfl
theorem byte_of (n : Nat) : IntKind.u8.wrap (n : Int) = ((UInt8.ofNat n).toNat : Int) := by
 rw [UInt8.toNat_ofNat', IntKind.wrap_u8]; omega
set_option maxHeartbeats 1000000 in
theorem four_any (c : Nat) (hc : c < 4294967296) : Ans Tryz.prog 144 #[.int .u32 c] (.string (strL (fourB c))) := by
 intro w
 have h0 := byte_of c
 have h1 := byte_of (c / 256)
 have h2 := byte_of (c / 65536)
 have h3 := byte_of (c / 16777216)
 have e1 : ((c / 256 : Nat) : Int) = (c : Int) / 256 := by omega
 have e2 : ((c / 65536 : Nat) : Int) = (c : Int) / 65536 := by omega
 have e3 : ((c / 16777216 : Nat) : Int) = (c : Int) / 16777216 := by omega
 rw [e1] at h1; rw [e2] at h2; rw [e3] at h3
 clear e1 e2 e3
 unfold fourB
 generalize UInt8.ofNat c = x0 at *
 generalize UInt8.ofNat (c / 256) = x1 at *
 generalize UInt8.ofNat (c / 65536) = x2 at *
 generalize UInt8.ofNat (c / 16777216) = x3 at *
 have hcv := conv_four w x0 x1 x2 x3
 generalize strL [x0, x1, x2, x3] = B at *
 go_enter Tryz.func144, Tryz.ntmps144
 go_wp2
 go_ret
 exact ⟨rfl, (Below.refl _ _).alloc (Nat.le_refl _) _⟩
/-- texts in a row -/
def textsV (l : List (List UInt8)) : Array Value := (l.map fun t => Value.string (strL t)).toArray
theorem textsV_get (l : List (List UInt8)) (k : Nat) (hk : k < l.length) : (textsV l)[k]? = some (.string (strL l[k])) := by
 simp [textsV, hk]
theorem not_bits (c : Nat) (h : c < 4294967296) : bits .xor .u32 IntKind.u32.max (c : Int) = ((4294967295 - c : Nat) : Int) := by
 have e : IntKind.u32.max = ((4294967295 : Nat) : Int) := rfl
 rw [e, u32_xor_nat _ _ (by omega) h]
 congr 1
 have h1 : (BitVec.allOnes 32 ^^^ BitVec.ofNat 32 c).toNat = 4294967295 ^^^ c := by
  rw [BitVec.toNat_xor]; simp [BitVec.toNat_ofNat, Nat.mod_eq_of_lt h]
 rw [← h1, BitVec.allOnes_xor, BitVec.toNat_not]
 simp [Nat.mod_eq_of_lt h]
set_option maxHeartbeats 2000000 in
theorem sumD (h : Nat) (l : List (List UInt8)) (c : Nat) (hl : l.length ≤ 1000) (hz : ∀ t ∈ l, t.length ≤ 1000000000) : Does Tryz.prog 145 #[.slice (some ⟨h, 0, none⟩) l.length c] [rowR h (textsV l)] (.int .u32 (crc l.flatten)) [rowR h (textsV l)] := by
 intro W G hS
 have T := Sts.start hS
 clear hS
 go_enter Tryz.func145, Tryz.ntmps145
 go_wp2
 go_loopw [3, 9] (fun u i wr => ∃ k : Nat, k ≤ l.length ∧ i = .int .i64 k ∧ u = .int .u32 (crcL 4294967295 (l.take k).flatten) ∧ Sts W G wr [rowR h (textsV l)]) (fun _ i _ => l.length - (intOf i).toNat)
 case atStart => exact ⟨0, by omega, rfl, rfl, T⟩
 case round =>
  clear T
  obtain ⟨k, hk, rfl, rfl, T⟩ := hrel
  by_cases hkl : k < l.length
  ·have hc := row_cell T.row k
   rw [textsV_get l k hkl] at hc
   have htz := hz l[k] (List.getElem_mem hkl)
   have hsn : (l.take (k + 1)).flatten = (l.take k).flatten ++ l[k] := by rw [List.take_succ_eq_append_getElem hkl, List.flatten_append, List.flatten_cons, List.flatten_nil, List.append_nil]
   have HSN := Lib.hid hsn; clear hsn
   have hc0 : crcL 4294967295 (l.take k).flatten < 4294967296 := crcL_lt (by omega)
   have happ : crcL 4294967295 ((l.take k).flatten ++ l[k]) = crcL (crcL 4294967295 (l.take k).flatten) l[k] := crcL_app _ _ _
   have HAPP := Lib.hid happ; clear happ
   generalize crcL 4294967295 (l.take k).flatten = c0 at *
   generalize l[k] = t at *
   have hsz := strL_size t
   have hget : ∀ j (hj : j < (strL t).size) (hj' : j < t.length), (strL t)[j]'hj = t[j]'hj' := fun j hj _ => rfl
   have HSZ := Lib.hid hsz
   have htz2 : (strL t).size ≤ 1000000000 := by rw [hsz]; exact htz
   clear hsz
   go_wp2
   go_loopw [3, 15] (fun u i wr => ∃ j : Nat, j ≤ t.length ∧ i = .int .i64 j ∧ u = .int .u32 (crcL c0 (t.take j)) ∧ Sts W G wr [rowR h (textsV l)]) (fun _ i _ => t.length - (intOf i).toNat)
   case atStart => exact ⟨0, by omega, rfl, rfl, T⟩
   case round =>
    clear T hc
    obtain ⟨j, hj, rfl, rfl, T⟩ := hrel
    have hc1 : crcL c0 (t.take j) < 4294967296 := crcL_lt hc0
    by_cases hjl : j < t.length
    ·have hjl2 : j < (strL t).size := by rw [HSZ.out]; exact hjl
     have hg1 := hget j hjl2 hjl
     have hsn : t.take (j + 1) = t.take j ++ [t[j]'hjl] := List.take_succ_eq_append_getElem hjl
     have hcs : crcL c0 (t.take (j + 1)) = crcB (crcL c0 (t.take j)) (t[j]'hjl).toNat := by rw [hsn, crcL_snoc]
     have HCS := Lib.hid hcs; clear hcs hsn
     have hb := (t[j]'hjl).toNat_lt
     have C := Lib.hid (step_any (crcL c0 (t.take j)) (t[j]'hjl).toNat hc1 hb)
     generalize crcL c0 (t.take j) = c1 at *
     clear hget
     generalize t[j]'hjl = x at *
     generalize strL t = B at *
     go_wp2_with fail
     refine (Ans.at C.out T).mono ?_; clear T; rintro e w1 ⟨rfl, T⟩
     go_wp2
     go_roundw
     case rel => exact ⟨j + 1, by omega, by go_num, by rw [HCS.out], T⟩
     case measure => simp [intOf]; omega
    ·obtain rfl : j = t.length := by omega
     have hjl2 : ¬ t.length < (strL t).size := by rw [HSZ.out]; omega
     rw [List.take_length]
     clear hget
     have hsz3 := HSZ.out
     clear hjl2
     go_wp2
     go_roundw
     case rel => exact ⟨k + 1, by omega, by go_num, by rw [HSN.out, HAPP.out], T⟩
     case measure => simp [intOf]; omega
  ·obtain rfl : k = l.length := by omega
   rw [List.take_length]
   have hlt : crcL 4294967295 l.flatten < 4294967296 := crcL_lt (by omega)
   have hn := not_bits _ hlt
   have hsg : IntKind.u32.signed = false := rfl
   have hcr : crc l.flatten = 4294967295 - crcL 4294967295 l.flatten := rfl
   have HC := Lib.hid hcr; clear hcr
   generalize crcL 4294967295 l.flatten = c0 at *
   go_wp2
   go_ret
   exact ⟨by rw [HC.out]; first | rfl | exact congrArg Ending.returned (by simp [hn]), T⟩
end Go.Proofs.YtomlilkobhkoiaaGreatDoor
/- Layer 6: texts sealed, and opened. -/
namespace Go.Proofs.YtomlilkobhkoiaaGreatDoor
open Go.RowKit
set_option linter.unusedVariables false
attribute [local go_sem] row_alloc row_drew row_drewN row_ext row_setCell row_setRow size_ext setRow_alloc setRow_drew loadOf storeOf piece_lit loadVal_at storeVal_at allOne_lit buildOf buildRes_some
attribute [local go_sem high] cell_alloc frozen_alloc setCell_alloc cell_ext frozen_ext cell_setRow frozen_setRow
theorem sinkNew {w W : World} {F : Nat → Prop} {L : List Res} (T : Sts w F W L) : Sts w F (W.alloc (.cells #[.slice none 0 0] 205)) (snkR W.heap.size [] :: L) := by
 have T := T.new #[.slice none 0 0] 205
 exact snk_shut (T.vecNil 5 1).swap
def sealS (t : List UInt8) : List UInt8 := if 16384 < t.length then [] else sealB t (enc t.length)
theorem flat2 (a b : List UInt8) : [a, b].flatten = a ++ b := by simp
set_option maxHeartbeats 1000000 in
theorem seal_any (t : List UInt8) (hz : t.length ≤ 1000000000) : Ans Tryz.prog 92 #[.string (strL t)] (.string (strL (sealS t))) := by
 refine Ans.of_sts fun w => ?_
 have T := Sts.start0 w
 have hsz := strL_size t
 by_cases h : 16384 < t.length
 ·have hs : sealS t = [] := if_pos h
  rw [hs]
  clear hs
  go_enter Tryz.func92, Tryz.ntmps92
  have h2 : 16384 < (strL t).size := by rw [hsz]; exact h
  clear hsz
  generalize strL t = B at *
  go_wp2
  go_ret
  exact ⟨rfl, T⟩
 ·have hs : sealS t = enc t.length ++ fourB (crc (enc t.length ++ t)) ++ t := if_neg h
  have HS := Lib.hid hs; clear hs
  have h9 := enc_len9 (n := t.length) (by omega)
  have hcl := crc_lt (enc t.length ++ t)
  have hfl : ((fourB (crc (enc t.length ++ t))).length : Nat) = 4 := rfl
  have C1 := Lib.hid (four_any (crc (enc t.length ++ t)) hcl)
  have HSZ := Lib.hid hsz
  have hle : (strL t).size ≤ 16384 := by rw [hsz]; omega
  have hdl : (strL t).data.toList = t := rfl
  clear hsz
  have T := (sinkNew T).new #[.int .i64 t.length] 3
  simp only [World.size_alloc] at T
  go_enter Tryz.func92, Tryz.ntmps92
  have hsz := HSZ.out
  go_wp2_with fail
  refine (Does.at2 (sinkNatD w.heap.size [] (w.heap.size + 1) 0 1 _ [(t.length : Int)] (by intro j hj; simp at hj; subst hj; rfl) (by simp; omega) (by simp)) T.swap).mono ?_; clear T; rintro e w1 ⟨rfl, T⟩
  have T := T.swap.drop
  rw [show ([] : List UInt8) ++ encs [(t.length : Int)] = enc t.length by simp [encs]] at T
  go_wp2_with fail
  refine (Does.at1 (sinkBytesD w.heap.size _) T).mono ?_; clear T; rintro e w2 ⟨rfl, T⟩
  have T := T.new (textsV [enc t.length, t]) 9
  go_wp2_with fail
  refine (Does.at1 (sumD w2.heap.size [enc t.length, t] 2 (by simp) (by intro x hx; simp at hx; rcases hx with rfl | rfl <;> omega)) T).mono ?_; clear T; rintro e w3 ⟨rfl, T⟩
  rw [flat2]
  go_wp2_with fail
  refine (Ans.at C1.out T).mono ?_; clear T; rintro e w4 ⟨rfl, T⟩
  have T := T.drop
  go_wp2_with fail
  refine (Does.at1 (sinkRawD w.heap.size _ (strL (fourB (crc (enc t.length ++ t)))) (by rw [strL_size, hfl]; omega)) T).mono ?_; clear T; rintro e w5 ⟨rfl, T⟩
  go_wp2_with fail
  refine (Does.at1 (sinkRawD w.heap.size _ (strL t) (by rw [List.length_append, strL_list, hfl]; omega)) T).mono ?_; clear T; rintro e w6 ⟨rfl, T⟩
  go_wp2_with fail
  refine (Does.at1 (sinkBytesD w.heap.size _) T).mono ?_; clear T; rintro e w7 ⟨rfl, T⟩
  go_wp2
  go_ret
  exact ⟨congrArg (fun s => Ending.returned (.string s)) (by rw [HS.out, strL_list]; simp), T.nil⟩
/-- The text with which sealed bytes begin, and how many these are. -/
def openS (b : List UInt8) : List UInt8 × Nat :=
 let n := natS ⟨b, false⟩ 16384
 let q := rawS n.2 4
 let s := rawS q.2 n.1
 if s.2.dry = true ∨ fourB (crc (enc n.1 ++ s.1)) ≠ q.1 then ([], 0) else (s.1, b.length - s.2.left.length)
theorem rawS_len (s : Src) (n : Int) : (rawS s n).1.length ≤ s.left.length := by
 unfold rawS; split
 ·simp
 ·simp; omega
theorem rawS_left (s : Src) (n : Int) : (rawS s n).2.left.length ≤ s.left.length := by
 unfold rawS; split
 ·simp [dryS]
 ·simp
theorem natS_left (s : Src) (m : Nat) : (natS s m).2.left.length ≤ s.left.length := by
 cases h : (natS s m).2.dry
 ·obtain ⟨_, h2, _⟩ := natS_inv h
  rw [h2]; simp
 ·have : (natS s m).2 = dryS := by
   unfold natS at h ⊢
   split
   ·rfl
   ·rename_i hd
    rw [if_neg hd] at h
    split
    ·rfl
    ·rename_i hdec; rw [hdec] at h; simp at h
  rw [this]; simp [dryS]
theorem strL_inj {a b : List UInt8} (h : strL a = strL b) : a = b := by
 have := congrArg (fun s : ByteArray => s.data.toList) h
 exact this
set_option maxHeartbeats 1000000 in
theorem open_any (b : List UInt8) (hb : b.length ≤ 1000000000) : Ans Tryz.prog 99 #[.string (strL b)] (.tuple #[.string (strL (openS b).1), .int .i64 (openS b).2]) := by
 refine Ans.of_sts fun w => ?_
 have T := Sts.start0 w
 have hbz := strL_size b
 have HBZ := Lib.hid hbz; clear hbz
 go_enter Tryz.func99, Tryz.ntmps99
 go_wp2_with fail
 refine (fromS T b).mono ?_; clear T; rintro e w1 ⟨rfl, T⟩
 go_wp2_with fail
 refine (Does.at1 (natD w.heap.size _ 16384 (by omega)) T).mono ?_; clear T; rintro e w2 ⟨rfl, T⟩
 have hn := natS_le ⟨b, false⟩ 16384
 have hnl := natS_left ⟨b, false⟩ 16384
 have ho : openS b = if (rawS (rawS (natS ⟨b, false⟩ 16384).2 4).2 (natS ⟨b, false⟩ 16384).1).2.dry = true ∨ fourB (crc (enc (natS ⟨b, false⟩ 16384).1 ++ (rawS (rawS (natS ⟨b, false⟩ 16384).2 4).2 (natS ⟨b, false⟩ 16384).1).1)) ≠ (rawS (natS ⟨b, false⟩ 16384).2 4).1 then ([], 0) else ((rawS (rawS (natS ⟨b, false⟩ 16384).2 4).2 (natS ⟨b, false⟩ 16384).1).1, b.length - (rawS (rawS (natS ⟨b, false⟩ 16384).2 4).2 (natS ⟨b, false⟩ 16384).1).2.left.length) := rfl
 generalize natS ⟨b, false⟩ 16384 = n at *
 go_wp2_with fail
 refine (Does.at1 (rawD w.heap.size _ 4 (by omega)) T).mono ?_; clear T; rintro e w3 ⟨rfl, T⟩
 have hql := rawS_left n.2 4
 generalize rawS n.2 4 = q at *
 go_wp2_with fail
 refine (Does.at1 (rawD w.heap.size _ n.1 (by omega)) T).mono ?_; clear T; rintro e w4 ⟨rfl, T⟩
 have hsl := rawS_left q.2 n.1
 have hsm := rawS_len q.2 n.1
 generalize rawS q.2 n.1 = s at *
 have HO := Lib.hid ho; clear ho
 have hbl : (Src.mk b false).left.length = b.length := rfl
 go_wp2_with fail
 refine (Does.at1 (dryD w.heap.size _) T).mono ?_; clear T; rintro e w5 ⟨rfl, T⟩
 cases hdr : s.2.dry
 ·have T := (sinkNew T).new #[.int .i64 n.1] 3
  simp only [World.size_alloc] at T
  go_wp2_with fail
  refine (Does.at2 (sinkNatD w5.heap.size [] (w5.heap.size + 1) 0 1 _ [(n.1 : Int)] (by intro j hj; simp at hj; subst hj; rfl) (by simp; omega) (by simp)) T.swap).mono ?_; clear T; rintro e w6 ⟨rfl, T⟩
  have T := T.swap.drop
  rw [show ([] : List UInt8) ++ encs [(n.1 : Int)] = enc n.1 by simp [encs]] at T
  go_wp2_with fail
  refine (Does.at1 (sinkBytesD w5.heap.size _) T).mono ?_; clear T; rintro e w7 ⟨rfl, T⟩
  have T := T.drop.new (textsV [enc n.1, s.1]) 9
  have h9 := enc_len9 (n := n.1) (by omega)
  go_wp2_with fail
  refine (Does.at1 (sumD w7.heap.size [enc n.1, s.1] 2 (by simp) (by intro x hx; simp at hx; rcases hx with rfl | rfl <;> omega)) T).mono ?_; clear T; rintro e w8 ⟨rfl, T⟩
  rw [flat2]
  go_wp2_with fail
  refine (Ans.at (four_any _ (crc_lt _)) T).mono ?_; clear T; rintro e w9 ⟨rfl, T⟩
  have T := T.drop
  by_cases hf : fourB (crc (enc n.1 ++ s.1)) = q.1
  ·have hres : openS b = (s.1, b.length - s.2.left.length) := by rw [HO.out, if_neg (by simp [hdr, hf])]
   have HR := Lib.hid hres; clear hres
   rw [hf]
   clear hf
   have hle : s.2.left.length ≤ b.length := by omega
   have hbz := HBZ.out
   go_wp2_with fail
   refine (Does.at1 (leftD w.heap.size _) T).mono ?_; clear T; rintro e w10 ⟨rfl, T⟩
   go_wp2
   go_ret2
   exact ⟨by rw [HR.out]; simp; omega, T.nil⟩
  ·have hres : openS b = ([], 0) := by rw [HO.out, if_pos (.inr hf)]
   have HR := Lib.hid hres; clear hres
   have hne : ((strL (fourB (crc (enc n.1 ++ s.1)))).toList == (strL q.1).toList) = false := by
    rw [beq_eq_false_iff_ne]; intro e; exact hf (strL_inj (toList_inj_iff.1 e))
   clear hf
   generalize strL (fourB (crc (enc n.1 ++ s.1))) = B at *
   generalize strL q.1 = B2 at *
   go_wp2
   go_ret2
   exact ⟨by rw [HR.out]; rfl, T.nil⟩
 ·have hres : openS b = ([], 0) := by rw [HO.out, if_pos (.inl hdr)]
  have HR := Lib.hid hres; clear hres
  go_wp2
  go_ret2
  exact ⟨by rw [HR.out]; rfl, T.nil⟩
end Go.Proofs.YtomlilkobhkoiaaGreatDoor
/- Layer 9: a record's bytes. -/
namespace Go.Proofs.YtomlilkobhkoiaaGreatDoor
open Go.RowKit
set_option linter.unusedVariables false
set_option maxRecDepth 20000
attribute [local go_sem] row_alloc row_drew row_drewN row_ext row_setCell row_setRow size_ext setRow_alloc setRow_drew loadOf storeOf piece_lit loadVal_at storeVal_at allOne_lit buildOf buildRes_some
attribute [local go_sem high] cell_alloc frozen_alloc setCell_alloc cell_ext frozen_ext cell_setRow frozen_setRow
attribute [local go_sem ↓] TDeed_ld0 TDeed_st0 TDeed_fd0 TDeed_bd0
attribute [local go_sem] TDeed_size TDeed_one TDeed_piece TDeed_c0 TDeed_c1 TDeed_c2 TDeed_c3 TDeed_c4 TDeed_c5 TDeed_set_kind TDeed_set_key TDeed_set_val TDeed_set_ver TDeed_set_ses TDeed_set_num TDeed_ld TDeed_st TDeed_f_kind TDeed_f_key TDeed_f_val TDeed_f_ver TDeed_f_ses TDeed_f_num TDeed_bd TDeed_fl TDeed_fl_kind TDeed_fl_key TDeed_fl_val TDeed_fl_ver TDeed_fl_ses TDeed_fl_num
attribute [local go_sem high] TDeed_eql TDeed_neq
attribute [local go_sem ↓] index_deps0 load_deps0 store_deps0
attribute [local go_sem] DV_piece DV_size DV_one index_deps load_deps store_deps
attribute [local go_sem high] TDeps_eql TDeps_neq
attribute [local go_sem ↓] TCall_ld0 TCall_st0 TCall_fd0 TCall_bd0
attribute [local go_sem] TCall_size TCall_one TCall_piece TCall_c0 TCall_c1 TCall_c2 TCall_c3 TCall_c4 TCall_c5 TCall_c6 TCall_c7 TCall_c8 TCall_c9 TCall_c10 TCall_c11 TCall_c12 TCall_c13 TCall_p_deed TCall_put_deed TCall_p_deps TCall_put_deps TCall_set_seq TCall_ld TCall_st TCall_f_deed TCall_f_deps TCall_f_seq TCall_bd TCall_fl TCall_fl_deed TCall_fl_deps TCall_fl_seq
attribute [local go_sem high] TCall_eql TCall_neq
attribute [local go_sem ↓] TItem_ld0 TItem_st0 TItem_fd0 TItem_bd0
attribute [local go_sem] TItem_size TItem_one TItem_piece TItem_c0 TItem_c1 TItem_set_rep TItem_set_num TItem_ld TItem_st TItem_f_rep TItem_f_num TItem_bd TItem_fl TItem_fl_rep TItem_fl_num
attribute [local go_sem high] TItem_eql TItem_neq
attribute [local go_sem ↓] TBallot_ld0 TBallot_st0 TBallot_fd0 TBallot_bd0
attribute [local go_sem] TBallot_size TBallot_one TBallot_piece TBallot_c0 TBallot_c1 TBallot_set_round TBallot_set_rep TBallot_ld TBallot_st TBallot_f_round TBallot_f_rep TBallot_bd TBallot_fl TBallot_fl_round TBallot_fl_rep
attribute [local go_sem high] TBallot_eql TBallot_neq
attribute [local go_sem ↓] TInst_ld0 TInst_st0 TInst_fd0 TInst_bd0
attribute [local go_sem] TInst_size TInst_one TInst_piece TInst_c0 TInst_c1 TInst_c2 TInst_c3 TInst_c4 TInst_c5 TInst_c6 TInst_c7 TInst_c8 TInst_c9 TInst_c10 TInst_c11 TInst_c12 TInst_c13 TInst_c14 TInst_c15 TInst_c16 TInst_c17 TInst_c18 TInst_c19 TInst_p_prom TInst_put_prom TInst_p_vote TInst_put_vote TInst_set_status TInst_p_call TInst_put_call TInst_set_same TInst_ld TInst_st TInst_f_prom TInst_f_vote TInst_f_status TInst_f_call TInst_f_same TInst_bd TInst_fl TInst_fl_prom TInst_fl_vote TInst_fl_status TInst_fl_call TInst_fl_same
attribute [local go_sem high] TInst_eql TInst_neq
structure InstIn (i : Inst) (N : Nat) : Prop where
 round : In64 i.prom.round
 rep : In64 i.prom.rep
 vround : In64 i.vote.round
 vrep : In64 i.vote.rep
 status : In64 i.status
 call : CallIn i.call N
/-- A record's bytes, not sealed. -/
def recB (x : Item) (i : Inst) : List UInt8 := encs [x.rep, x.num] ++ encs [i.prom.round, i.prom.rep] ++ encs [i.vote.round, i.vote.rep] ++ encs [i.status] ++ bitB i.same ++ callB i.call
theorem encs_le' {ns : List Int} (h : ∀ n ∈ ns, -9223372036854775808 ≤ n ∧ n < 9223372036854775808) : (encs ns).length ≤ 9 * ns.length := encs_len fun n hn => (h n hn).2
theorem one_in' {a : Int} (ha : In64 a) : ∀ n ∈ [a], -9223372036854775808 ≤ n ∧ n < 9223372036854775808 := by
 intro n hn; simp at hn; subst hn; exact ha
theorem recB_len {x : Item} {i : Inst} {N : Nat} (h1 : In64 x.rep) (h2 : In64 x.num) (h : InstIn i N) (hN : N ≤ 1000000) : (recB x i).length ≤ N + 190 := by
 have e1 := encs_le' (two_in h1 h2)
 have e2 := encs_le' (two_in h.round h.rep)
 have e3 := encs_le' (two_in h.vround h.vrep)
 have e4 := encs_le' (one_in' h.status)
 have e5 := callB_len h.call hN
 have e6 : (bitB i.same).length = 1 := rfl
 unfold recB
 simp only [List.length_append, List.length_cons, List.length_nil] at *
 omega
set_option maxHeartbeats 4000000 in
theorem record_any (x : Item) (i : Inst) (N : Nat) (h1 : In64 x.rep) (h2 : In64 x.num) (h : InstIn i N) (hN : N ≤ 10000) :
  Ans Tryz.prog 222 #[.agg (IV x), .agg (NV i)] (.string (strL (sealS (recB x i)))) := by
 intro W
 have e1 := encs_le' (two_in h1 h2)
 have e2 := encs_le' (two_in h.round h.rep)
 have e3 := encs_le' (two_in h.vround h.vrep)
 have e4 := encs_le' (one_in' h.status)
 have e6 : (bitB i.same).length = 1 := rfl
 have hl := recB_len h1 h2 h (by omega)
 have hr : recB x i = encs [x.rep, x.num] ++ encs [i.prom.round, i.prom.rep] ++ encs [i.vote.round, i.vote.rep] ++ encs [i.status] ++ bitB i.same ++ callB i.call := rfl
 simp only [List.length_cons, List.length_nil] at e1 e2 e3 e4
 have T := sinkNew (((Sts.start0 W).new (IV x) 33).new (NV i) 70)
 simp only [World.size_alloc] at T
 have HR := Lib.hid hr; clear hr
 go_enter Tryz.func222, Tryz.ntmps222
 go_wp2_with fail
 generalize ((W.alloc _).alloc _).alloc _ = w1 at *
 generalize W.heap.size + 1 + 1 = gs at *
 generalize W.heap.size + 1 = gi at *
 refine (Does.at1 (itemPutD gs [] x h1 h2 (by simp)) T).mono ?_; clear T; rintro e w2 ⟨rfl, T⟩
 have r1 := T.row1; have l1 := row_lt r1; have c1 := row_cell r1
 go_wp2_with fail
 refine (Does.at1 (balPutD gs _ i.prom h.round h.rep (by simp only [List.length_append, List.length_nil]; omega)) T).mono ?_; clear T r1 l1 c1; rintro e w3 ⟨rfl, T⟩
 have r1 := T.row1; have l1 := row_lt r1; have c1 := row_cell r1
 go_wp2_with fail
 refine (Does.at1 (balPutD gs _ i.vote h.vround h.vrep (by simp only [List.length_append, List.length_nil]; omega)) T).mono ?_; clear T r1 l1 c1; rintro e w4 ⟨rfl, T⟩
 have r1 := T.row1; have l1 := row_lt r1; have c1 := row_cell r1
 have T := (T.new #[.int .i64 i.status] 3).swap
 go_wp2_with fail
 refine (Does.at2 (sinkNatD gs _ w4.heap.size 0 1 _ [i.status] ?_ (one_in' h.status) (by simp only [List.length_append, List.length_nil, List.length_cons]; omega)) T).mono ?_; clear T r1 l1 c1
 ·intro j hj
  match j, hj with
  | 0, _ => rfl
 rintro e w5 ⟨rfl, T⟩
 have T := T.swap.drop
 have r1 := T.row1; have l1 := row_lt r1; have c1 := row_cell r1
 go_wp2_with fail
 refine (Does.at1 (sinkBitD gs _ i.same (by simp only [List.length_append, List.length_nil]; omega)) T).mono ?_; clear T r1 l1 c1; rintro e w6 ⟨rfl, T⟩
 have r1 := T.row1; have l1 := row_lt r1; have c1 := row_cell r1
 go_wp2_with fail
 refine (Does.at1 (callPutD gs _ i.call N h.call (by omega) (by simp only [List.length_append, List.length_nil]; omega)) T).mono ?_; clear T r1 l1 c1; rintro e w7 ⟨rfl, T⟩
 have T : Sts W (fun _ => False) w7 [snkR gs (recB x i), rowR gi (NV i), rowR W.heap.size (IV x)] := by rw [HR.out]; simpa using T
 go_wp2_with fail
 refine (Does.at1 (sinkBytesD gs _) T).mono ?_; clear T; rintro e w8 ⟨rfl, T⟩
 go_wp2_with fail
 refine (Ans.at (seal_any (recB x i) (by omega)) T).mono ?_; clear T; rintro e w9 ⟨rfl, T⟩
 go_wp2
 go_ret
 exact ⟨rfl, T.below⟩
end Go.Proofs.YtomlilkobhkoiaaGreatDoor
