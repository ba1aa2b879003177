/- Layer 1, reading: numbers. -/
import Derived.Test.YtnjnafmonijlnaaOct
import Derived.Test.YtnjnafmonijlnaaCodec
import Derived.Laws.BitsAllLaws
namespace Go.Proofs.Ytnjnafmonijlnaa
open Go.RowKit
set_option linter.unusedVariables false
attribute [local go_sem] row_alloc row_drew row_drewN row_ext row_setCell row_setRow size_ext setRow_alloc setRow_drew
attribute [local go_sem high] cell_alloc frozen_alloc setCell_alloc cell_ext frozen_ext
/-- A number, at most so great. -/
def natS (s : Src) (most : Nat) : Nat × Src :=
  if s.dry = true then (0, dryS) else match dec most 0 0 s.left with
    | none => (0, dryS)
    | some (v, r) => (v, ⟨r, false⟩)
theorem rawS_one_nil {s : Src} (h : s.dry = true ∨ s.left = []) : rawS s 1 = ([], dryS) := by
  unfold rawS; rw [if_pos]; rcases h with h | h
  · exact .inl h
  · right; right; rw [h]; simp
theorem rawS_one {x : UInt8} {r : List UInt8} : rawS ⟨x :: r, false⟩ 1 = ([x], ⟨r, false⟩) := by
  unfold rawS; rw [if_neg (by simp; omega)]; rfl
theorem strL_one (x : UInt8) : ∀ h : 0 < (strL [x]).size, (strL [x])[0]'h = x := fun _ => rfl
theorem and_127 (x : UInt8) : bits .and .u8 (x.toNat : Int) 127 = ((x.toNat % 128 : Nat) : Int) := by
  have := u8_and_nat x.toNat 127 x.toNat_lt (by omega)
  rw [show ((127 : Nat) : Int) = 127 from rfl] at this
  rw [this, show (127 : Nat) = 2 ^ 7 - 1 from rfl, Nat.and_two_pow_sub_one_eq_mod]
theorem or_shift (un y q : Nat) (hu : un < 2 ^ q) (hy : y < 128) (hq : q ≤ 56) : bits .or .u64 (un : Int) ((y * 2 ^ q : Nat) : Int) = ((un + y * 2 ^ q : Nat) : Int) ∧ un + y * 2 ^ q < 9223372036854775808 := by
  have h2 : 2 ^ q ≤ 2 ^ 56 := Nat.pow_le_pow_right (by omega) hq
  have h3 : y * 2 ^ q ≤ 127 * 2 ^ q := Nat.mul_le_mul_right _ (by omega)
  have h4 : un + y * 2 ^ q < 9223372036854775808 := by omega
  refine ⟨?_, h4⟩
  rw [u64_or_nat _ _ (by omega) (by omega)]
  congr 1
  rw [Nat.or_comm, Nat.mul_comm, Nat.add_comm, Nat.two_pow_add_eq_or_of_lt hu]
theorem wrap_shift (y q : Nat) (hy : y < 128) (hq : q ≤ 56) : IntKind.u64.wrap ((y : Int) * 2 ^ q) = ((y * 2 ^ q : Nat) : Int) := by
  have h2 : 2 ^ q ≤ 2 ^ 56 := Nat.pow_le_pow_right (by omega) hq
  have h3 : y * 2 ^ q ≤ 127 * 2 ^ q := Nat.mul_le_mul_right _ (by omega)
  have e : (y : Int) * 2 ^ q = ((y * 2 ^ q : Nat) : Int) := by rw [Int.natCast_mul, Int.natCast_pow]; rfl
  rw [e, IntKind.wrap_u64]; omega
section
variable {W : World} {g : Nat} {s : Src}
theorem raw_none (h : row? W g = some (SV s)) (hs : s.dry = true ∨ s.left = []) :
    Calls Try.prog 55 #[.pointer (some ⟨g, 0, none⟩), .int .i64 1] W fun e w' => e = .returned (.string ⟨#[]⟩) ∧ row? w' g = some (SV dryS) ∧ Touch W w' g none ∧ w'.heap.size = W.heap.size := by
  have := raw_any h 1 (by omega)
  rw [rawS_one_nil hs] at this
  exact this
theorem raw_one {x : UInt8} {r : List UInt8} (h : row? W g = some (SV ⟨x :: r, false⟩)) :
    Calls Try.prog 55 #[.pointer (some ⟨g, 0, none⟩), .int .i64 1] W fun e w' => e = .returned (.string (strL [x])) ∧ row? w' g = some (SV ⟨r, false⟩) ∧ Touch W w' g none ∧ w'.heap.size = W.heap.size := by
  have := raw_any h 1 (by omega)
  rw [rawS_one] at this
  exact this
set_option maxRecDepth 4000 in
set_option maxHeartbeats 1000000 in
theorem nat_any (h : row? W g = some (SV s)) (most : Nat) (hm : most ≤ 1099511627776) :
    Calls Try.prog 47 #[.pointer (some ⟨g, 0, none⟩), .int .i64 most] W fun e w' => e = .returned (.int .i64 (natS s most).1) ∧ row? w' g = some (SV (natS s most).2) ∧ Touch W w' g none ∧ w'.heap.size = W.heap.size := by
  by_cases hd : s.dry = true
  · have hn : natS s most = (0, dryS) := by unfold natS; rw [if_pos hd]
    rw [hn]
    go_enter Try.func47, Try.ntmps47
    go_wp2
    go_loopw [5, 6] (fun u sh wr => wr = W ∧ u = .int .u64 0 ∧ sh = .int .i64 0) (fun _ _ _ => 0)
    case atStart => exact ⟨rfl, rfl, rfl⟩
    case round =>
      obtain ⟨rfl, rfl, rfl⟩ := hrel
      go_wp2_with fail
      refine (raw_none h (.inl hd)).mono ?_; rintro e w1 ⟨rfl, hr, hT, hz⟩
      go_wp2_with fail
      refine (stop_any hr).mono ?_; rintro e w2 ⟨rfl, hr2, hT2, hz2⟩
      go_wp2
      go_ret
      exact ⟨rfl, hr2, hT.trans (Fresh.refl _ _) hT2, hz2.trans hz⟩
  · have hd' : s.dry = false := by simpa using hd
    obtain ⟨left, dry⟩ := s
    obtain rfl : dry = false := hd'
    go_enter Try.func47, Try.ntmps47
    go_wp2
    go_loopw [5, 6] (fun u sh wr => ∃ (i q un : Nat) (cur : List UInt8), q = 7 * i ∧ i ≤ 9 ∧ sh = .int .i64 (q : Int) ∧ u = .int .u64 un ∧ row? wr g = some (SV ⟨cur, false⟩) ∧ Touch W wr g none ∧ wr.heap.size = W.heap.size ∧ un < 128 ^ i ∧ dec most i un cur = dec most 0 0 left) (fun _ sh _ => 70 - (intOf sh).toNat)
    case atStart => exact ⟨0, 0, 0, left, rfl, by omega, rfl, rfl, h, Touch.refl _ _ _, rfl, by simp, rfl⟩
    case round =>
      obtain ⟨i, q, un, cur, hq, hi, rfl, rfl, hrow, hT, hz, hun, hdec⟩ := hrel
      have Hq := Lib.hid hq; clear hq
      have Hdec := Lib.hid hdec; clear hdec
      have Hun := Lib.hid hun; clear hun
      match cur, hrow, Hdec with
      | [], hrow, Hdec =>
        have hn : natS ⟨left, false⟩ most = (0, dryS) := by
          unfold natS; rw [if_neg hd, ← Hdec.out]; rfl
        go_wp2_with fail
        refine (raw_none hrow (.inr rfl)).mono ?_; rintro e w1 ⟨rfl, hr, hT1, hz1⟩
        go_wp2_with fail
        refine (stop_any hr).mono ?_; rintro e w2 ⟨rfl, hr2, hT2, hz2⟩
        go_wp2
        go_ret
        rw [hn]
        exact ⟨rfl, hr2, (hT.trans (Fresh.refl _ _) hT1).trans (Fresh.refl _ _) hT2, (hz2.trans hz1).trans hz⟩
      | x :: rest, hrow, Hdec =>
        go_wp2_with fail
        refine (raw_one hrow).mono ?_; rintro e w1 ⟨rfl, hr, hT1, hz1⟩
        have hx1 := strL_one x
        have hx2 : (strL [x]).size = 1 := rfl
        have hx3 : ((strL [x]).toList == []) = false := by
          rw [show (strL [x]).toList = [x] from ByteArray.toList_mk [x]]; rfl
        generalize strL [x] = B at *
        by_cases h8 : 8 < i
        · have hn : natS ⟨left, false⟩ most = (0, dryS) := by
            unfold natS; rw [if_neg hd, ← Hdec.out]; simp [dec, h8]
          have h8' : (56 : Int) < (q : Int) := by have := Hq.out; omega
          clear h8
          go_wp2_with fail
          refine (stop_any hr).mono ?_; rintro e w2 ⟨rfl, hr2, hT2, hz2⟩
          go_wp2
          go_ret
          rw [hn]
          exact ⟨rfl, hr2, (hT.trans (Fresh.refl _ _) hT1).trans (Fresh.refl _ _) hT2, (hz2.trans hz1).trans hz⟩
        · have h8' : (q : Int) ≤ (56 : Int) := by have := Hq.out; omega
          have Hh8 := Lib.hid h8; clear h8
          have hqe : 2 ^ q = 128 ^ i := by rw [Hq.out, Nat.pow_mul]
          have hun2 : un < 2 ^ q := by rw [hqe]; exact Hun.out
          have hA := and_127 x
          have hy : x.toNat % 128 < 128 := by omega
          have hq56 : q ≤ 56 := by omega
          have hW1 : IntKind.u64.wrap ((x.toNat % 128 : Nat) : Int) = ((x.toNat % 128 : Nat) : Int) := IntWalk.u64_in _ (by omega)
          have hW2 := wrap_shift (x.toNat % 128) q hy hq56
          obtain ⟨hO, hv63⟩ := or_shift un (x.toNat % 128) q hun2 hy hq56
          obtain ⟨v, hv⟩ : ∃ v, v = un + x.toNat % 128 * 2 ^ q := ⟨_, rfl⟩
          rw [← hv] at hO hv63
          rw [hqe] at hv
          have Hv := Lib.hid hv; clear hv
          have hC : wrap64 (v : Int) = (v : Int) := by rw [← IntWalk.i64_left]; exact IntWalk.i64_in _ (by omega)
          have hxb := x.toNat_lt
          obtain ⟨z, hz9⟩ : ∃ z, z = x.toNat % 128 := ⟨_, rfl⟩
          rw [← hz9] at hA hW1 hW2 hO
          have Hz9 := Lib.hid hz9; clear hz9
          generalize hpw : z * 2 ^ q = pw at *
          clear hpw hun2 hqe hy
          clear hxb
          by_cases hx : x.toNat < 128
          · have hxi : (x.toNat : Int) < 128 := by omega
            have hz2 : z = x.toNat := by have := Hz9.out; omega
            by_cases hbad : x.toNat = 0 ∧ 0 < i ∨ most < v
            · have hn : natS ⟨left, false⟩ most = (0, dryS) := by
                unfold natS; rw [if_neg hd, ← Hdec.out]
                simp only [dec]
                rw [if_neg Hh8.out, if_pos hx, if_pos (by rw [← hz2, Hz9.out, ← Hv.out]; rw [← hz2, Hz9.out] at hbad; exact hbad)]
              have Hn := Lib.hid hn; clear hn
              have Hz2 := Lib.hid hz2; clear hz2
              have Hb := Lib.hid hbad; clear hbad
              have fin : ∀ {e w2}, (e = Ending.returned (.tuple #[]) ∧ row? w2 g = some (SV dryS) ∧ Touch w1 w2 g none ∧ w2.heap.size = w1.heap.size) → row? w2 g = some (SV (natS ⟨left, false⟩ most).2) ∧ Touch W w2 g none ∧ w2.heap.size = W.heap.size := by
                rintro e w2 ⟨-, hr2, hT2, hz2⟩
                rw [Hn.out]
                exact ⟨hr2, (hT.trans (Fresh.refl _ _) hT1).trans (Fresh.refl _ _) hT2, (hz2.trans hz1).trans hz⟩
              go_wp2_with fail
              all_goals first
                | (refine (stop_any hr).mono ?_; rintro e w2 ⟨rfl, hh⟩
                   go_wp2
                   go_ret
                   exact ⟨by rw [Hn.out]; rfl, fin ⟨rfl, hh⟩⟩)
                | (exfalso; have := Hb.out; have := Hq.out; omega)
            · have hn : natS ⟨left, false⟩ most = (v, ⟨rest, false⟩) := by
                unfold natS; rw [if_neg hd, ← Hdec.out]
                simp only [dec]
                rw [if_neg Hh8.out, if_pos hx, if_neg (by rw [← hz2, Hz9.out, ← Hv.out]; rw [← hz2, Hz9.out] at hbad; exact hbad)]
                rw [show un + x.toNat * 128 ^ i = v by rw [← hz2, Hz9.out, ← Hv.out]]
              have Hn := Lib.hid hn; clear hn
              have Hz2 := Lib.hid hz2; clear hz2
              have Hb := Lib.hid hbad; clear hbad
              have Hr := Lib.hid hr
              clear h hrow
              go_wp2_with fail
              all_goals first
                | (go_ret
                   rw [Hn.out]
                   exact ⟨rfl, Hr.out, hT.trans (Fresh.refl _ _) hT1, hz1.trans hz⟩)
                | (exfalso; have := Hb.out; have := Hq.out; omega)
          · have hxi : (128 : Int) ≤ (x.toNat : Int) := by omega
            have hrel2 : v < 128 ^ (i + 1) ∧ dec most (i + 1) v rest = dec most 0 0 left := by
              have hu := Hun.out
              have e1 := Hv.out
              constructor
              · rw [e1, Nat.pow_succ]
                have : x.toNat % 128 * 128 ^ i ≤ 127 * 128 ^ i := Nat.mul_le_mul_right _ (by omega)
                omega
              · rw [← Hdec.out]
                simp only [dec]
                rw [if_neg Hh8.out, if_neg hx, e1]
                have hxl := x.toNat_lt
                rw [show x.toNat % 128 = x.toNat - 128 by omega]
            have Hrel2 := Lib.hid hrel2; clear hrel2
            have Hr := Lib.hid hr; clear hr
            clear h hrow
            go_wp2
            go_roundw
            case rel => exact ⟨i + 1, q + 7, v, rest, by have := Hq.out; omega, by have := Hh8.out; omega, by go_num, rfl, Hr.out, hT.trans (Fresh.refl _ _) hT1, hz1.trans hz, Hrel2.out.1, Hrel2.out.2⟩
            case measure => simp [intOf]; omega
end
end Go.Proofs.Ytnjnafmonijlnaa
