/- Several texts in one. -/
import Derived.Test.YtomlilkobhkoiaaGreatDoorQ14
import Derived.Laws.BitsAllLaws
import Derived.Test.YtomlilkobhkoiaaGreatDoorQ5
import Derived.Test.YtomlilkobhkoiaaGreatDoorQ2
import Derived.Test.YtomlilkobhkoiaaGreatDoorQ6
import Derived.Test.YtomlilkobhkoiaaGreatDoorQ9
/- Layer 1, reading: numbers. -/
namespace Go.Proofs.YtomlilkobhkoiaaGreatDoor
open Go.RowKit
set_option linter.unusedVariables false
attribute [local go_sem] row_alloc row_drew row_drewN row_ext row_setCell row_setRow size_ext setRow_alloc setRow_drew
attribute [local go_sem high] cell_alloc frozen_alloc setCell_alloc cell_ext frozen_ext
/-- A number, at most so great. -/
def natS (s : Src) (most : Nat) : Nat × Src :=
  if s.dry = true then (0, dryS) else match dec most 0 0 s.left with
    | none => (0, dryS)
    | some (v, r) => (v, ⟨r, false⟩)
theorem rawS_one_nil {s : Src} (h : s.dry = true ∨ s.left = []) : rawS s 1 = ([], dryS) := by
  unfold rawS; rw [if_pos]; rcases h with h | h
  · exact .inl h
  · right; right; rw [h]; simp
theorem rawS_one {x : UInt8} {r : List UInt8} : rawS ⟨x :: r, false⟩ 1 = ([x], ⟨r, false⟩) := by
  unfold rawS; rw [if_neg (by simp; omega)]; rfl
theorem strL_one (x : UInt8) : ∀ h : 0 < (strL [x]).size, (strL [x])[0]'h = x := fun _ => rfl
theorem and_127 (x : UInt8) : bits .and .u8 (x.toNat : Int) 127 = ((x.toNat % 128 : Nat) : Int) := by
  have := u8_and_nat x.toNat 127 x.toNat_lt (by omega)
  rw [show ((127 : Nat) : Int) = 127 from rfl] at this
  rw [this, show (127 : Nat) = 2 ^ 7 - 1 from rfl, Nat.and_two_pow_sub_one_eq_mod]
theorem or_shift (un y q : Nat) (hu : un < 2 ^ q) (hy : y < 128) (hq : q ≤ 56) : bits .or .u64 (un : Int) ((y * 2 ^ q : Nat) : Int) = ((un + y * 2 ^ q : Nat) : Int) ∧ un + y * 2 ^ q < 9223372036854775808 := by
  have h2 : 2 ^ q ≤ 2 ^ 56 := Nat.pow_le_pow_right (by omega) hq
  have h3 : y * 2 ^ q ≤ 127 * 2 ^ q := Nat.mul_le_mul_right _ (by omega)
  have h4 : un + y * 2 ^ q < 9223372036854775808 := by omega
  refine ⟨?_, h4⟩
  rw [u64_or_nat _ _ (by omega) (by omega)]
  congr 1
  rw [Nat.or_comm, Nat.mul_comm, Nat.add_comm, Nat.two_pow_add_eq_or_of_lt hu]
theorem wrap_shift (y q : Nat) (hy : y < 128) (hq : q ≤ 56) : IntKind.u64.wrap ((y : Int) * 2 ^ q) = ((y * 2 ^ q : Nat) : Int) := by
  have h2 : 2 ^ q ≤ 2 ^ 56 := Nat.pow_le_pow_right (by omega) hq
  have h3 : y * 2 ^ q ≤ 127 * 2 ^ q := Nat.mul_le_mul_right _ (by omega)
  have e : (y : Int) * 2 ^ q = ((y * 2 ^ q : Nat) : Int) := by rw [Int.natCast_mul, Int.natCast_pow]; rfl
  rw [e, IntKind.wrap_u64]; omega
section
variable {W : World} {g : Nat} {s : Src}
theorem raw_none (h : row? W g = some (SV s)) (hs : s.dry = true ∨ s.left = []) :
    Calls Tryz.prog 162 #[.pointer (some ⟨g, 0, none⟩), .int .i64 1] W fun e w' => e = .returned (.string ⟨#[]⟩) ∧ row? w' g = some (SV dryS) ∧ Touch W w' g none ∧ w'.heap.size = W.heap.size := by
  have := raw_any h 1 (by omega)
  rw [rawS_one_nil hs] at this
  exact this
theorem raw_one {x : UInt8} {r : List UInt8} (h : row? W g = some (SV ⟨x :: r, false⟩)) :
    Calls Tryz.prog 162 #[.pointer (some ⟨g, 0, none⟩), .int .i64 1] W fun e w' => e = .returned (.string (strL [x])) ∧ row? w' g = some (SV ⟨r, false⟩) ∧ Touch W w' g none ∧ w'.heap.size = W.heap.size := by
  have := raw_any h 1 (by omega)
  rw [rawS_one] at this
  exact this
set_option maxRecDepth 4000 in
set_option maxHeartbeats 1000000 in
theorem nat_any (h : row? W g = some (SV s)) (most : Nat) (hm : most ≤ 1099511627776) :
    Calls Tryz.prog 103 #[.pointer (some ⟨g, 0, none⟩), .int .i64 most] W fun e w' => e = .returned (.int .i64 (natS s most).1) ∧ row? w' g = some (SV (natS s most).2) ∧ Touch W w' g none ∧ w'.heap.size = W.heap.size := by
  by_cases hd : s.dry = true
  · have hn : natS s most = (0, dryS) := by unfold natS; rw [if_pos hd]
    rw [hn]
    go_enter Tryz.func103, Tryz.ntmps103
    go_wp2
    go_loopw [5, 6] (fun u sh wr => wr = W ∧ u = .int .u64 0 ∧ sh = .int .i64 0) (fun _ _ _ => 0)
    case atStart => exact ⟨rfl, rfl, rfl⟩
    case round =>
      obtain ⟨rfl, rfl, rfl⟩ := hrel
      go_wp2_with fail
      refine (raw_none h (.inl hd)).mono ?_; rintro e w1 ⟨rfl, hr, hT, hz⟩
      go_wp2_with fail
      refine (stop_any hr).mono ?_; rintro e w2 ⟨rfl, hr2, hT2, hz2⟩
      go_wp2
      go_ret
      exact ⟨rfl, hr2, hT.trans (Fresh.refl _ _) hT2, hz2.trans hz⟩
  · have hd' : s.dry = false := by simpa using hd
    obtain ⟨left, dry⟩ := s
    obtain rfl : dry = false := hd'
    go_enter Tryz.func103, Tryz.ntmps103
    go_wp2
    go_loopw [5, 6] (fun u sh wr => ∃ (i q un : Nat) (cur : List UInt8), q = 7 * i ∧ i ≤ 9 ∧ sh = .int .i64 (q : Int) ∧ u = .int .u64 un ∧ row? wr g = some (SV ⟨cur, false⟩) ∧ Touch W wr g none ∧ wr.heap.size = W.heap.size ∧ un < 128 ^ i ∧ dec most i un cur = dec most 0 0 left) (fun _ sh _ => 70 - (intOf sh).toNat)
    case atStart => exact ⟨0, 0, 0, left, rfl, by omega, rfl, rfl, h, Touch.refl _ _ _, rfl, by simp, rfl⟩
    case round =>
      obtain ⟨i, q, un, cur, hq, hi, rfl, rfl, hrow, hT, hz, hun, hdec⟩ := hrel
      have Hq := Lib.hid hq; clear hq
      have Hdec := Lib.hid hdec; clear hdec
      have Hun := Lib.hid hun; clear hun
      match cur, hrow, Hdec with
      | [], hrow, Hdec =>
        have hn : natS ⟨left, false⟩ most = (0, dryS) := by
          unfold natS; rw [if_neg hd, ← Hdec.out]; rfl
        go_wp2_with fail
        refine (raw_none hrow (.inr rfl)).mono ?_; rintro e w1 ⟨rfl, hr, hT1, hz1⟩
        go_wp2_with fail
        refine (stop_any hr).mono ?_; rintro e w2 ⟨rfl, hr2, hT2, hz2⟩
        go_wp2
        go_ret
        rw [hn]
        exact ⟨rfl, hr2, (hT.trans (Fresh.refl _ _) hT1).trans (Fresh.refl _ _) hT2, (hz2.trans hz1).trans hz⟩
      | x :: rest, hrow, Hdec =>
        go_wp2_with fail
        refine (raw_one hrow).mono ?_; rintro e w1 ⟨rfl, hr, hT1, hz1⟩
        have hx1 := strL_one x
        have hx2 : (strL [x]).size = 1 := rfl
        have hx3 : ((strL [x]).toList == []) = false := by
          rw [show (strL [x]).toList = [x] from ByteArray.toList_mk [x]]; rfl
        generalize strL [x] = B at *
        by_cases h8 : 8 < i
        · have hn : natS ⟨left, false⟩ most = (0, dryS) := by
            unfold natS; rw [if_neg hd, ← Hdec.out]; simp [dec, h8]
          have h8' : (56 : Int) < (q : Int) := by have := Hq.out; omega
          clear h8
          go_wp2_with fail
          refine (stop_any hr).mono ?_; rintro e w2 ⟨rfl, hr2, hT2, hz2⟩
          go_wp2
          go_ret
          rw [hn]
          exact ⟨rfl, hr2, (hT.trans (Fresh.refl _ _) hT1).trans (Fresh.refl _ _) hT2, (hz2.trans hz1).trans hz⟩
        · have h8' : (q : Int) ≤ (56 : Int) := by have := Hq.out; omega
          have Hh8 := Lib.hid h8; clear h8
          have hqe : 2 ^ q = 128 ^ i := by rw [Hq.out, Nat.pow_mul]
          have hun2 : un < 2 ^ q := by rw [hqe]; exact Hun.out
          have hA := and_127 x
          have hy : x.toNat % 128 < 128 := by omega
          have hq56 : q ≤ 56 := by omega
          have hW1 : IntKind.u64.wrap ((x.toNat % 128 : Nat) : Int) = ((x.toNat % 128 : Nat) : Int) := IntWalk.u64_in _ (by omega)
          have hW2 := wrap_shift (x.toNat % 128) q hy hq56
          obtain ⟨hO, hv63⟩ := or_shift un (x.toNat % 128) q hun2 hy hq56
          obtain ⟨v, hv⟩ : ∃ v, v = un + x.toNat % 128 * 2 ^ q := ⟨_, rfl⟩
          rw [← hv] at hO hv63
          rw [hqe] at hv
          have Hv := Lib.hid hv; clear hv
          have hC : wrap64 (v : Int) = (v : Int) := by rw [← IntWalk.i64_left]; exact IntWalk.i64_in _ (by omega)
          have hxb := x.toNat_lt
          obtain ⟨z, hz9⟩ : ∃ z, z = x.toNat % 128 := ⟨_, rfl⟩
          rw [← hz9] at hA hW1 hW2 hO
          have Hz9 := Lib.hid hz9; clear hz9
          generalize hpw : z * 2 ^ q = pw at *
          clear hpw hun2 hqe hy
          clear hxb
          by_cases hx : x.toNat < 128
          · have hxi : (x.toNat : Int) < 128 := by omega
            have hz2 : z = x.toNat := by have := Hz9.out; omega
            by_cases hbad : x.toNat = 0 ∧ 0 < i ∨ most < v
            · have hn : natS ⟨left, false⟩ most = (0, dryS) := by
                unfold natS; rw [if_neg hd, ← Hdec.out]
                simp only [dec]
                rw [if_neg Hh8.out, if_pos hx, if_pos (by rw [← hz2, Hz9.out, ← Hv.out]; rw [← hz2, Hz9.out] at hbad; exact hbad)]
              have Hn := Lib.hid hn; clear hn
              have Hz2 := Lib.hid hz2; clear hz2
              have Hb := Lib.hid hbad; clear hbad
              have fin : ∀ {e w2}, (e = Ending.returned (.tuple #[]) ∧ row? w2 g = some (SV dryS) ∧ Touch w1 w2 g none ∧ w2.heap.size = w1.heap.size) → row? w2 g = some (SV (natS ⟨left, false⟩ most).2) ∧ Touch W w2 g none ∧ w2.heap.size = W.heap.size := by
                rintro e w2 ⟨-, hr2, hT2, hz2⟩
                rw [Hn.out]
                exact ⟨hr2, (hT.trans (Fresh.refl _ _) hT1).trans (Fresh.refl _ _) hT2, (hz2.trans hz1).trans hz⟩
              go_wp2_with fail
              all_goals first
                | (refine (stop_any hr).mono ?_; rintro e w2 ⟨rfl, hh⟩
                   go_wp2
                   go_ret
                   exact ⟨by rw [Hn.out]; rfl, fin ⟨rfl, hh⟩⟩)
                | (exfalso; have := Hb.out; have := Hq.out; omega)
            · have hn : natS ⟨left, false⟩ most = (v, ⟨rest, false⟩) := by
                unfold natS; rw [if_neg hd, ← Hdec.out]
                simp only [dec]
                rw [if_neg Hh8.out, if_pos hx, if_neg (by rw [← hz2, Hz9.out, ← Hv.out]; rw [← hz2, Hz9.out] at hbad; exact hbad)]
                rw [show un + x.toNat * 128 ^ i = v by rw [← hz2, Hz9.out, ← Hv.out]]
              have Hn := Lib.hid hn; clear hn
              have Hz2 := Lib.hid hz2; clear hz2
              have Hb := Lib.hid hbad; clear hbad
              have Hr := Lib.hid hr
              clear h hrow
              go_wp2_with fail
              all_goals first
                | (go_ret
                   rw [Hn.out]
                   exact ⟨rfl, Hr.out, hT.trans (Fresh.refl _ _) hT1, hz1.trans hz⟩)
                | (exfalso; have := Hb.out; have := Hq.out; omega)
          · have hxi : (128 : Int) ≤ (x.toNat : Int) := by omega
            have hrel2 : v < 128 ^ (i + 1) ∧ dec most (i + 1) v rest = dec most 0 0 left := by
              have hu := Hun.out
              have e1 := Hv.out
              constructor
              · rw [e1, Nat.pow_succ]
                have : x.toNat % 128 * 128 ^ i ≤ 127 * 128 ^ i := Nat.mul_le_mul_right _ (by omega)
                omega
              · rw [← Hdec.out]
                simp only [dec]
                rw [if_neg Hh8.out, if_neg hx, e1]
                have hxl := x.toNat_lt
                rw [show x.toNat % 128 = x.toNat - 128 by omega]
            have Hrel2 := Lib.hid hrel2; clear hrel2
            have Hr := Lib.hid hr; clear hr
            clear h hrow
            go_wp2
            go_roundw
            case rel => exact ⟨i + 1, q + 7, v, rest, by have := Hq.out; omega, by have := Hh8.out; omega, by go_num, rfl, Hr.out, hT.trans (Fresh.refl _ _) hT1, hz1.trans hz, Hrel2.out.1, Hrel2.out.2⟩
            case measure => simp [intOf]; omega
end
end Go.Proofs.YtomlilkobhkoiaaGreatDoor
/- Layer 1, reading: texts; whether something was missing; how much is left. -/
namespace Go.Proofs.YtomlilkobhkoiaaGreatDoor
open Go.RowKit
set_option linter.unusedVariables false
attribute [local go_sem] row_alloc row_drew row_drewN row_ext row_setCell row_setRow size_ext setRow_alloc setRow_drew
attribute [local go_sem high] cell_alloc frozen_alloc setCell_alloc cell_ext frozen_ext
/-- A text of at most so many bytes. -/
def textS (s : Src) (most : Nat) : List UInt8 × Src := rawS (natS s most).2 (natS s most).1
theorem natS_le (s : Src) (most : Nat) : (natS s most).1 ≤ most := by
  unfold natS; split
  · exact Nat.zero_le _
  · split
    · exact Nat.zero_le _
    · rename_i v r h
      obtain ⟨n, _, hm, _⟩ := dec_some most _ _ _ _ _ h
      exact hm
section
variable {W : World} {g : Nat} {s : Src}
set_option maxHeartbeats 1000000 in
theorem text_any (h : row? W g = some (SV s)) (most : Nat) (hm : most ≤ 1099511627776) :
    Calls Tryz.prog 198 #[.pointer (some ⟨g, 0, none⟩), .int .i64 most] W fun e w' => e = .returned (.string (strL (textS s most).1)) ∧ row? w' g = some (SV (textS s most).2) ∧ Touch W w' g none ∧ w'.heap.size = W.heap.size := by
  go_enter Tryz.func198, Tryz.ntmps198
  go_wp2_with fail
  refine (nat_any h most hm).mono ?_; rintro e w1 ⟨rfl, h1, T1, z1⟩
  have hl := natS_le s most
  go_wp2_with fail
  refine (raw_any h1 _ (by omega)).mono ?_; rintro e w2 ⟨rfl, h2, T2, z2⟩
  have H2 := Lib.hid h2; clear h2 h1 h
  go_wp2
  go_ret
  exact ⟨rfl, H2.out, T1.trans (Fresh.refl _ _) T2, z2.trans z1⟩
set_option maxHeartbeats 1000000 in
theorem dry_any (h : row? W g = some (SV s)) : Calls Tryz.prog 163 #[.pointer (some ⟨g, 0, none⟩)] W fun e w' => e = .returned (.bool s.dry) ∧ W = w' := by
  have hc := row_cell h
  unfold SV at hc
  clear h
  go_enter Tryz.func163, Tryz.ntmps163
  go_wp2
  go_ret
  exact ⟨rfl, rfl⟩
set_option maxHeartbeats 1000000 in
theorem left_any (h : row? W g = some (SV s)) : Calls Tryz.prog 164 #[.pointer (some ⟨g, 0, none⟩)] W fun e w' => e = .returned (.int .i64 s.left.length) ∧ W = w' := by
  have hc := row_cell h
  have hz := strL_size s.left
  unfold SV at hc
  clear h
  go_enter Tryz.func164, Tryz.ntmps164
  go_wp2
  go_ret
  exact ⟨rfl, rfl⟩
end
end Go.Proofs.YtomlilkobhkoiaaGreatDoor
/- Layer 4: a deed got from a source. -/
namespace Go.Proofs.YtomlilkobhkoiaaGreatDoor
open Go.RowKit
set_option linter.unusedVariables false
attribute [local go_sem] row_alloc row_drew row_drewN row_ext row_setCell row_setRow size_ext setRow_alloc setRow_drew loadOf storeOf piece_lit loadVal_at storeVal_at allOne_lit EV_size EV_one EV_piece EV_0 EV_1 EV_2 EV_3 EV_4 EV_5
attribute [local go_sem high] cell_alloc frozen_alloc setCell_alloc cell_ext frozen_ext
attribute [local go_sem ↓] load_deed0 store_deed0
attribute [local go_sem] load_deed store_deed
attribute [local go_sem high] run_eql_deed
attribute [local go_sem] zero_deed
/-- A source in memory. -/
abbrev srcR (g : Nat) (s : Src) : Res := rowR g (SV s)
section
variable (g : Nat) (s : Src)
theorem stopD : Does Tryz.prog 165 #[.pointer (some ⟨g, 0, none⟩)] [srcR g s] (.tuple #[]) [srcR g dryS] := fun W G h =>
  (stop_any (sat_row_get h)).mono fun e W' ⟨he, hr, hT, _⟩ => ⟨he, of_touch h hr hT⟩
theorem rawD (n : Int) (hn : -9223372036854775808 ≤ n ∧ n ≤ 9223372036854775807) : Does Tryz.prog 162 #[.pointer (some ⟨g, 0, none⟩), .int .i64 n] [srcR g s] (.string (strL (rawS s n).1)) [srcR g (rawS s n).2] := fun W G h =>
  (raw_any (sat_row_get h) n hn).mono fun e W' ⟨he, hr, hT, _⟩ => ⟨he, of_touch h hr hT⟩
theorem natD (most : Nat) (hm : most ≤ 1099511627776) : Does Tryz.prog 103 #[.pointer (some ⟨g, 0, none⟩), .int .i64 most] [srcR g s] (.int .i64 (natS s most).1) [srcR g (natS s most).2] := fun W G h =>
  (nat_any (sat_row_get h) most hm).mono fun e W' ⟨he, hr, hT, _⟩ => ⟨he, of_touch h hr hT⟩
theorem textD (most : Nat) (hm : most ≤ 1099511627776) : Does Tryz.prog 198 #[.pointer (some ⟨g, 0, none⟩), .int .i64 most] [srcR g s] (.string (strL (textS s most).1)) [srcR g (textS s most).2] := fun W G h =>
  (text_any (sat_row_get h) most hm).mono fun e W' ⟨he, hr, hT, _⟩ => ⟨he, of_touch h hr hT⟩
theorem dryD : Does Tryz.prog 163 #[.pointer (some ⟨g, 0, none⟩)] [srcR g s] (.bool s.dry) [srcR g s] := fun W G h =>
  (dry_any (sat_row_get h)).mono fun e W' ⟨he, hw⟩ => ⟨he, hw ▸ Sts.start h⟩
theorem leftD : Does Tryz.prog 164 #[.pointer (some ⟨g, 0, none⟩)] [srcR g s] (.int .i64 s.left.length) [srcR g s] := fun W G h =>
  (left_any (sat_row_get h)).mono fun e W' ⟨he, hw⟩ => ⟨he, hw ▸ Sts.start h⟩
end
def rawDeed (s : Src) : Deed × Src :=
  let k := natS s 5
  let key := textS k.2 16
  let val := textS key.2 32
  let ver := natS val.2 1099511627776
  let ses := natS ver.2 1099511627776
  let num := natS ses.2 1099511627776
  (⟨k.1, strL key.1, strL val.1, ver.1, ses.1, num.1⟩, num.2)
def getD (s : Src) : Deed × Src := if (rawDeed s).2.dry = true ∨ goodB (rawDeed s).1 = false then (noDeed, dryS) else rawDeed s
set_option maxHeartbeats 2000000 in
theorem getR (g : Nat) (s : Src) : Does Tryz.prog 166 #[.pointer (some ⟨g, 0, none⟩)] [srcR g s] (.agg (EV (getD s).1)) [srcR g (getD s).2] := by
  intro W G h
  have T := (Sts.start h).new (EV noDeed) 31
  have hlt := row_lt (sat_row_get h)
  go_enter Tryz.func166, Tryz.ntmps166
  go_wp2_with fail
  refine (Does.at1 (natD g s 5 (by omega)) T.swap).mono ?_; clear T; rintro e w1 ⟨rfl, T⟩
  go_wp2_with fail
  refine (Does.at1 (textD g _ 16 (by omega)) T).mono ?_; clear T; rintro e w2 ⟨rfl, T⟩
  go_wp2_with fail
  refine (Does.at1 (textD g _ 32 (by omega)) T).mono ?_; clear T; rintro e w3 ⟨rfl, T⟩
  go_wp2_with fail
  refine (Does.at1 (natD g _ 1099511627776 (by omega)) T).mono ?_; clear T; rintro e w4 ⟨rfl, T⟩
  go_wp2_with fail
  refine (Does.at1 (natD g _ 1099511627776 (by omega)) T).mono ?_; clear T; rintro e w5 ⟨rfl, T⟩
  go_wp2_with fail
  refine (Does.at1 (natD g _ 1099511627776 (by omega)) T).mono ?_; clear T; rintro e w6 ⟨rfl, T⟩
  have hrd : rawDeed s = (⟨(natS s 5).1, strL (textS (natS s 5).2 16).1, strL (textS (textS (natS s 5).2 16).2 32).1, (natS (textS (textS (natS s 5).2 16).2 32).2 1099511627776).1, (natS (natS (textS (textS (natS s 5).2 16).2 32).2 1099511627776).2 1099511627776).1, (natS (natS (natS (textS (textS (natS s 5).2 16).2 32).2 1099511627776).2 1099511627776).2 1099511627776).1⟩, (natS (natS (natS (textS (textS (natS s 5).2 16).2 32).2 1099511627776).2 1099511627776).2 1099511627776).2) := rfl
  generalize natS (natS (natS (textS (textS (natS s 5).2 16).2 32).2 1099511627776).2 1099511627776).2 1099511627776 = n6 at *
  generalize (natS (natS (textS (textS (natS s 5).2 16).2 32).2 1099511627776).2 1099511627776).1 = a5 at *
  generalize (natS (textS (textS (natS s 5).2 16).2 32).2 1099511627776).1 = a4 at *
  generalize strL (textS (textS (natS s 5).2 16).2 32).1 = a3 at *
  generalize strL (textS (natS s 5).2 16).1 = a2 at *
  generalize (natS s 5).1 = a1 at *
  obtain ⟨D, hD⟩ : ∃ D : Deed, D = ⟨a1, a2, a3, a4, a5, n6.1⟩ := ⟨_, rfl⟩
  have hEV : ((((((EV noDeed).setIfInBounds 0 (.int .i64 a1)).setIfInBounds 1 (.string a2)).setIfInBounds 2 (.string a3)).setIfInBounds 3 (.int .i64 a4)).setIfInBounds 4 (.int .i64 a5)).setIfInBounds 5 (.int .i64 n6.1) = EV D := by rw [hD]; rfl
  rw [← hD] at hrd
  have Hrd := Lib.hid hrd; clear hrd
  clear hD
  have hne : ¬ EV noDeed = #[] := fun e => by have := congrArg Array.size e; rw [EV_size] at this; simp at this
  have hl2 := row_lt T.row1
  have hr2 := T.row1
  clear h hlt
  have HH := Lib.hid hr2
  go_wp2_with fail
  have T := T.new (EV D) 31
  refine (Does.at1 (dryD g n6.2) T.swap).mono ?_; rintro e w8 ⟨rfl, T⟩
  clear hne HH
  have hr8 := T.row2
  have hs8 := row_lt hr8
  have hr1 := T.row1
  have hs1 := row_lt hr1
  have hz : w6.heap.size + 1 ≤ w8.heap.size := by have := T.size; omega
  cases hdr : n6.2.dry
  · go_wp2_with fail
    refine (Ans.at (good4_any D) T).mono ?_; rintro e w9 ⟨rfl, T⟩
    cases hgd : goodB D
    · have hget : getD s = (noDeed, dryS) := by unfold getD; rw [Hrd.out, if_pos (.inr hgd)]
      go_wp2_with fail
      refine (Does.at1 (stopD g n6.2) T).mono ?_; rintro e w10 ⟨rfl, T⟩
      have hr8 := T.row2
      have hs8 := row_lt hr8
      go_wp2
      exact ret_row (EV noDeed) Tryz.underlying31 rfl (by kernel_rfl) rfl rfl rfl (EV_size _) (row_setRow_same _ _ _ _ hr8) ⟨by rw [hget], by rw [hget]; exact (T.rot2.setRow (EV noDeed)).drop.swap.drop⟩
    · have hget : getD s = rawDeed s := by unfold getD; rw [Hrd.out, if_neg (by simp [hdr, hgd])]
      have hr8 := T.row2
      have hs8 := row_lt hr8
      have hr1 := T.row1
      go_wp2
      exact ret_row (EV D) Tryz.underlying31 rfl (by kernel_rfl) rfl rfl rfl (EV_size _) (row_setRow_same _ _ _ _ hr8) ⟨by rw [hget, Hrd.out], by rw [hget, Hrd.out]; exact (T.rot2.setRow (EV D)).drop.swap.drop⟩
  · have hget : getD s = (noDeed, dryS) := by unfold getD; rw [Hrd.out, if_pos (.inl hdr)]
    go_wp2_with fail
    refine (Does.at1 (stopD g n6.2) T).mono ?_; rintro e w10 ⟨rfl, T⟩
    have hr8 := T.row2
    have hs8 := row_lt hr8
    go_wp2
    exact ret_row (EV noDeed) Tryz.underlying31 rfl (by kernel_rfl) rfl rfl rfl (EV_size _) (row_setRow_same _ _ _ _ hr8) ⟨by rw [hget], by rw [hget]; exact (T.rot2.setRow (EV noDeed)).drop.swap.drop⟩
theorem strL_list (t : List UInt8) : (strL t).data.toList = t := rfl
theorem fromS {w W : World} {F : Nat → Prop} {L : List Res} (T : Sts w F W L) (l : List UInt8) : Calls Tryz.prog 100 #[.string (strL l)] W fun e W' => e = .returned (.pointer (some ⟨W.heap.size, 0, none⟩)) ∧ Sts w F W' (srcR W.heap.size ⟨l, false⟩ :: L) :=
  (from_any W l).mono fun e W' ⟨he, hr, hb, _⟩ => ⟨he, T.found hb (Nat.le_refl _) hr⟩
end Go.Proofs.YtomlilkobhkoiaaGreatDoor
/- Layer 4: a deed's bytes. -/
namespace Go.Proofs.YtomlilkobhkoiaaGreatDoor
open Go.RowKit
set_option linter.unusedVariables false
attribute [local go_sem] row_alloc row_drew row_drewN row_ext row_setCell row_setRow size_ext setRow_alloc setRow_drew loadOf storeOf piece_lit loadVal_at storeVal_at allOne_lit EV_size EV_one EV_piece EV_0 EV_1 EV_2 EV_3 EV_4 EV_5
attribute [local go_sem high] cell_alloc frozen_alloc setCell_alloc cell_ext frozen_ext
attribute [local go_sem ↓] load_deed0 store_deed0
attribute [local go_sem] load_deed store_deed
def txt (t : ByteArray) : List UInt8 := enc t.size ++ t.data.toList
def deedB (d : Deed) : List UInt8 := enc d.kind.toNat ++ txt d.key ++ txt d.val ++ encs [d.ver, d.ses, d.num]
structure DeedIn (d : Deed) (N : Nat) : Prop where
  kind : -9223372036854775808 ≤ d.kind ∧ d.kind < 9223372036854775808
  ver : -9223372036854775808 ≤ d.ver ∧ d.ver < 9223372036854775808
  ses : -9223372036854775808 ≤ d.ses ∧ d.ses < 9223372036854775808
  num : -9223372036854775808 ≤ d.num ∧ d.num < 9223372036854775808
  txt : d.key.size + d.val.size ≤ N
theorem deedB_len {d : Deed} {N : Nat} (h : DeedIn d N) (hN : N ≤ 1000000) : (deedB d).length ≤ N + 54 := by
  have h1 := enc_len9 (n := d.kind.toNat) (by have := h.kind; omega)
  have h2 := enc_len9 (n := d.key.size) (by have := h.txt; omega)
  have h3 := enc_len9 (n := d.val.size) (by have := h.txt; omega)
  have h4 := encs_len (ns := [d.ver, d.ses, d.num]) (by simp; exact ⟨h.ver.2, h.ses.2, h.num.2⟩)
  have h5 := h.txt
  have h6 : d.key.data.toList.length = d.key.size := rfl
  have h7 : d.val.data.toList.length = d.val.size := rfl
  simp only [deedB, Go.Proofs.YtomlilkobhkoiaaGreatDoor.txt, List.length_append, List.length_cons, List.length_nil] at *
  omega
set_option maxHeartbeats 1000000 in
theorem deedPutD (g : Nat) (l : List UInt8) (d : Deed) (N : Nat) (h : DeedIn d N) (hN : N ≤ 1000000) (hb : l.length ≤ 1000000) :
    Does Tryz.prog 181 #[.pointer (some ⟨g, 0, none⟩), .agg (EV d)] [snkR g l] (.tuple #[]) [snkR g (l ++ deedB d)] := by
  intro W G hS
  have T := ((Sts.start hS).new (EV d) 31).new #[.int .i64 d.kind] 3
  clear hS
  have h1 := enc_len9 (n := d.kind.toNat) (by have := h.kind; omega)
  have h2 := enc_len9 (n := d.key.size) (by have := h.txt; omega)
  have h3 := enc_len9 (n := d.val.size) (by have := h.txt; omega)
  have h5 := h.txt
  have h6 : d.key.data.toList.length = d.key.size := rfl
  have h7 : d.val.data.toList.length = d.val.size := rfl
  simp only [World.size_alloc] at T
  go_enter Tryz.func181, Tryz.ntmps181
  go_wp2_with fail
  refine (Does.at2 (sinkNatD g l (W.heap.size + 1) 0 1 _ [d.kind] (by intro j hj; simp at hj; subst hj; rfl) (by simpa using h.kind) (by simp; omega)) T.rot2.swap2.swap2).mono ?_; clear T; rintro e w1 ⟨rfl, T⟩
  have T := T.swap.drop
  have hr := row_cell T.row1
  go_wp2_with fail
  refine (Does.at1 (sinkTextD g _ d.key ?_) T).mono ?_; clear T
  · simp [encs]; omega
  rintro e w2 ⟨rfl, T⟩
  clear hr
  have hr := row_cell T.row1
  go_wp2_with fail
  refine (Does.at1 (sinkTextD g _ d.val ?_) T).mono ?_; clear T
  · simp [encs]; omega
  rintro e w3 ⟨rfl, T⟩
  clear hr
  have hr := row_cell T.row1
  have T := T.new #[.int .i64 d.ver, .int .i64 d.ses, .int .i64 d.num] 3
  go_wp2_with fail
  refine (Does.at2 (sinkNatD g _ w3.heap.size 0 3 _ [d.ver, d.ses, d.num] ?_ (by simp; exact ⟨h.ver, h.ses, h.num⟩) (by simp [encs]; omega)) T.swap).mono ?_; clear T
  · intro j hj
    match j, hj with
    | 0, _ => rfl
    | 1, _ => rfl
    | 2, _ => rfl
  rintro e w4 ⟨rfl, T⟩
  clear hr
  go_wp2
  go_end0
  refine ⟨rfl, ?_⟩
  have := T.swap.drop.swap.drop
  simpa [encs, deedB, txt] using this
end Go.Proofs.YtomlilkobhkoiaaGreatDoor
/- The plain laws of reading what was written: numbers, texts, deeds. -/
namespace Go.Proofs.YtomlilkobhkoiaaGreatDoor
set_option linter.unusedVariables false
theorem enc_inj {v n : Nat} {r r' : List UInt8} (hv : v < 128 ^ 9) (hn : n < 128 ^ 9) (h : enc v ++ r = enc n ++ r') : v = n ∧ r = r' := by
  have h1 := dec_enc (128 ^ 9) 9 0 0 v r hv (by omega) (by omega) (by omega)
  have h2 := dec_enc (128 ^ 9) 9 0 0 n r' hn (by omega) (by omega) (by omega)
  rw [h, h2] at h1
  simp at h1
  exact ⟨h1.1.symm, h1.2.symm⟩
theorem natS_enc {v : Nat} (hv : v < 128 ^ 9) (r : List UInt8) (most : Nat) : natS ⟨enc v ++ r, false⟩ most = if v ≤ most then (v, ⟨r, false⟩) else (0, dryS) := by
  unfold natS
  rw [if_neg (by simp)]
  by_cases h : v ≤ most
  · rw [if_pos h]
    have := dec_enc most 9 0 0 v r hv (by omega) (by omega) (by omega)
    simp only [Nat.zero_add, Nat.pow_zero, Nat.mul_one] at this
    rw [this]
  · rw [if_neg h]
    cases hd : dec most 0 0 (enc v ++ r) with
    | none => rfl
    | some x =>
      obtain ⟨u, r'⟩ := x
      obtain ⟨n, h1, h2, h3, _, h5⟩ := dec_some most _ _ _ _ _ hd
      have := enc_inj hv h5 h3
      omega
theorem natS_inv {s : Src} {most : Nat} (h : (natS s most).2.dry = false) : s.dry = false ∧ s.left = enc (natS s most).1 ++ (natS s most).2.left ∧ (natS s most).1 ≤ most ∧ (natS s most).1 < 128 ^ 9 := by
  unfold natS at h ⊢
  split at h
  · simp [dryS] at h
  · rename_i hd
    rw [if_neg hd]
    split at h
    · simp [dryS] at h
    · rename_i v r hdec
      obtain ⟨n, h1, h2, h3, _, h5⟩ := dec_some most _ _ _ _ _ hdec
      simp at h1
      subst h1
      exact ⟨by simpa using hd, h3, h2, h5⟩
end Go.Proofs.YtomlilkobhkoiaaGreatDoor
/- Layer 5: a call's bytes, written and read. -/
namespace Go.Proofs.YtomlilkobhkoiaaGreatDoor
open Go.RowKit
set_option linter.unusedVariables false
attribute [local go_sem] row_alloc row_drew row_drewN row_ext row_setCell row_setRow size_ext setRow_alloc setRow_drew loadOf storeOf piece_lit loadVal_at storeVal_at allOne_lit buildOf buildRes_some
attribute [local go_sem high] cell_alloc frozen_alloc setCell_alloc cell_ext frozen_ext cell_setRow frozen_setRow
attribute [local go_sem ↓] TDeed_ld0 TDeed_st0 TDeed_fd0 TDeed_bd0
attribute [local go_sem] TDeed_size TDeed_one TDeed_piece TDeed_c0 TDeed_c1 TDeed_c2 TDeed_c3 TDeed_c4 TDeed_c5 TDeed_set_kind TDeed_set_key TDeed_set_val TDeed_set_ver TDeed_set_ses TDeed_set_num TDeed_ld TDeed_st TDeed_f_kind TDeed_f_key TDeed_f_val TDeed_f_ver TDeed_f_ses TDeed_f_num TDeed_bd TDeed_fl TDeed_fl_kind TDeed_fl_key TDeed_fl_val TDeed_fl_ver TDeed_fl_ses TDeed_fl_num
attribute [local go_sem high] TDeed_eql TDeed_neq
attribute [local go_sem ↓] index_deps0 load_deps0 store_deps0
attribute [local go_sem] DV_piece DV_size DV_one index_deps load_deps store_deps
attribute [local go_sem high] TDeps_eql TDeps_neq
attribute [local go_sem ↓] TCall_ld0 TCall_st0 TCall_fd0 TCall_bd0
attribute [local go_sem] TCall_size TCall_one TCall_piece TCall_c0 TCall_c1 TCall_c2 TCall_c3 TCall_c4 TCall_c5 TCall_c6 TCall_c7 TCall_c8 TCall_c9 TCall_c10 TCall_c11 TCall_c12 TCall_c13 TCall_p_deed TCall_put_deed TCall_p_deps TCall_put_deps TCall_set_seq TCall_ld TCall_st TCall_f_deed TCall_f_deps TCall_f_seq TCall_bd TCall_fl TCall_fl_deed TCall_fl_deps TCall_fl_seq
attribute [local go_sem high] TCall_eql TCall_neq
def depsL (d : Nat → Int) : List Int := [d 0, d 1, d 2, d 3, d 4, d 5, d 6]
def callB (c : Call) : List UInt8 := deedB c.deed ++ encs (depsL c.deps) ++ enc c.seq.toNat
structure CallIn (c : Call) (N : Nat) : Prop where
  deed : DeedIn c.deed N
  deps : ∀ i, i < 7 → -9223372036854775808 ≤ c.deps i ∧ c.deps i < 9223372036854775808
  seq : -9223372036854775808 ≤ c.seq ∧ c.seq < 9223372036854775808
theorem depsL_in {c : Call} {N : Nat} (h : CallIn c N) : ∀ n ∈ depsL c.deps, -9223372036854775808 ≤ n ∧ n < 9223372036854775808 := by
  intro n hn
  simp only [depsL, List.mem_cons, List.not_mem_nil, or_false] at hn
  rcases hn with rfl | rfl | rfl | rfl | rfl | rfl | rfl <;> exact h.deps _ (by omega)
theorem callB_len {c : Call} {N : Nat} (h : CallIn c N) (hN : N ≤ 1000000) : (callB c).length ≤ N + 126 := by
  have h1 := deedB_len h.deed hN
  have h2 := encs_len (ns := depsL c.deps) fun n hn => (depsL_in h n hn).2
  have h3 := enc_len9 (n := c.seq.toNat) (by have := h.seq; omega)
  have h4 : (depsL c.deps).length = 7 := rfl
  simp only [callB, List.length_append] at *
  omega
set_option maxHeartbeats 1000000 in
theorem callPutD (g : Nat) (l : List UInt8) (c : Call) (N : Nat) (h : CallIn c N) (hN : N ≤ 1000000) (hb : l.length ≤ 100000) :
    Does Tryz.prog 142 #[.pointer (some ⟨g, 0, none⟩), .agg (CV c)] [snkR g l] (.tuple #[]) [snkR g (l ++ callB c)] := by
  intro W G hS
  have T := (Sts.start hS).new (CV c) 68
  clear hS
  have h1 := deedB_len h.deed hN
  have h2 := encs_len (ns := depsL c.deps) fun n hn => (depsL_in h n hn).2
  have h4 : (depsL c.deps).length = 7 := rfl
  have hr := T.row
  go_enter Tryz.func142, Tryz.ntmps142
  go_wp2_with fail
  refine (Does.at1 (deedPutD g l c.deed N h.deed hN (by omega)) T.swap).mono ?_; clear T hr; rintro e w1 ⟨rfl, T⟩
  go_wp2_with fail
  refine (Does.at2 (sinkNatD g _ W.heap.size 6 7 (CV c) (depsL c.deps) ?_ (depsL_in h) (by simp; omega)) T).mono ?_; clear T
  · intro j hj
    match j, hj with
    | 0, _ => rfl
    | 1, _ => rfl
    | 2, _ => rfl
    | 3, _ => rfl
    | 4, _ => rfl
    | 5, _ => rfl
    | 6, _ => rfl
  rintro e w2 ⟨rfl, T⟩
  have hc := row_cell T.row1
  have T := T.new #[.int .i64 c.seq] 3
  go_wp2_with fail
  refine (Does.at2 (sinkNatD g _ w2.heap.size 0 1 _ [c.seq] (by intro j hj; simp at hj; subst hj; rfl) (by simpa using h.seq) (by simp; omega)) T.swap).mono ?_; clear T hc
  rintro e w3 ⟨rfl, T⟩
  go_wp2
  go_end0
  refine ⟨rfl, ?_⟩
  have := T.swap.drop.swap.drop
  simpa [encs, callB, txt] using this
def natsS : Nat → Src → Nat → List Nat × Src
  | 0, s, _ => ([], s)
  | k + 1, s, m => ((natsS k s m).1 ++ [(natS (natsS k s m).2 m).1], (natS (natsS k s m).2 m).2)
theorem natsS_len (s : Src) (m : Nat) : ∀ k, (natsS k s m).1.length = k
  | 0 => rfl
  | k + 1 => by simp [natsS, natsS_len s m k]
def ofL (l : List Nat) : Nat → Int := fun i => (l.getD i 0 : Nat)
theorem ofL_snoc (l : List Nat) (v : Nat) : ofL (l ++ [v]) = upd (ofL l) l.length v := by
  funext i
  unfold ofL upd
  by_cases h : i = l.length
  · subst h; simp
  · rw [if_neg h]
    by_cases h2 : i < l.length
    · simp [List.getElem?_append_left h2]
    · have h3 : l.length ≤ i := by omega
      simp [List.getElem?_append_right h3, List.getElem?_eq_none h3, List.getElem?_eq_none (l := [v]) (i := i - l.length) (by simp; omega)]
def rawCall (s : Src) : Call × Src :=
  let d := getD s
  let ds := natsS 7 d.2 64
  let q := natS ds.2 1099511627776
  (⟨d.1, ofL ds.1, q.1⟩, q.2)
def getC (s : Src) : Call × Src := if (rawCall s).2.dry = true then (noCall, (rawCall s).2) else rawCall s
set_option maxHeartbeats 2000000 in
theorem callGetD (g : Nat) (s : Src) : Does Tryz.prog 105 #[.pointer (some ⟨g, 0, none⟩)] [srcR g s] (.agg (CV (getC s).1)) [srcR g (getC s).2] := by
  intro W G h
  have T := (Sts.start h).new (CV noCall) 68
  have hlt := row_lt (sat_row_get h)
  clear h
  go_enter Tryz.func105, Tryz.ntmps105
  go_wp2_with fail
  refine (Does.at1 (getR g s) T.swap).mono ?_; clear T; rintro e w1 ⟨rfl, T⟩
  obtain ⟨d, s1, hd⟩ : ∃ d s1, getD s = (d, s1) := ⟨_, _, rfl⟩
  have hrc : rawCall s = (⟨d, ofL (natsS 7 s1 64).1, (natS (natsS 7 s1 64).2 1099511627776).1⟩, (natS (natsS 7 s1 64).2 1099511627776).2) := by unfold rawCall; rw [hd]
  rw [hd] at T ⊢
  simp only at T ⊢
  have HRC := Lib.hid hrc; clear hrc hd
  have T := T.new (CV ⟨d, fun _ => 0, 0⟩) 68
  go_wp2
  go_loopw [8] (fun i wr => ∃ k : Nat, k ≤ 7 ∧ i = .int .i64 k ∧ Sts W G wr [rowR w1.heap.size (CV ⟨d, ofL (natsS k s1 64).1, 0⟩), srcR g (natsS k s1 64).2, rowR W.heap.size (CV noCall)]) (fun i _ => 7 - (intOf i).toNat)
  case atStart => exact ⟨0, by omega, rfl, T⟩
  case round =>
    clear T
    obtain ⟨k, hk, rfl, T⟩ := hrel
    by_cases hlt7 : k < 7
    · have hsn := ofL_snoc (natsS k s1 64).1 (natS (natsS k s1 64).2 64).1
      rw [natsS_len] at hsn
      have hsd := TCall_setdeps ⟨d, ofL (natsS k s1 64).1, 0⟩ k hlt7 (natS (natsS k s1 64).2 64).1
      simp only at hsd
      rw [← hsn] at hsd
      have HSD := Lib.hid hsd; clear hsd hsn
      go_wp2_with fail
      refine (Does.at1 (natD g _ 64 (by omega)) T.swap).mono ?_; clear T; rintro e w2 ⟨rfl, T⟩
      have hr := T.row1
      have hlt := row_lt hr
      have hc := row_cell hr (6 + k)
      have hcd := TCall_deps ⟨d, ofL (natsS k s1 64).1, 0⟩ k hlt7
      rw [hcd] at hc
      have hf := row_frozen hr (6 + k)
      clear hr hcd
      have T := T.swap.setCell (6 + k) (.int .i64 (natS (natsS k s1 64).2 64).1)
      rw [HSD.out] at T
      have HT := Lib.hid T; clear T HSD
      have hns : natsS (k + 1) s1 64 = ((natsS k s1 64).1 ++ [(natS (natsS k s1 64).2 64).1], (natS (natsS k s1 64).2 64).2) := rfl
      generalize natS (natsS k s1 64).2 64 = nk at *
      have HNS := Lib.hid hns; clear hns
      go_wp2
      go_roundw
      case rel => exact ⟨k + 1, by omega, by go_num, by rw [HNS.out]; exact HT.out⟩
      case measure => simp [intOf]; omega
    · obtain rfl : k = 7 := by omega
      clear hk hlt7
      obtain ⟨ds, s2, hds⟩ : ∃ ds s2, natsS 7 s1 64 = (ds, s2) := ⟨_, _, rfl⟩
      have hrc := HRC.out
      rw [hds] at T hrc
      simp only at T hrc
      have HRC := Lib.hid hrc; clear hrc
      go_wp2_with fail
      refine (Does.at1 (natD g _ 1099511627776 (by omega)) T.swap).mono ?_; clear T; rintro e w2 ⟨rfl, T⟩
      obtain ⟨sq, s3, hsq⟩ : ∃ sq s3, natS s2 1099511627776 = (sq, s3) := ⟨_, _, rfl⟩
      have hrc := HRC.out
      rw [hsq] at T hrc ⊢
      simp only at T hrc ⊢
      have HRC := Lib.hid hrc; clear hrc hsq hds
      have hr := T.row1
      have hlt := row_lt hr
      have hc := row_cell hr
      have hf := row_frozen hr
      have T := T.swap.setCell 13 (.int .i64 sq)
      rw [TCall_set_seq] at T
      go_wp2_with fail
      refine (Does.at1 (dryD g _) T.swap).mono ?_; clear T hr hlt hc hf; rintro e w4 ⟨rfl, T⟩
      have hr2 := T.row2
      have hs2 := row_lt hr2
      have hr1 := T.row1
      have hne : w1.heap.size ≠ W.heap.size := T.drop.ne
      cases hdr : s3.dry
      · have hget : getC s = (⟨d, ofL ds, sq⟩, s3) := by unfold getC; rw [HRC.out, if_neg (by simp [hdr])]
        have HG := Lib.hid hget; clear hget
        go_wp2
        exact TCall_ret _ rfl rfl rfl (row_setRow_same _ _ _ _ hr2) ⟨by rw [HG.out], by rw [HG.out]; exact (T.rot2.setRow _).drop.swap.drop⟩
      · have hget : getC s = (noCall, s3) := by unfold getC; rw [HRC.out, if_pos hdr]
        have HG := Lib.hid hget; clear hget
        go_wp2
        exact TCall_ret _ rfl rfl rfl (row_setRow_same _ _ _ _ hr2) ⟨by rw [HG.out], by rw [HG.out]; exact (T.rot2.setRow _).drop.swap.drop⟩
end Go.Proofs.YtomlilkobhkoiaaGreatDoor
/- Layer 5: the law of a call's bytes. -/
namespace Go.Proofs.YtomlilkobhkoiaaGreatDoor
open Go.RowKit
set_option linter.unusedVariables false
attribute [local go_sem] row_alloc row_drew row_drewN row_ext row_setCell row_setRow size_ext setRow_alloc setRow_drew loadOf storeOf piece_lit loadVal_at storeVal_at allOne_lit buildOf buildRes_some
attribute [local go_sem high] cell_alloc frozen_alloc setCell_alloc cell_ext frozen_ext cell_setRow frozen_setRow
attribute [local go_sem ↓] TDeed_ld0 TDeed_st0 TDeed_fd0 TDeed_bd0
attribute [local go_sem] TDeed_size TDeed_one TDeed_piece TDeed_c0 TDeed_c1 TDeed_c2 TDeed_c3 TDeed_c4 TDeed_c5 TDeed_set_kind TDeed_set_key TDeed_set_val TDeed_set_ver TDeed_set_ses TDeed_set_num TDeed_ld TDeed_st TDeed_f_kind TDeed_f_key TDeed_f_val TDeed_f_ver TDeed_f_ses TDeed_f_num TDeed_bd TDeed_fl TDeed_fl_kind TDeed_fl_key TDeed_fl_val TDeed_fl_ver TDeed_fl_ses TDeed_fl_num
attribute [local go_sem high] TDeed_eql TDeed_neq
attribute [local go_sem ↓] index_deps0 load_deps0 store_deps0
attribute [local go_sem] DV_piece DV_size DV_one index_deps load_deps store_deps
attribute [local go_sem high] TDeps_eql TDeps_neq
attribute [local go_sem ↓] TCall_ld0 TCall_st0 TCall_fd0 TCall_bd0
attribute [local go_sem] TCall_size TCall_one TCall_piece TCall_c0 TCall_c1 TCall_c2 TCall_c3 TCall_c4 TCall_c5 TCall_c6 TCall_c7 TCall_c8 TCall_c9 TCall_c10 TCall_c11 TCall_c12 TCall_c13 TCall_p_deed TCall_put_deed TCall_p_deps TCall_put_deps TCall_set_seq TCall_ld TCall_st TCall_f_deed TCall_f_deps TCall_f_seq TCall_bd TCall_fl TCall_fl_deed TCall_fl_deps TCall_fl_seq
attribute [local go_sem high] TCall_eql TCall_neq
/-! the plain laws -/
end Go.Proofs.YtomlilkobhkoiaaGreatDoor
