/- Several texts in one. -/
import Derived.Test.YtahajjfbkdocaaaDoorZ8
import Derived.Test.YtahajjfbkdocaaaDoorZ9
import Derived.Laws.BitsAllLaws
import Derived.Test.YtahajjfbkdocaaaDoorZ6
import Derived.Test.YtahajjfbkdocaaaDoorZ4
/- Layer 1, reading: numbers. -/
namespace Go.Proofs.YtahajjfbkdocaaaDoor
open Go.RowKit
set_option linter.unusedVariables false
attribute [local go_sem] row_alloc row_drew row_drewN row_ext row_setCell row_setRow size_ext setRow_alloc setRow_drew
attribute [local go_sem high] cell_alloc frozen_alloc setCell_alloc cell_ext frozen_ext
/-- A number, at most so great. -/
def natS (s : Src) (most : Nat) : Nat × Src :=
  if s.dry = true then (0, dryS) else match dec most 0 0 s.left with
    | none => (0, dryS)
    | some (v, r) => (v, ⟨r, false⟩)
theorem rawS_one_nil {s : Src} (h : s.dry = true ∨ s.left = []) : rawS s 1 = ([], dryS) := by
  unfold rawS; rw [if_pos]; rcases h with h | h
  · exact .inl h
  · right; right; rw [h]; simp
theorem rawS_one {x : UInt8} {r : List UInt8} : rawS ⟨x :: r, false⟩ 1 = ([x], ⟨r, false⟩) := by
  unfold rawS; rw [if_neg (by simp; omega)]; rfl
theorem strL_one (x : UInt8) : ∀ h : 0 < (strL [x]).size, (strL [x])[0]'h = x := fun _ => rfl
theorem and_127 (x : UInt8) : bits .and .u8 (x.toNat : Int) 127 = ((x.toNat % 128 : Nat) : Int) := by
  have := u8_and_nat x.toNat 127 x.toNat_lt (by omega)
  rw [show ((127 : Nat) : Int) = 127 from rfl] at this
  rw [this, show (127 : Nat) = 2 ^ 7 - 1 from rfl, Nat.and_two_pow_sub_one_eq_mod]
theorem or_shift (un y q : Nat) (hu : un < 2 ^ q) (hy : y < 128) (hq : q ≤ 56) : bits .or .u64 (un : Int) ((y * 2 ^ q : Nat) : Int) = ((un + y * 2 ^ q : Nat) : Int) ∧ un + y * 2 ^ q < 9223372036854775808 := by
  have h2 : 2 ^ q ≤ 2 ^ 56 := Nat.pow_le_pow_right (by omega) hq
  have h3 : y * 2 ^ q ≤ 127 * 2 ^ q := Nat.mul_le_mul_right _ (by omega)
  have h4 : un + y * 2 ^ q < 9223372036854775808 := by omega
  refine ⟨?_, h4⟩
  rw [u64_or_nat _ _ (by omega) (by omega)]
  congr 1
  rw [Nat.or_comm, Nat.mul_comm, Nat.add_comm, Nat.two_pow_add_eq_or_of_lt hu]
theorem wrap_shift (y q : Nat) (hy : y < 128) (hq : q ≤ 56) : IntKind.u64.wrap ((y : Int) * 2 ^ q) = ((y * 2 ^ q : Nat) : Int) := by
  have h2 : 2 ^ q ≤ 2 ^ 56 := Nat.pow_le_pow_right (by omega) hq
  have h3 : y * 2 ^ q ≤ 127 * 2 ^ q := Nat.mul_le_mul_right _ (by omega)
  have e : (y : Int) * 2 ^ q = ((y * 2 ^ q : Nat) : Int) := by rw [Int.natCast_mul, Int.natCast_pow]; rfl
  rw [e, IntKind.wrap_u64]; omega
section
variable {W : World} {g : Nat} {s : Src}
theorem raw_none (h : row? W g = some (SV s)) (hs : s.dry = true ∨ s.left = []) :
    Calls Tryd.prog 47 #[.pointer (some ⟨g, 0, none⟩), .int .i64 1] W fun e w' => e = .returned (.string ⟨#[]⟩) ∧ row? w' g = some (SV dryS) ∧ Touch W w' g none ∧ w'.heap.size = W.heap.size := by
  have := raw_any h 1 (by omega)
  rw [rawS_one_nil hs] at this
  exact this
theorem raw_one {x : UInt8} {r : List UInt8} (h : row? W g = some (SV ⟨x :: r, false⟩)) :
    Calls Tryd.prog 47 #[.pointer (some ⟨g, 0, none⟩), .int .i64 1] W fun e w' => e = .returned (.string (strL [x])) ∧ row? w' g = some (SV ⟨r, false⟩) ∧ Touch W w' g none ∧ w'.heap.size = W.heap.size := by
  have := raw_any h 1 (by omega)
  rw [rawS_one] at this
  exact this
set_option maxRecDepth 4000 in
set_option maxHeartbeats 1000000 in
theorem nat_any (h : row? W g = some (SV s)) (most : Nat) (hm : most ≤ 1099511627776) :
    Calls Tryd.prog 46 #[.pointer (some ⟨g, 0, none⟩), .int .i64 most] W fun e w' => e = .returned (.int .i64 (natS s most).1) ∧ row? w' g = some (SV (natS s most).2) ∧ Touch W w' g none ∧ w'.heap.size = W.heap.size := by
  by_cases hd : s.dry = true
  · have hn : natS s most = (0, dryS) := by unfold natS; rw [if_pos hd]
    rw [hn]
    go_enter Tryd.func46, Tryd.ntmps46
    go_wp2
    go_loopw [5, 6] (fun u sh wr => wr = W ∧ u = .int .u64 0 ∧ sh = .int .i64 0) (fun _ _ _ => 0)
    case atStart => exact ⟨rfl, rfl, rfl⟩
    case round =>
      obtain ⟨rfl, rfl, rfl⟩ := hrel
      go_wp2_with fail
      refine (raw_none h (.inl hd)).mono ?_; rintro e w1 ⟨rfl, hr, hT, hz⟩
      go_wp2_with fail
      refine (stop_any hr).mono ?_; rintro e w2 ⟨rfl, hr2, hT2, hz2⟩
      go_wp2
      go_ret
      exact ⟨rfl, hr2, hT.trans (Fresh.refl _ _) hT2, hz2.trans hz⟩
  · have hd' : s.dry = false := by simpa using hd
    obtain ⟨left, dry⟩ := s
    obtain rfl : dry = false := hd'
    go_enter Tryd.func46, Tryd.ntmps46
    go_wp2
    go_loopw [5, 6] (fun u sh wr => ∃ (i q un : Nat) (cur : List UInt8), q = 7 * i ∧ i ≤ 9 ∧ sh = .int .i64 (q : Int) ∧ u = .int .u64 un ∧ row? wr g = some (SV ⟨cur, false⟩) ∧ Touch W wr g none ∧ wr.heap.size = W.heap.size ∧ un < 128 ^ i ∧ dec most i un cur = dec most 0 0 left) (fun _ sh _ => 70 - (intOf sh).toNat)
    case atStart => exact ⟨0, 0, 0, left, rfl, by omega, rfl, rfl, h, Touch.refl _ _ _, rfl, by simp, rfl⟩
    case round =>
      obtain ⟨i, q, un, cur, hq, hi, rfl, rfl, hrow, hT, hz, hun, hdec⟩ := hrel
      have Hq := Lib.hid hq; clear hq
      have Hdec := Lib.hid hdec; clear hdec
      have Hun := Lib.hid hun; clear hun
      match cur, hrow, Hdec with
      | [], hrow, Hdec =>
        have hn : natS ⟨left, false⟩ most = (0, dryS) := by
          unfold natS; rw [if_neg hd, ← Hdec.out]; rfl
        go_wp2_with fail
        refine (raw_none hrow (.inr rfl)).mono ?_; rintro e w1 ⟨rfl, hr, hT1, hz1⟩
        go_wp2_with fail
        refine (stop_any hr).mono ?_; rintro e w2 ⟨rfl, hr2, hT2, hz2⟩
        go_wp2
        go_ret
        rw [hn]
        exact ⟨rfl, hr2, (hT.trans (Fresh.refl _ _) hT1).trans (Fresh.refl _ _) hT2, (hz2.trans hz1).trans hz⟩
      | x :: rest, hrow, Hdec =>
        go_wp2_with fail
        refine (raw_one hrow).mono ?_; rintro e w1 ⟨rfl, hr, hT1, hz1⟩
        have hx1 := strL_one x
        have hx2 : (strL [x]).size = 1 := rfl
        have hx3 : ((strL [x]).toList == []) = false := by
          rw [show (strL [x]).toList = [x] from ByteArray.toList_mk [x]]; rfl
        generalize strL [x] = B at *
        by_cases h8 : 8 < i
        · have hn : natS ⟨left, false⟩ most = (0, dryS) := by
            unfold natS; rw [if_neg hd, ← Hdec.out]; simp [dec, h8]
          have h8' : (56 : Int) < (q : Int) := by have := Hq.out; omega
          clear h8
          go_wp2_with fail
          refine (stop_any hr).mono ?_; rintro e w2 ⟨rfl, hr2, hT2, hz2⟩
          go_wp2
          go_ret
          rw [hn]
          exact ⟨rfl, hr2, (hT.trans (Fresh.refl _ _) hT1).trans (Fresh.refl _ _) hT2, (hz2.trans hz1).trans hz⟩
        · have h8' : (q : Int) ≤ (56 : Int) := by have := Hq.out; omega
          have Hh8 := Lib.hid h8; clear h8
          have hqe : 2 ^ q = 128 ^ i := by rw [Hq.out, Nat.pow_mul]
          have hun2 : un < 2 ^ q := by rw [hqe]; exact Hun.out
          have hA := and_127 x
          have hy : x.toNat % 128 < 128 := by omega
          have hq56 : q ≤ 56 := by omega
          have hW1 : IntKind.u64.wrap ((x.toNat % 128 : Nat) : Int) = ((x.toNat % 128 : Nat) : Int) := IntWalk.u64_in _ (by omega)
          have hW2 := wrap_shift (x.toNat % 128) q hy hq56
          obtain ⟨hO, hv63⟩ := or_shift un (x.toNat % 128) q hun2 hy hq56
          obtain ⟨v, hv⟩ : ∃ v, v = un + x.toNat % 128 * 2 ^ q := ⟨_, rfl⟩
          rw [← hv] at hO hv63
          rw [hqe] at hv
          have Hv := Lib.hid hv; clear hv
          have hC : wrap64 (v : Int) = (v : Int) := by rw [← IntWalk.i64_left]; exact IntWalk.i64_in _ (by omega)
          have hxb := x.toNat_lt
          obtain ⟨z, hz9⟩ : ∃ z, z = x.toNat % 128 := ⟨_, rfl⟩
          rw [← hz9] at hA hW1 hW2 hO
          have Hz9 := Lib.hid hz9; clear hz9
          generalize hpw : z * 2 ^ q = pw at *
          clear hpw hun2 hqe hy
          clear hxb
          by_cases hx : x.toNat < 128
          · have hxi : (x.toNat : Int) < 128 := by omega
            have hz2 : z = x.toNat := by have := Hz9.out; omega
            by_cases hbad : x.toNat = 0 ∧ 0 < i ∨ most < v
            · have hn : natS ⟨left, false⟩ most = (0, dryS) := by
                unfold natS; rw [if_neg hd, ← Hdec.out]
                simp only [dec]
                rw [if_neg Hh8.out, if_pos hx, if_pos (by rw [← hz2, Hz9.out, ← Hv.out]; rw [← hz2, Hz9.out] at hbad; exact hbad)]
              have Hn := Lib.hid hn; clear hn
              have Hz2 := Lib.hid hz2; clear hz2
              have Hb := Lib.hid hbad; clear hbad
              have fin : ∀ {e w2}, (e = Ending.returned (.tuple #[]) ∧ row? w2 g = some (SV dryS) ∧ Touch w1 w2 g none ∧ w2.heap.size = w1.heap.size) → row? w2 g = some (SV (natS ⟨left, false⟩ most).2) ∧ Touch W w2 g none ∧ w2.heap.size = W.heap.size := by
                rintro e w2 ⟨-, hr2, hT2, hz2⟩
                rw [Hn.out]
                exact ⟨hr2, (hT.trans (Fresh.refl _ _) hT1).trans (Fresh.refl _ _) hT2, (hz2.trans hz1).trans hz⟩
              go_wp2_with fail
              all_goals first
                | (refine (stop_any hr).mono ?_; rintro e w2 ⟨rfl, hh⟩
                   go_wp2
                   go_ret
                   exact ⟨by rw [Hn.out]; rfl, fin ⟨rfl, hh⟩⟩)
                | (exfalso; have := Hb.out; have := Hq.out; omega)
            · have hn : natS ⟨left, false⟩ most = (v, ⟨rest, false⟩) := by
                unfold natS; rw [if_neg hd, ← Hdec.out]
                simp only [dec]
                rw [if_neg Hh8.out, if_pos hx, if_neg (by rw [← hz2, Hz9.out, ← Hv.out]; rw [← hz2, Hz9.out] at hbad; exact hbad)]
                rw [show un + x.toNat * 128 ^ i = v by rw [← hz2, Hz9.out, ← Hv.out]]
              have Hn := Lib.hid hn; clear hn
              have Hz2 := Lib.hid hz2; clear hz2
              have Hb := Lib.hid hbad; clear hbad
              have Hr := Lib.hid hr
              clear h hrow
              go_wp2_with fail
              all_goals first
                | (go_ret
                   rw [Hn.out]
                   exact ⟨rfl, Hr.out, hT.trans (Fresh.refl _ _) hT1, hz1.trans hz⟩)
                | (exfalso; have := Hb.out; have := Hq.out; omega)
          · have hxi : (128 : Int) ≤ (x.toNat : Int) := by omega
            have hrel2 : v < 128 ^ (i + 1) ∧ dec most (i + 1) v rest = dec most 0 0 left := by
              have hu := Hun.out
              have e1 := Hv.out
              constructor
              · rw [e1, Nat.pow_succ]
                have : x.toNat % 128 * 128 ^ i ≤ 127 * 128 ^ i := Nat.mul_le_mul_right _ (by omega)
                omega
              · rw [← Hdec.out]
                simp only [dec]
                rw [if_neg Hh8.out, if_neg hx, e1]
                have hxl := x.toNat_lt
                rw [show x.toNat % 128 = x.toNat - 128 by omega]
            have Hrel2 := Lib.hid hrel2; clear hrel2
            have Hr := Lib.hid hr; clear hr
            clear h hrow
            go_wp2
            go_roundw
            case rel => exact ⟨i + 1, q + 7, v, rest, by have := Hq.out; omega, by have := Hh8.out; omega, by go_num, rfl, Hr.out, hT.trans (Fresh.refl _ _) hT1, hz1.trans hz, Hrel2.out.1, Hrel2.out.2⟩
            case measure => simp [intOf]; omega
end
end Go.Proofs.YtahajjfbkdocaaaDoor
/- Layer 1, reading: texts; whether something was missing; how much is left. -/
namespace Go.Proofs.YtahajjfbkdocaaaDoor
open Go.RowKit
set_option linter.unusedVariables false
attribute [local go_sem] row_alloc row_drew row_drewN row_ext row_setCell row_setRow size_ext setRow_alloc setRow_drew
attribute [local go_sem high] cell_alloc frozen_alloc setCell_alloc cell_ext frozen_ext
/-- A text of at most so many bytes. -/
def textS (s : Src) (most : Nat) : List UInt8 × Src := rawS (natS s most).2 (natS s most).1
theorem natS_le (s : Src) (most : Nat) : (natS s most).1 ≤ most := by
  unfold natS; split
  · exact Nat.zero_le _
  · split
    · exact Nat.zero_le _
    · rename_i v r h
      obtain ⟨n, _, hm, _⟩ := dec_some most _ _ _ _ _ h
      exact hm
section
variable {W : World} {g : Nat} {s : Src}
set_option maxHeartbeats 1000000 in
theorem text_any (h : row? W g = some (SV s)) (most : Nat) (hm : most ≤ 1099511627776) :
    Calls Tryd.prog 62 #[.pointer (some ⟨g, 0, none⟩), .int .i64 most] W fun e w' => e = .returned (.string (strL (textS s most).1)) ∧ row? w' g = some (SV (textS s most).2) ∧ Touch W w' g none ∧ w'.heap.size = W.heap.size := by
  go_enter Tryd.func62, Tryd.ntmps62
  go_wp2_with fail
  refine (nat_any h most hm).mono ?_; rintro e w1 ⟨rfl, h1, T1, z1⟩
  have hl := natS_le s most
  go_wp2_with fail
  refine (raw_any h1 _ (by omega)).mono ?_; rintro e w2 ⟨rfl, h2, T2, z2⟩
  have H2 := Lib.hid h2; clear h2 h1 h
  go_wp2
  go_ret
  exact ⟨rfl, H2.out, T1.trans (Fresh.refl _ _) T2, z2.trans z1⟩
set_option maxHeartbeats 1000000 in
theorem dry_any (h : row? W g = some (SV s)) : Calls Tryd.prog 48 #[.pointer (some ⟨g, 0, none⟩)] W fun e w' => e = .returned (.bool s.dry) ∧ W = w' := by
  have hc := row_cell h
  unfold SV at hc
  clear h
  go_enter Tryd.func48, Tryd.ntmps48
  go_wp2
  go_ret
  exact ⟨rfl, rfl⟩
set_option maxHeartbeats 1000000 in
theorem left_any (h : row? W g = some (SV s)) : Calls Tryd.prog 49 #[.pointer (some ⟨g, 0, none⟩)] W fun e w' => e = .returned (.int .i64 s.left.length) ∧ W = w' := by
  have hc := row_cell h
  have hz := strL_size s.left
  unfold SV at hc
  clear h
  go_enter Tryd.func49, Tryd.ntmps49
  go_wp2
  go_ret
  exact ⟨rfl, rfl⟩
end
end Go.Proofs.YtahajjfbkdocaaaDoor
/- Layer 4: a deed got from a source. -/
namespace Go.Proofs.YtahajjfbkdocaaaDoor
open Go.RowKit
set_option linter.unusedVariables false
attribute [local go_sem] row_alloc row_drew row_drewN row_ext row_setCell row_setRow size_ext setRow_alloc setRow_drew loadOf storeOf piece_lit loadVal_at storeVal_at allOne_lit EV_size EV_one EV_piece EV_0 EV_1 EV_2 EV_3 EV_4 EV_5
attribute [local go_sem high] cell_alloc frozen_alloc setCell_alloc cell_ext frozen_ext
attribute [local go_sem ↓] load_deed0 store_deed0
attribute [local go_sem] load_deed store_deed
attribute [local go_sem high] run_eql_deed
attribute [local go_sem] zero_deed
/-- A source in memory. -/
abbrev srcR (g : Nat) (s : Src) : Res := rowR g (SV s)
section
variable (g : Nat) (s : Src)
theorem stopD : Does Tryd.prog 58 #[.pointer (some ⟨g, 0, none⟩)] [srcR g s] (.tuple #[]) [srcR g dryS] := fun W G h =>
  (stop_any (sat_row_get h)).mono fun e W' ⟨he, hr, hT, _⟩ => ⟨he, of_touch h hr hT⟩
theorem rawD (n : Int) (hn : -9223372036854775808 ≤ n ∧ n ≤ 9223372036854775807) : Does Tryd.prog 47 #[.pointer (some ⟨g, 0, none⟩), .int .i64 n] [srcR g s] (.string (strL (rawS s n).1)) [srcR g (rawS s n).2] := fun W G h =>
  (raw_any (sat_row_get h) n hn).mono fun e W' ⟨he, hr, hT, _⟩ => ⟨he, of_touch h hr hT⟩
theorem natD (most : Nat) (hm : most ≤ 1099511627776) : Does Tryd.prog 46 #[.pointer (some ⟨g, 0, none⟩), .int .i64 most] [srcR g s] (.int .i64 (natS s most).1) [srcR g (natS s most).2] := fun W G h =>
  (nat_any (sat_row_get h) most hm).mono fun e W' ⟨he, hr, hT, _⟩ => ⟨he, of_touch h hr hT⟩
theorem textD (most : Nat) (hm : most ≤ 1099511627776) : Does Tryd.prog 62 #[.pointer (some ⟨g, 0, none⟩), .int .i64 most] [srcR g s] (.string (strL (textS s most).1)) [srcR g (textS s most).2] := fun W G h =>
  (text_any (sat_row_get h) most hm).mono fun e W' ⟨he, hr, hT, _⟩ => ⟨he, of_touch h hr hT⟩
theorem dryD : Does Tryd.prog 48 #[.pointer (some ⟨g, 0, none⟩)] [srcR g s] (.bool s.dry) [srcR g s] := fun W G h =>
  (dry_any (sat_row_get h)).mono fun e W' ⟨he, hw⟩ => ⟨he, hw ▸ Sts.start h⟩
theorem leftD : Does Tryd.prog 49 #[.pointer (some ⟨g, 0, none⟩)] [srcR g s] (.int .i64 s.left.length) [srcR g s] := fun W G h =>
  (left_any (sat_row_get h)).mono fun e W' ⟨he, hw⟩ => ⟨he, hw ▸ Sts.start h⟩
end
def rawDeed (s : Src) : Deed × Src :=
  let k := natS s 5
  let key := textS k.2 16
  let val := textS key.2 32
  let ver := natS val.2 1099511627776
  let ses := natS ver.2 1099511627776
  let num := natS ses.2 1099511627776
  (⟨k.1, strL key.1, strL val.1, ver.1, ses.1, num.1⟩, num.2)
def getD (s : Src) : Deed × Src := if (rawDeed s).2.dry = true ∨ goodB (rawDeed s).1 = false then (noDeed, dryS) else rawDeed s
set_option maxHeartbeats 2000000 in
theorem getR (g : Nat) (s : Src) : Does Tryd.prog 59 #[.pointer (some ⟨g, 0, none⟩)] [srcR g s] (.agg (EV (getD s).1)) [srcR g (getD s).2] := by
  intro W G h
  have T := (Sts.start h).new (EV noDeed) 27
  have hlt := row_lt (sat_row_get h)
  go_enter Tryd.func59, Tryd.ntmps59
  go_wp2_with fail
  refine (Does.at1 (natD g s 5 (by omega)) T.swap).mono ?_; clear T; rintro e w1 ⟨rfl, T⟩
  go_wp2_with fail
  refine (Does.at1 (textD g _ 16 (by omega)) T).mono ?_; clear T; rintro e w2 ⟨rfl, T⟩
  go_wp2_with fail
  refine (Does.at1 (textD g _ 32 (by omega)) T).mono ?_; clear T; rintro e w3 ⟨rfl, T⟩
  go_wp2_with fail
  refine (Does.at1 (natD g _ 1099511627776 (by omega)) T).mono ?_; clear T; rintro e w4 ⟨rfl, T⟩
  go_wp2_with fail
  refine (Does.at1 (natD g _ 1099511627776 (by omega)) T).mono ?_; clear T; rintro e w5 ⟨rfl, T⟩
  go_wp2_with fail
  refine (Does.at1 (natD g _ 1099511627776 (by omega)) T).mono ?_; clear T; rintro e w6 ⟨rfl, T⟩
  have hrd : rawDeed s = (⟨(natS s 5).1, strL (textS (natS s 5).2 16).1, strL (textS (textS (natS s 5).2 16).2 32).1, (natS (textS (textS (natS s 5).2 16).2 32).2 1099511627776).1, (natS (natS (textS (textS (natS s 5).2 16).2 32).2 1099511627776).2 1099511627776).1, (natS (natS (natS (textS (textS (natS s 5).2 16).2 32).2 1099511627776).2 1099511627776).2 1099511627776).1⟩, (natS (natS (natS (textS (textS (natS s 5).2 16).2 32).2 1099511627776).2 1099511627776).2 1099511627776).2) := rfl
  generalize natS (natS (natS (textS (textS (natS s 5).2 16).2 32).2 1099511627776).2 1099511627776).2 1099511627776 = n6 at *
  generalize (natS (natS (textS (textS (natS s 5).2 16).2 32).2 1099511627776).2 1099511627776).1 = a5 at *
  generalize (natS (textS (textS (natS s 5).2 16).2 32).2 1099511627776).1 = a4 at *
  generalize strL (textS (textS (natS s 5).2 16).2 32).1 = a3 at *
  generalize strL (textS (natS s 5).2 16).1 = a2 at *
  generalize (natS s 5).1 = a1 at *
  obtain ⟨D, hD⟩ : ∃ D : Deed, D = ⟨a1, a2, a3, a4, a5, n6.1⟩ := ⟨_, rfl⟩
  have hEV : ((((((EV noDeed).setIfInBounds 0 (.int .i64 a1)).setIfInBounds 1 (.string a2)).setIfInBounds 2 (.string a3)).setIfInBounds 3 (.int .i64 a4)).setIfInBounds 4 (.int .i64 a5)).setIfInBounds 5 (.int .i64 n6.1) = EV D := by rw [hD]; rfl
  rw [← hD] at hrd
  have Hrd := Lib.hid hrd; clear hrd
  clear hD
  have hne : ¬ EV noDeed = #[] := fun e => by have := congrArg Array.size e; rw [EV_size] at this; simp at this
  have hl2 := row_lt T.row1
  have hr2 := T.row1
  clear h hlt
  have HH := Lib.hid hr2
  go_wp2_with fail
  have T := T.new (EV D) 27
  refine (Does.at1 (dryD g n6.2) T.swap).mono ?_; rintro e w8 ⟨rfl, T⟩
  clear hne HH
  have hr8 := T.row2
  have hs8 := row_lt hr8
  have hr1 := T.row1
  have hs1 := row_lt hr1
  have hz : w6.heap.size + 1 ≤ w8.heap.size := by have := T.size; omega
  cases hdr : n6.2.dry
  · go_wp2_with fail
    refine (Ans.at (good4_any D) T).mono ?_; rintro e w9 ⟨rfl, T⟩
    cases hgd : goodB D
    · have hget : getD s = (noDeed, dryS) := by unfold getD; rw [Hrd.out, if_pos (.inr hgd)]
      go_wp2_with fail
      refine (Does.at1 (stopD g n6.2) T).mono ?_; rintro e w10 ⟨rfl, T⟩
      have hr8 := T.row2
      have hs8 := row_lt hr8
      go_wp2
      exact ret_row (EV noDeed) Tryd.underlying27 rfl (by kernel_rfl) rfl rfl rfl (EV_size _) (row_setRow_same _ _ _ _ hr8) ⟨by rw [hget], by rw [hget]; exact (T.rot2.setRow (EV noDeed)).drop.swap.drop⟩
    · have hget : getD s = rawDeed s := by unfold getD; rw [Hrd.out, if_neg (by simp [hdr, hgd])]
      have hr8 := T.row2
      have hs8 := row_lt hr8
      have hr1 := T.row1
      go_wp2
      exact ret_row (EV D) Tryd.underlying27 rfl (by kernel_rfl) rfl rfl rfl (EV_size _) (row_setRow_same _ _ _ _ hr8) ⟨by rw [hget, Hrd.out], by rw [hget, Hrd.out]; exact (T.rot2.setRow (EV D)).drop.swap.drop⟩
  · have hget : getD s = (noDeed, dryS) := by unfold getD; rw [Hrd.out, if_pos (.inl hdr)]
    go_wp2_with fail
    refine (Does.at1 (stopD g n6.2) T).mono ?_; rintro e w10 ⟨rfl, T⟩
    have hr8 := T.row2
    have hs8 := row_lt hr8
    go_wp2
    exact ret_row (EV noDeed) Tryd.underlying27 rfl (by kernel_rfl) rfl rfl rfl (EV_size _) (row_setRow_same _ _ _ _ hr8) ⟨by rw [hget], by rw [hget]; exact (T.rot2.setRow (EV noDeed)).drop.swap.drop⟩
theorem strL_list (t : List UInt8) : (strL t).data.toList = t := rfl
theorem strL_self (b : ByteArray) : strL b.data.toList = b := by cases b; rfl
theorem fromS {w W : World} {F : Nat → Prop} {L : List Res} (T : Sts w F W L) (l : List UInt8) : Calls Tryd.prog 26 #[.string (strL l)] W fun e W' => e = .returned (.pointer (some ⟨W.heap.size, 0, none⟩)) ∧ Sts w F W' (srcR W.heap.size ⟨l, false⟩ :: L) :=
  (from_any W l).mono fun e W' ⟨he, hr, hb, _⟩ => ⟨he, T.found hb (Nat.le_refl _) hr⟩
theorem fromB {w W : World} {F : Nat → Prop} {L : List Res} (T : Sts w F W L) (b : ByteArray) : Calls Tryd.prog 26 #[.string b] W fun e W' => e = .returned (.pointer (some ⟨W.heap.size, 0, none⟩)) ∧ Sts w F W' (srcR W.heap.size ⟨b.data.toList, false⟩ :: L) := by
  have := fromS T b.data.toList
  rw [strL_self] at this
  exact this
end Go.Proofs.YtahajjfbkdocaaaDoor
