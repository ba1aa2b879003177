/- Several texts in one. -/
import Derived.Test.YtpganpiidgkofaaZ17
import Derived.Laws.BitsAllLaws
/- The document's bytes of numbers and texts. -/
namespace Go.Proofs.Ytpganpiidgkofaa
open Go.RowKit
set_option linter.unusedVariables false
set_option maxRecDepth 20000
attribute [local go_sem] row_alloc row_drew row_drewN row_ext row_setCell row_setRow size_ext setRow_alloc setRow_drew
attribute [local go_sem high] cell_alloc frozen_alloc setCell_alloc cell_ext frozen_ext
theorem conv_one (W : World) (x : UInt8) : (convert 98 9 (.slice (some ⟨W.heap.size, 0, none⟩) 1 1)).run Try.prog (W.alloc (.cells #[.int .u8 (x.toNat : Int)] 5)) = .ok (.string (strL [x])) (W.alloc (.cells #[.int .u8 (x.toNat : Int)] 5)) := by
  refine run_convert_bytes_back (W.alloc (.cells #[.int .u8 (x.toNat : Int)] 5)) _ _ _ ⟨W.heap.size, 0, none⟩ 1 [x] Try.underlying98 Try.underlying5 Try.underlying9 fun j hj => ?_
  obtain rfl : j = 0 := by simp at hj; exact hj
  exact cell_one_new W (.int .u8 (x.toNat : Int)) 5 0 _ rfl
theorem strL_app (a b : List UInt8) : strL a ++ strL b = strL (a ++ b) := by rw [strL_add]; rfl
set_option maxHeartbeats 1000000 in
theorem refNat (n : Int) (hn : n < 9223372036854775808) : Ans Try.prog 65 #[.int .i64 n] (.string (strL (enc n.toNat))) := by
  intro w
  have hl9 := enc_len9 (n := n.toNat) (by omega)
  go_enter Try.func65, Try.ntmps65
  go_wp2
  all_goals
    go_loopw [0, 3] (fun u s wr => ∃ (v : Nat) (cu : List UInt8), u = .int .i64 v ∧ s = .string (strL cu) ∧ v < 9223372036854775808 ∧ cu ++ enc v = enc n.toNat ∧ Below w.heap.size w wr) (fun u _ _ => (intOf u).toNat)
    case atStart => exact ⟨n.toNat, [], by first | (congr 1; omega) | (congr 1; simp; omega), rfl, by omega, rfl, Below.refl _ _⟩
    case round =>
      obtain ⟨v, cu, rfl, rfl, hv, hcu, hB⟩ := hrel
      have hlen : cu.length + (enc v).length = (enc n.toNat).length := by rw [← List.length_append, hcu]
      have HCU := Lib.hid hcu; clear hcu
      have hz : ∀ x, (strL cu).size + (strL [x]).size ≤ 9223372036854775807 := fun x => by rw [strL_size, strL_size]; simp; omega
      by_cases hv128 : v < 128
      · have hs := enc_small hv128
        have hx : IntKind.u8.wrap (v : Int) = ((UInt8.ofNat v).toNat : Int) := by
          rw [UInt8.toNat_ofNat', IntKind.wrap_u8]; omega
        have Hs := Lib.hid hs; clear hs
        generalize UInt8.ofNat v = x at *
        have hcv := conv_one wr x
        have hz := hz x
        generalize hB1 : strL cu = B at *
        generalize hX1 : strL [x] = B2 at *
        have HB1 := Lib.hid hB1; have HX1 := Lib.hid hX1; clear hB1 hX1
        go_wp2
        go_ret
        exact ⟨congrArg (fun s => Ending.returned (.string s)) (by rw [← HB1.out, ← HX1.out, strL_app, ← HCU.out, Hs.out]), hB.alloc hB.size _⟩
      · have hs := enc_great hv128
        have hx : IntKind.u8.wrap (128 + (v : Int) % 128) = ((UInt8.ofNat (128 + v % 128)).toNat : Int) := by
          rw [UInt8.toNat_ofNat', IntKind.wrap_u8]; omega
        have Hs := Lib.hid hs; clear hs
        generalize UInt8.ofNat (128 + v % 128) = x at *
        have hcv := conv_one wr x
        have hz := hz x
        have happ := strL_app cu [x]
        generalize hB1 : strL cu = B at *
        generalize hX1 : strL [x] = B2 at *
        clear hB1 hX1
        go_wp2
        go_roundw
        case rel => exact ⟨v / 128, cu ++ [x], by first | rfl | go_num | (congr 1; simp), by first | rfl | rw [happ], by omega, by rw [List.append_assoc, ← HCU.out, Hs.out]; rfl, hB.alloc hB.size _⟩
        case measure => simp [intOf]; omega
set_option maxHeartbeats 1000000 in
theorem refText (t : ByteArray) (hn : t.size ≤ 9223372036854775000) : Ans Try.prog 117 #[.string t] (.string (strL (enc t.size ++ t.data.toList))) := by
  intro w
  have C := Lib.hid (refNat t.size (by omega))
  have e := strL_add (enc t.size) t
  have h9 := enc_len 9 t.size (by omega)
  have hz : (strL (enc t.size)).size + t.size ≤ 9223372036854775807 := by rw [strL_size]; omega
  go_enter Try.func117, Try.ntmps117
  go_wp2_with fail
  refine (Ans.call C.out _).mono ?_
  rintro e w1 ⟨rfl, hb⟩
  rw [Int.toNat_natCast]
  generalize strL (enc t.size) = B at *
  go_wp2
  go_ret
  exact ⟨congrArg (fun s => Ending.returned (.string s)) (by first | rfl | rw [e]), hb⟩
end Go.Proofs.Ytpganpiidgkofaa
/- Layer 1, reading: numbers. -/
namespace Go.Proofs.Ytpganpiidgkofaa
open Go.RowKit
set_option linter.unusedVariables false
attribute [local go_sem] row_alloc row_drew row_drewN row_ext row_setCell row_setRow size_ext setRow_alloc setRow_drew
attribute [local go_sem high] cell_alloc frozen_alloc setCell_alloc cell_ext frozen_ext
/-- A number, at most so great. -/
def natS (s : Src) (most : Nat) : Nat × Src :=
  if s.dry = true then (0, dryS) else match dec most 0 0 s.left with
    | none => (0, dryS)
    | some (v, r) => (v, ⟨r, false⟩)
theorem rawS_one_nil {s : Src} (h : s.dry = true ∨ s.left = []) : rawS s 1 = ([], dryS) := by
  unfold rawS; rw [if_pos]; rcases h with h | h
  · exact .inl h
  · right; right; rw [h]; simp
theorem rawS_one {x : UInt8} {r : List UInt8} : rawS ⟨x :: r, false⟩ 1 = ([x], ⟨r, false⟩) := by
  unfold rawS; rw [if_neg (by simp; omega)]; rfl
theorem strL_one (x : UInt8) : ∀ h : 0 < (strL [x]).size, (strL [x])[0]'h = x := fun _ => rfl
theorem and_127 (x : UInt8) : bits .and .u8 (x.toNat : Int) 127 = ((x.toNat % 128 : Nat) : Int) := by
  have := u8_and_nat x.toNat 127 x.toNat_lt (by omega)
  rw [show ((127 : Nat) : Int) = 127 from rfl] at this
  rw [this, show (127 : Nat) = 2 ^ 7 - 1 from rfl, Nat.and_two_pow_sub_one_eq_mod]
theorem or_shift (un y q : Nat) (hu : un < 2 ^ q) (hy : y < 128) (hq : q ≤ 56) : bits .or .u64 (un : Int) ((y * 2 ^ q : Nat) : Int) = ((un + y * 2 ^ q : Nat) : Int) ∧ un + y * 2 ^ q < 9223372036854775808 := by
  have h2 : 2 ^ q ≤ 2 ^ 56 := Nat.pow_le_pow_right (by omega) hq
  have h3 : y * 2 ^ q ≤ 127 * 2 ^ q := Nat.mul_le_mul_right _ (by omega)
  have h4 : un + y * 2 ^ q < 9223372036854775808 := by omega
  refine ⟨?_, h4⟩
  rw [u64_or_nat _ _ (by omega) (by omega)]
  congr 1
  rw [Nat.or_comm, Nat.mul_comm, Nat.add_comm, Nat.two_pow_add_eq_or_of_lt hu]
theorem wrap_shift (y q : Nat) (hy : y < 128) (hq : q ≤ 56) : IntKind.u64.wrap ((y : Int) * 2 ^ q) = ((y * 2 ^ q : Nat) : Int) := by
  have h2 : 2 ^ q ≤ 2 ^ 56 := Nat.pow_le_pow_right (by omega) hq
  have h3 : y * 2 ^ q ≤ 127 * 2 ^ q := Nat.mul_le_mul_right _ (by omega)
  have e : (y : Int) * 2 ^ q = ((y * 2 ^ q : Nat) : Int) := by rw [Int.natCast_mul, Int.natCast_pow]; rfl
  rw [e, IntKind.wrap_u64]; omega
section
variable {W : World} {g : Nat} {s : Src}
theorem raw_none (h : row? W g = some (SV s)) (hs : s.dry = true ∨ s.left = []) :
    Calls Try.prog 105 #[.pointer (some ⟨g, 0, none⟩), .int .i64 1] W fun e w' => e = .returned (.string ⟨#[]⟩) ∧ row? w' g = some (SV dryS) ∧ Touch W w' g none ∧ w'.heap.size = W.heap.size := by
  have := raw_any h 1 (by omega)
  rw [rawS_one_nil hs] at this
  exact this
theorem raw_one {x : UInt8} {r : List UInt8} (h : row? W g = some (SV ⟨x :: r, false⟩)) :
    Calls Try.prog 105 #[.pointer (some ⟨g, 0, none⟩), .int .i64 1] W fun e w' => e = .returned (.string (strL [x])) ∧ row? w' g = some (SV ⟨r, false⟩) ∧ Touch W w' g none ∧ w'.heap.size = W.heap.size := by
  have := raw_any h 1 (by omega)
  rw [rawS_one] at this
  exact this
set_option maxRecDepth 4000 in
set_option maxHeartbeats 1000000 in
theorem nat_any (h : row? W g = some (SV s)) (most : Nat) (hm : most ≤ 1099511627776) :
    Calls Try.prog 82 #[.pointer (some ⟨g, 0, none⟩), .int .i64 most] W fun e w' => e = .returned (.int .i64 (natS s most).1) ∧ row? w' g = some (SV (natS s most).2) ∧ Touch W w' g none ∧ w'.heap.size = W.heap.size := by
  by_cases hd : s.dry = true
  · have hn : natS s most = (0, dryS) := by unfold natS; rw [if_pos hd]
    rw [hn]
    go_enter Try.func82, Try.ntmps82
    go_wp2
    go_loopw [5, 6] (fun u sh wr => wr = W ∧ u = .int .u64 0 ∧ sh = .int .i64 0) (fun _ _ _ => 0)
    case atStart => exact ⟨rfl, rfl, rfl⟩
    case round =>
      obtain ⟨rfl, rfl, rfl⟩ := hrel
      go_wp2_with fail
      refine (raw_none h (.inl hd)).mono ?_; rintro e w1 ⟨rfl, hr, hT, hz⟩
      go_wp2_with fail
      refine (stop_any hr).mono ?_; rintro e w2 ⟨rfl, hr2, hT2, hz2⟩
      go_wp2
      go_ret
      exact ⟨rfl, hr2, hT.trans (Fresh.refl _ _) hT2, hz2.trans hz⟩
  · have hd' : s.dry = false := by simpa using hd
    obtain ⟨left, dry⟩ := s
    obtain rfl : dry = false := hd'
    go_enter Try.func82, Try.ntmps82
    go_wp2
    go_loopw [5, 6] (fun u sh wr => ∃ (i q un : Nat) (cur : List UInt8), q = 7 * i ∧ i ≤ 9 ∧ sh = .int .i64 (q : Int) ∧ u = .int .u64 un ∧ row? wr g = some (SV ⟨cur, false⟩) ∧ Touch W wr g none ∧ wr.heap.size = W.heap.size ∧ un < 128 ^ i ∧ dec most i un cur = dec most 0 0 left) (fun _ sh _ => 70 - (intOf sh).toNat)
    case atStart => exact ⟨0, 0, 0, left, rfl, by omega, rfl, rfl, h, Touch.refl _ _ _, rfl, by simp, rfl⟩
    case round =>
      obtain ⟨i, q, un, cur, hq, hi, rfl, rfl, hrow, hT, hz, hun, hdec⟩ := hrel
      have Hq := Lib.hid hq; clear hq
      have Hdec := Lib.hid hdec; clear hdec
      have Hun := Lib.hid hun; clear hun
      match cur, hrow, Hdec with
      | [], hrow, Hdec =>
        have hn : natS ⟨left, false⟩ most = (0, dryS) := by
          unfold natS; rw [if_neg hd, ← Hdec.out]; rfl
        go_wp2_with fail
        refine (raw_none hrow (.inr rfl)).mono ?_; rintro e w1 ⟨rfl, hr, hT1, hz1⟩
        go_wp2_with fail
        refine (stop_any hr).mono ?_; rintro e w2 ⟨rfl, hr2, hT2, hz2⟩
        go_wp2
        go_ret
        rw [hn]
        exact ⟨rfl, hr2, (hT.trans (Fresh.refl _ _) hT1).trans (Fresh.refl _ _) hT2, (hz2.trans hz1).trans hz⟩
      | x :: rest, hrow, Hdec =>
        go_wp2_with fail
        refine (raw_one hrow).mono ?_; rintro e w1 ⟨rfl, hr, hT1, hz1⟩
        have hx1 := strL_one x
        have hx2 : (strL [x]).size = 1 := rfl
        have hx3 : ((strL [x]).toList == []) = false := by
          rw [show (strL [x]).toList = [x] from ByteArray.toList_mk [x]]; rfl
        generalize strL [x] = B at *
        by_cases h8 : 8 < i
        · have hn : natS ⟨left, false⟩ most = (0, dryS) := by
            unfold natS; rw [if_neg hd, ← Hdec.out]; simp [dec, h8]
          have h8' : (56 : Int) < (q : Int) := by have := Hq.out; omega
          clear h8
          go_wp2_with fail
          refine (stop_any hr).mono ?_; rintro e w2 ⟨rfl, hr2, hT2, hz2⟩
          go_wp2
          go_ret
          rw [hn]
          exact ⟨rfl, hr2, (hT.trans (Fresh.refl _ _) hT1).trans (Fresh.refl _ _) hT2, (hz2.trans hz1).trans hz⟩
        · have h8' : (q : Int) ≤ (56 : Int) := by have := Hq.out; omega
          have Hh8 := Lib.hid h8; clear h8
          have hqe : 2 ^ q = 128 ^ i := by rw [Hq.out, Nat.pow_mul]
          have hun2 : un < 2 ^ q := by rw [hqe]; exact Hun.out
          have hA := and_127 x
          have hy : x.toNat % 128 < 128 := by omega
          have hq56 : q ≤ 56 := by omega
          have hW1 : IntKind.u64.wrap ((x.toNat % 128 : Nat) : Int) = ((x.toNat % 128 : Nat) : Int) := IntWalk.u64_in _ (by omega)
          have hW2 := wrap_shift (x.toNat % 128) q hy hq56
          obtain ⟨hO, hv63⟩ := or_shift un (x.toNat % 128) q hun2 hy hq56
          obtain ⟨v, hv⟩ : ∃ v, v = un + x.toNat % 128 * 2 ^ q := ⟨_, rfl⟩
          rw [← hv] at hO hv63
          rw [hqe] at hv
          have Hv := Lib.hid hv; clear hv
          have hC : wrap64 (v : Int) = (v : Int) := by rw [← IntWalk.i64_left]; exact IntWalk.i64_in _ (by omega)
          have hxb := x.toNat_lt
          obtain ⟨z, hz9⟩ : ∃ z, z = x.toNat % 128 := ⟨_, rfl⟩
          rw [← hz9] at hA hW1 hW2 hO
          have Hz9 := Lib.hid hz9; clear hz9
          generalize hpw : z * 2 ^ q = pw at *
          clear hpw hun2 hqe hy
          clear hxb
          by_cases hx : x.toNat < 128
          · have hxi : (x.toNat : Int) < 128 := by omega
            have hz2 : z = x.toNat := by have := Hz9.out; omega
            by_cases hbad : x.toNat = 0 ∧ 0 < i ∨ most < v
            · have hn : natS ⟨left, false⟩ most = (0, dryS) := by
                unfold natS; rw [if_neg hd, ← Hdec.out]
                simp only [dec]
                rw [if_neg Hh8.out, if_pos hx, if_pos (by rw [← hz2, Hz9.out, ← Hv.out]; rw [← hz2, Hz9.out] at hbad; exact hbad)]
              have Hn := Lib.hid hn; clear hn
              have Hz2 := Lib.hid hz2; clear hz2
              have Hb := Lib.hid hbad; clear hbad
              have fin : ∀ {e w2}, (e = Ending.returned (.tuple #[]) ∧ row? w2 g = some (SV dryS) ∧ Touch w1 w2 g none ∧ w2.heap.size = w1.heap.size) → row? w2 g = some (SV (natS ⟨left, false⟩ most).2) ∧ Touch W w2 g none ∧ w2.heap.size = W.heap.size := by
                rintro e w2 ⟨-, hr2, hT2, hz2⟩
                rw [Hn.out]
                exact ⟨hr2, (hT.trans (Fresh.refl _ _) hT1).trans (Fresh.refl _ _) hT2, (hz2.trans hz1).trans hz⟩
              go_wp2_with fail
              all_goals first
                | (refine (stop_any hr).mono ?_; rintro e w2 ⟨rfl, hh⟩
                   go_wp2
                   go_ret
                   exact ⟨by rw [Hn.out]; rfl, fin ⟨rfl, hh⟩⟩)
                | (exfalso; have := Hb.out; have := Hq.out; omega)
            · have hn : natS ⟨left, false⟩ most = (v, ⟨rest, false⟩) := by
                unfold natS; rw [if_neg hd, ← Hdec.out]
                simp only [dec]
                rw [if_neg Hh8.out, if_pos hx, if_neg (by rw [← hz2, Hz9.out, ← Hv.out]; rw [← hz2, Hz9.out] at hbad; exact hbad)]
                rw [show un + x.toNat * 128 ^ i = v by rw [← hz2, Hz9.out, ← Hv.out]]
              have Hn := Lib.hid hn; clear hn
              have Hz2 := Lib.hid hz2; clear hz2
              have Hb := Lib.hid hbad; clear hbad
              have Hr := Lib.hid hr
              clear h hrow
              go_wp2_with fail
              all_goals first
                | (go_ret
                   rw [Hn.out]
                   exact ⟨rfl, Hr.out, hT.trans (Fresh.refl _ _) hT1, hz1.trans hz⟩)
                | (exfalso; have := Hb.out; have := Hq.out; omega)
          · have hxi : (128 : Int) ≤ (x.toNat : Int) := by omega
            have hrel2 : v < 128 ^ (i + 1) ∧ dec most (i + 1) v rest = dec most 0 0 left := by
              have hu := Hun.out
              have e1 := Hv.out
              constructor
              · rw [e1, Nat.pow_succ]
                have : x.toNat % 128 * 128 ^ i ≤ 127 * 128 ^ i := Nat.mul_le_mul_right _ (by omega)
                omega
              · rw [← Hdec.out]
                simp only [dec]
                rw [if_neg Hh8.out, if_neg hx, e1]
                have hxl := x.toNat_lt
                rw [show x.toNat % 128 = x.toNat - 128 by omega]
            have Hrel2 := Lib.hid hrel2; clear hrel2
            have Hr := Lib.hid hr; clear hr
            clear h hrow
            go_wp2
            go_roundw
            case rel => exact ⟨i + 1, q + 7, v, rest, by have := Hq.out; omega, by have := Hh8.out; omega, by go_num, rfl, Hr.out, hT.trans (Fresh.refl _ _) hT1, hz1.trans hz, Hrel2.out.1, Hrel2.out.2⟩
            case measure => simp [intOf]; omega
end
end Go.Proofs.Ytpganpiidgkofaa
/- Layer 1, reading: texts; whether something was missing; how much is left. -/
namespace Go.Proofs.Ytpganpiidgkofaa
open Go.RowKit
set_option linter.unusedVariables false
attribute [local go_sem] row_alloc row_drew row_drewN row_ext row_setCell row_setRow size_ext setRow_alloc setRow_drew
attribute [local go_sem high] cell_alloc frozen_alloc setCell_alloc cell_ext frozen_ext
/-- A text of at most so many bytes. -/
def textS (s : Src) (most : Nat) : List UInt8 × Src := rawS (natS s most).2 (natS s most).1
theorem natS_le (s : Src) (most : Nat) : (natS s most).1 ≤ most := by
  unfold natS; split
  · exact Nat.zero_le _
  · split
    · exact Nat.zero_le _
    · rename_i v r h
      obtain ⟨n, _, hm, _⟩ := dec_some most _ _ _ _ _ h
      exact hm
section
variable {W : World} {g : Nat} {s : Src}
set_option maxHeartbeats 1000000 in
theorem text_any (h : row? W g = some (SV s)) (most : Nat) (hm : most ≤ 1099511627776) :
    Calls Try.prog 124 #[.pointer (some ⟨g, 0, none⟩), .int .i64 most] W fun e w' => e = .returned (.string (strL (textS s most).1)) ∧ row? w' g = some (SV (textS s most).2) ∧ Touch W w' g none ∧ w'.heap.size = W.heap.size := by
  go_enter Try.func124, Try.ntmps124
  go_wp2_with fail
  refine (nat_any h most hm).mono ?_; rintro e w1 ⟨rfl, h1, T1, z1⟩
  have hl := natS_le s most
  go_wp2_with fail
  refine (raw_any h1 _ (by omega)).mono ?_; rintro e w2 ⟨rfl, h2, T2, z2⟩
  have H2 := Lib.hid h2; clear h2 h1 h
  go_wp2
  go_ret
  exact ⟨rfl, H2.out, T1.trans (Fresh.refl _ _) T2, z2.trans z1⟩
set_option maxHeartbeats 1000000 in
theorem dry_any (h : row? W g = some (SV s)) : Calls Try.prog 106 #[.pointer (some ⟨g, 0, none⟩)] W fun e w' => e = .returned (.bool s.dry) ∧ W = w' := by
  have hc := row_cell h
  unfold SV at hc
  clear h
  go_enter Try.func106, Try.ntmps106
  go_wp2
  go_ret
  exact ⟨rfl, rfl⟩
set_option maxHeartbeats 1000000 in
theorem left_any (h : row? W g = some (SV s)) : Calls Try.prog 109 #[.pointer (some ⟨g, 0, none⟩)] W fun e w' => e = .returned (.int .i64 s.left.length) ∧ W = w' := by
  have hc := row_cell h
  have hz := strL_size s.left
  unfold SV at hc
  clear h
  go_enter Try.func109, Try.ntmps109
  go_wp2
  go_ret
  exact ⟨rfl, rfl⟩
end
end Go.Proofs.Ytpganpiidgkofaa
