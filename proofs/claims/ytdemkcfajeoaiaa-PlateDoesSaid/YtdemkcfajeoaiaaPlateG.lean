/- Layer 8: the walk of PlateKeeps. -/
import Derived.Test.YtdemkcfajeoaiaaPlateE
import Derived.Test.YtdemkcfajeoaiaaTexts
namespace Go.Proofs.Ytdemkcfajeoaiaa
open Go.RowKit
set_option linter.unusedVariables false
attribute [local go_sem] row_alloc row_drew row_drewN row_ext row_setCell row_setRow size_ext setRow_alloc setRow_drew
attribute [local go_sem high] cell_alloc frozen_alloc setCell_alloc cell_ext frozen_ext
def strL (l : List UInt8) : ByteArray := ⟨l.toArray⟩
theorem strL_add (l : List UInt8) (s : ByteArray) : strL l ++ s = strL (l ++ s.data.toList) := by
  cases s; simp [strL, ByteArray.ext_iff]
theorem strL_size (l : List UInt8) : (strL l).size = l.length := by simp [strL, ByteArray.size]
theorem strL_take (l : List UInt8) (n : Nat) : (strL l).extract 0 n = strL (l.take n) := by
  apply ByteArray.ext; simp [strL, ByteArray.data_extract]
theorem lost_len (D : List UInt8) (sf : Nat) (keep : Int) (x : UInt8) (h : sf ≤ D.length) : (lost D sf keep x).length = sf + keptN D.length sf keep := by
  have := kept_le D.length sf keep h
  unfold lost; dsimp only; split <;> simp <;> omega
theorem lost_head (D : List UInt8) (sf : Nat) (keep : Int) (x : UInt8) (h : sf ≤ D.length) : (lost D sf keep x).take sf = D.take sf := by
  have := kept_le D.length sf keep h
  unfold lost; dsimp only; split
  · rw [List.take_take]; congr 1; omega
  · rw [List.take_set_of_le (by omega), List.take_take]; congr 1; omega
theorem lost_most (D : List UInt8) (sf : Nat) (keep : Int) (x : UInt8) (q : Nat) (h : sf ≤ D.length) (hq : keptN D.length sf keep = q + 1) : (lost D sf keep x).take (sf + q) = D.take (sf + q) := by
  unfold lost; rw [hq]; simp only [Nat.add_one_ne_zero, if_false]
  rw [List.take_set_of_le (by omega), List.take_take]; congr 1; omega
theorem lost_last (D : List UInt8) (sf : Nat) (keep : Int) (x : UInt8) (q : Nat) (h : sf ≤ D.length) (hq : keptN D.length sf keep = q + 1) : (lost D sf keep x)[sf + q]? = some (D.getD (sf + q) 0 ^^^ x) := by
  have := kept_le D.length sf keep h
  unfold lost; rw [hq]; simp only [Nat.add_one_ne_zero, if_false]
  rw [show sf + (q + 1) - 1 = sf + q by omega, List.getElem?_set_self (by rw [List.length_take]; omega)]
  simp only [List.getD, List.getElem?_take, if_pos (show sf + q < sf + (q + 1) by omega)]
set_option maxHeartbeats 4000000 in
theorem law_keeps (A : Option Addr) (c : Nat) (l : List ByteArray) (synced keep : Int) (hy : -9223372036854775808 ≤ synced ∧ synced ≤ 9223372036854775807) (hk : -9223372036854775808 ≤ keep ∧ keep ≤ 9223372036854775807) (spoil : UInt8) (w : World) (hx : TextsIn w A l) :
    Calls Try.prog 4 #[.slice A l.length c, .int .i64 synced, .int .i64 keep, .int .u8 spoil.toNat] w fun e w' => e = .returned (.bool true) ∧ Below w.heap.size w w' := by
  go_enter Try.func4, Try.ntmps4
  go_wp2_with fail
  refine (alive_any _).mono ?_; rintro e w1 ⟨rfl, hb1⟩
  go_wp2
  go_loop [9, 23] (fun n i => ∃ k : Nat, k ≤ l.length ∧ i = .int .i64 k ∧ n = .int .i64 (cat (l.take k)).length ∧ (0 < k → l.length ≤ 60) ∧ (cat (l.take k)).length ≤ 16384) (fun _ i => l.length - (intOf i).toNat)
  case atStart => exact ⟨0, by omega, rfl, by simp [cat], by omega, by simp [cat]⟩
  case round =>
    obtain ⟨k, hkl, rfl, rfl, h60, hct⟩ := hrel
    by_cases hk2 : k < l.length
    · cases A with
      | none => have := hx.nil rfl; subst this; simp at hk2
      | some a =>
        have hcell := hx.at hb1 rfl hk2
        have hsz := hx.size _ (List.getElem_mem hk2)
        have hll := hx.len
        have hs2 : (cat (l.take (k + 1))).length = (cat (l.take k)).length + l[k].size := by
          rw [cat_succ l k hk2, List.length_append]
          congr 1
        have Hs := Lib.hid hs2; clear hs2
        generalize l[k] = s at *
        generalize (cat (l.take k)).length = m at *
        go_wp2
        all_goals first
          | (go_ret; exact ⟨rfl, hb1⟩)
          | (go_round
             case rel => exact ⟨k + 1, by omega, by go_num, by rw [Hs.out]; rfl, by omega, by rw [Hs.out]; omega⟩
             case measure => simp [intOf]; omega)
    · obtain rfl : k = l.length := by omega
      rw [List.take_length] at hct ⊢
      have h60' : l.length ≤ 60 := by omega
      clear h60 hk2 hkl
      go_wp2_with fail
      refine (new_ps hb1).mono ?_; rintro e w2 ⟨rfl, hp⟩
      have hgl : w1.heap.size = w1.heap.size := rfl
      generalize w1.heap.size = g at *
      go_wp2
      go_loopw [42, 13, 14] (fun i s al wr => ∃ k sf : Nat, k ≤ l.length ∧ i = .int .i64 k ∧ al = .string (strL (cat (l.take k))) ∧ s = .string (strL ((cat (l.take k)).take sf)) ∧ sf ≤ (cat (l.take k)).length ∧ PS w wr g (cat (l.take k)) sf) (fun i _ _ _ => l.length - (intOf i).toNat)
      case atStart => exact ⟨0, 0, by omega, rfl, by simp [cat, strL], by simp [cat, strL], by omega, by simpa [cat] using hp⟩
      case round =>
        obtain ⟨k, sf, hkl, rfl, rfl, rfl, hsf, hps⟩ := hrel
        by_cases hk2 : k < l.length
        · cases A with
          | none => have := hx.nil rfl; subst this; simp at hk2
          | some a =>
            have hcell := hx.at hps.1 rfl hk2
            have hct2 := cat_le l (k + 1)
            have hs2 := cat_succ l k hk2
            have hsz : (cat [l[k]]).length = l[k].data.toList.length := by simp [cat]
            have hct3 : cat [l[k]] = l[k].data.toList := by simp [cat]
            rw [hs2, List.length_append] at hct2
            have Hs := Lib.hid hs2; clear hs2
            have Hct3 := Lib.hid hct3; clear hct3
            have Hsz := Lib.hid hsz; clear hsz
            have hszz : l[k].data.toList.length = l[k].size := by rw [Array.length_toList]; rfl
            rw [hszz] at hct2
            have Hszz := Lib.hid hszz; clear hszz
            generalize l[k] = s at *
            generalize cat (l.take k) = m at *
            go_wp2_with fail
            refine (append_lit hps [s] 9 (by simp) (by omega) (by rw [Hsz.out, Hszz.out]; omega)).mono ?_
            rintro e w4 ⟨d4, r4, rfl, hp4, hc4⟩
            rw [if_pos (by rw [Hsz.out, Hszz.out]; omega)] at hc4
            obtain ⟨rfl, rfl⟩ := hc4
            rw [Hct3.out] at hp4
            clear hps hcell
            have hadd := strL_add m s
            have hmz := strL_size m
            have hct4 : m.length + s.size ≤ 16384 := by omega
            by_cases hky : (k : Int) = synced
            · go_wp2_with fail
              refine (sync_ps hp4).mono ?_; rintro e w5 ⟨rfl, hp5⟩
              have HP := Lib.hid hp5; clear hp5 hp4
              go_wp2
              go_roundw
              case rel =>
                refine ⟨k + 1, _, by omega, by go_num, ?_, ?_, ?_, by rw [Hs.out]; exact HP.out⟩
                · rw [Hs.out]
                · rw [Hs.out, List.take_length]
                · rw [Hs.out]; exact Nat.le_refl _
              case measure => simp [intOf]; omega
            · have HP := Lib.hid hp4; clear hp4
              go_wp2
              go_roundw
              case rel =>
                refine ⟨k + 1, sf, by omega, by go_num, ?_, ?_, ?_, by rw [Hs.out]; exact HP.out⟩
                · rw [Hs.out]
                · rw [Hs.out, List.take_append_of_le_length hsf]
                · rw [Hs.out, List.length_append]; omega
              case measure => simp [intOf]; omega
        · obtain rfl : k = l.length := by omega
          rw [List.take_length] at hps hsf
          rw [List.take_length]
          clear hk2 hkl hp hx
          generalize cat l = D at *
          go_wp2_with fail
          refine (lose_ps hps (by omega) keep hk spoil).mono ?_; rintro e w5 ⟨rfl, hp5⟩
          go_wp2_with fail
          refine (read_ps hp5).mono ?_; rintro e w6 ⟨rfl, rfl⟩
          have hL := lost_len D sf keep spoil hsf
          have hKl := kept_le D.length sf keep hsf
          have hKi := kept_int D.length sf keep hsf
          have e1 : (strL (lost D sf keep spoil)).extract 0 sf = strL (D.take sf) := by rw [strL_take, lost_head _ _ _ _ hsf]
          have z1 : (strL (lost D sf keep spoil)).size = sf + keptN D.length sf keep := by rw [strL_size, hL]
          have z2 : (strL (D.take sf)).size = sf := by rw [strL_size, List.length_take]; omega
          have z3 : (strL D).size = D.length := strL_size D
          rw [hL] at hp5
          rw [show (⟨(lost D sf keep spoil).toArray⟩ : ByteArray) = strL (lost D sf keep spoil) from rfl]
          have HKi := Lib.hid hKi; clear hKi
          have HL := Lib.hid hL; clear hL
          have hmost := lost_most D sf keep spoil
          have hlast := lost_last D sf keep spoil
          generalize keptN D.length sf keep = K at *
          cases K with
          | zero =>
            clear hmost hlast
            have e2 : (strL D).extract 0 sf = strL (D.take sf) := strL_take D sf
            generalize strL (lost D sf keep spoil) = B at *
            generalize strL (D.take sf) = Sx at *
            generalize strL D = Dx at *
            simp only [Nat.add_zero] at z1 hp5
            go_wp2_with fail
            refine (safe_ps hp5).mono ?_; rintro e w7 ⟨rfl, rfl⟩
            have HP := Lib.hid hp5; clear hp5 hps
            go_wp2
            have hl1 : (sf : Int) ≤ (D.length : Int) := by omega
            go_quiet (fail)
            rw [HKi.out]
            generalize (if keep < 0 then (0 : Int) else keep) = kk
            simp only [Exit.then]
            go_wp2
            go_ret
            exact ⟨by simp, below_drewN HP.out.1 nq⟩
          | succ q =>
            have e2 : (strL (lost D sf keep spoil)).extract 0 (sf + q) = strL (D.take (sf + q)) := by rw [strL_take, hmost q hsf rfl]
            have e3 : (strL D).extract 0 (sf + q) = strL (D.take (sf + q)) := strL_take D (sf + q)
            have hl := hlast q hsf rfl
            have hl1 : ((sf : Int) ≤ (D.length : Int)) := by omega
            have hl2 : sf + q < D.length := by omega
            have g1 : (strL (lost D sf keep spoil)).data[sf + q]? = some (D.getD (sf + q) 0 ^^^ spoil) := by
              simp only [strL, List.getElem?_toArray]; exact hl
            have g2 : (strL D).data[sf + q]? = some (D.getD (sf + q) 0) := by
              simp only [strL, List.getElem?_toArray, List.getD]; rw [List.getElem?_eq_getElem hl2]; rfl
            generalize D.getD (sf + q) 0 = x at *
            clear hmost hlast hl
            generalize strL (lost D sf keep spoil) = B at *
            generalize strL (D.take sf) = Sx at *
            generalize strL (D.take (sf + q)) = Tx at *
            generalize strL D = Dx at *
            have z4 : B.size = sf + q + 1 := by omega
            clear z1
            have hq1 : sf ≤ sf + q := by omega
            replace hp5 : PS w w5 g (lost D sf keep spoil) (sf + q + 1) := hp5
            go_wp2_with fail
            refine (safe_ps hp5).mono ?_; rintro e w7 ⟨rfl, rfl⟩
            have HP := Lib.hid hp5; clear hp5 hps
            go_wp2
            obtain ⟨r, hr⟩ : ∃ r, sf + q = r := ⟨_, rfl⟩
            have er : (sf : Int) + (q : Int) = (r : Int) := by omega
            rw [er]
            rw [hr] at e2 e3 g1 g2 z4 hl2
            have hi1 : (r : Int) < (r : Int) + 1 := by omega
            have hi2 : (r : Int) < (D.length : Int) := by omega
            have hi3 : (r : Int) ≤ (D.length : Int) := by omega
            have hi4 : (r : Int) ≤ (r : Int) + 1 := by omega
            have hne : ((r : Int) + 1 == (sf : Int)) = false := by
              rw [beq_eq_false_iff_ne]; omega
            have hB : ∀ h : r < B.size, B[r]'h = x ^^^ spoil := fun h => (Array.getElem?_eq_some_iff.1 g1).2
            have hD : ∀ h : r < Dx.size, Dx[r]'h = x := fun h => (Array.getElem?_eq_some_iff.1 g2).2
            have hbx : bits .xor .u8 (x.toNat : Int) (spoil.toNat : Int) = ((x ^^^ spoil).toNat : Int) := by
              rw [u8_xor_nat _ _ x.toNat_lt spoil.toNat_lt]; simp
            generalize x ^^^ spoil = y at *
            have Er := Lib.hid er; clear er
            clear hq1 hr g1 g2
            go_quiet (fail)
            rw [HKi.out]
            generalize (if keep < 0 then (0 : Int) else keep) = kk
            simp only [Exit.then]
            go_wp2
            go_ret
            refine ⟨?_, below_drewN HP.out.1 nq⟩
            have eq : ((r : Int) + 1 == (sf : Int) + ((q + 1 : Nat) : Int)) = true := by
              rw [beq_iff_eq]; have := Er.out; omega
            rw [eq]
            rfl
end Go.Proofs.Ytdemkcfajeoaiaa
