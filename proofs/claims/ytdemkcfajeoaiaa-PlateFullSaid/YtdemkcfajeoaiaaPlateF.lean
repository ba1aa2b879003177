/- Layer 8: the walk of PlateFull. -/
import Derived.Test.YtdemkcfajeoaiaaPlateE
import Derived.Deep.OwnRows
import Derived.Deep.RegionWith
namespace Go.Proofs.Ytdemkcfajeoaiaa
open Go.RowKit
set_option linter.unusedVariables false
attribute [local go_sem] row_alloc row_drew row_drewN row_ext row_setCell row_setRow size_ext setRow_alloc setRow_drew
attribute [local go_sem high] cell_alloc frozen_alloc setCell_alloc cell_ext frozen_ext
def zerosS (n : Nat) : ByteArray := ⟨(List.replicate n 0).toArray⟩
theorem conv_zeros (n : Nat) (W : World) (g : Nat) (h : row? W g = some (madeCells #[.int .u8 0] n)) : (convert 25 9 (.slice (some ⟨g, 0, none⟩) n n)).run Try.prog W = .ok (.string (zerosS n)) W := by
  have hc := row_cell h
  have := run_convert_bytes_back W _ _ _ ⟨g, 0, none⟩ n (List.replicate n 0) Try.underlying25 Try.underlying5 Try.underlying9 (fun j hj => by
    have hadd : (⟨g, 0, none⟩ : Addr).add j = ⟨g, j, none⟩ := by unfold Addr.add; split <;> simp_all
    have hj2 : j < n := by simpa using hj
    rw [hadd, hc]
    simp [madeCells, hj2, Nat.mod_one])
  simpa [zerosS] using this
set_option maxHeartbeats 4000000 in
theorem law_full (a b : Int) (ha : -9223372036854775808 ≤ a ∧ a ≤ 9223372036854775807) (hb : -9223372036854775808 ≤ b ∧ b ≤ 9223372036854775807) : Ans Try.prog 3 #[.int .i64 a, .int .i64 b] (.bool true) := by
  intro w
  by_cases hr : 0 ≤ a ∧ a ≤ 65536 ∧ 0 ≤ b ∧ b ≤ 131072
  · obtain ⟨n, rfl⟩ : ∃ n : Nat, a = n := ⟨a.toNat, by omega⟩
    obtain ⟨m, rfl⟩ : ∃ m : Nat, b = m := ⟨b.toNat, by omega⟩
    have hn : n ≤ 65536 := by omega
    have hm : m ≤ 131072 := by omega
    have hk1 := run_make_row' (P := Try.prog) 25 5 (.int .u8 0) 1 Try.underlying25 plate_info rfl .i64 .i64 n (by omega) (by omega)
    have hk2 := run_make_row' (P := Try.prog) 25 5 (.int .u8 0) 1 Try.underlying25 plate_info rfl .i64 .i64 m (by omega) (by omega)
    have hv1 := conv_zeros n
    have hv2 := conv_zeros m
    go_enter Try.func3, Try.ntmps3
    go_wp2_with fail
    refine (alive_any _).mono ?_; rintro e w1 ⟨rfl, hb1⟩
    go_wp2_with fail
    refine (new_ps hb1).mono ?_; rintro e w2 ⟨rfl, hp⟩
    go_wp2
    go_region
    all_goals
      simp only [Exit.then]
      generalize hW : World.drew _ = w3
      have hp3 : PS w w3 w1.heap.size [] 0 := by subst hW; exact ((hp.alloc _).alloc _).drew
      clear hW hp
      have hz1 : (cat [zerosS n]).length = n := by simp [cat, zerosS]
      go_wp2_with fail
      refine (append_lit hp3 [zerosS n] 9 (by simp) (by simp) (by rw [hz1]; omega)).mono ?_
      rintro e w4 ⟨d4, r4, rfl, hp4, hc4⟩
      rw [if_pos (by rw [hz1]; simp; omega)] at hc4
      obtain ⟨rfl, rfl⟩ := hc4
      have Hz1 := Lib.hid hz1; clear hz1
      clear hk1 hk2 hv1 hv2 hp3
      go_wp2
      have hw : IntKind.i64.wrap ((m : Int) / 2) = ((m / 2 : Nat) : Int) := by
        rw [show (m : Int) / 2 = ((m / 2 : Nat) : Int) from by omega]
        exact IntWalk.i64_in _ (by omega)
      have hh1 : m / 2 ≤ m := by omega
      have hsz : (zerosS m).size = m := by simp [zerosS, ByteArray.size]
      generalize m / 2 = q at *
      have hh2 : ((q : Nat) : Int) ≤ ((m : Nat) : Int) := by omega
      generalize zerosS m = ys at *
      have hz2 : (cat [ys.extract 0 q, ys.extract q m]).length = m := by
        simp only [cat, List.flatMap_cons, List.flatMap_nil, List.append_nil, List.length_append, Array.length_toList]
        have e1 : (ys.extract 0 q).size = q := by rw [ByteArray.size_extract]; omega
        have e2 : (ys.extract q m).size = m - q := by rw [ByteArray.size_extract]; omega
        have e3 : (ys.extract 0 q).data.size = q := e1
        have e4 : (ys.extract q m).data.size = m - q := e2
        omega
      have hdl : ([] ++ cat [zerosS n]).length = n := by rw [List.nil_append]; exact Hz1.out
      have Hdl := Lib.hid hdl; clear hdl
      have Hz2 := Lib.hid hz2; clear hz2
      generalize ([] ++ cat [zerosS n]) = d4 at *
      go_region_with (go_at_call 9; refine (append_lit_drew hp4 [ys.extract 0 q, ys.extract q m] _ ?c1 ?c2 ?c3).mono ?_; (case c1 => simp); (case c2 => rw [Hdl.out]; exact hn); (case c3 => rw [Hz2.out]; omega); rintro e w5 ⟨d5, r5, rfl, hp5, hc5⟩)
      all_goals
        simp only [Exit.then]
        by_cases hle : n + m ≤ 65536
        · replace hc5 := hc5.out
          rw [if_pos (by rw [Hdl.out, Hz2.out]; exact hle)] at hc5
          obtain ⟨rfl, hd⟩ := hc5
          have hl5 : d5.length = n + m := by rw [hd, List.length_append, Hdl.out, Hz2.out]
          clear hd hw hh1 hh2 hsz
          go_wp2_with fail
          refine (len_ps hp5).mono ?_; rintro e w6 ⟨rfl, rfl⟩
          rw [hl5]
          go_wp2_with fail
          refine (safe_ps hp5).mono ?_; rintro e w6 ⟨rfl, rfl⟩
          have HP := Lib.hid hp5; clear hp5
          go_wp2
          go_ret
          refine ⟨?_, HP.out.1⟩
          rfl
        · replace hc5 := hc5.out
          rw [if_neg (by rw [Hdl.out, Hz2.out]; exact hle)] at hc5
          obtain ⟨rfl, hd⟩ := hc5
          have hl5 : d5.length = n := by rw [hd, Hdl.out]
          clear hd hw hh1 hh2 hsz
          go_wp2_with fail
          refine (len_ps hp5).mono ?_; rintro e w6 ⟨rfl, rfl⟩
          rw [hl5]
          have HP := Lib.hid hp5; clear hp5
          go_wp2
          go_ret
          refine ⟨?_, HP.out.1⟩
          rfl
  · have hs : (decide (a < 0) || decide (65536 < a) || decide (b < 0) || decide (131072 < b)) = true := by
      simp only [Bool.or_eq_true, decide_eq_true_eq]; omega
    go_enter Try.func3, Try.ntmps3
    go_wp2_with fail
    refine (alive_any _).mono ?_; rintro e w1 ⟨rfl, hb1⟩
    go_wp2
    all_goals first | (go_ret; exact ⟨rfl, hb1⟩) | (exfalso; simp only [Bool.or_eq_true, decide_eq_true_eq] at hs; omega)
end Go.Proofs.Ytdemkcfajeoaiaa
