/- Layer 8: Lose. -/
import Derived.Test.YtdemkcfajeoaiaaPlateB
import Derived.Laws.BitsAllLaws
namespace Go.Proofs.Ytdemkcfajeoaiaa
open Go.RowKit
set_option linter.unusedVariables false
attribute [local go_sem] row_alloc row_drew row_drewN row_ext row_setCell row_setRow size_ext setRow_alloc setRow_drew
attribute [local go_sem high] cell_alloc frozen_alloc setCell_alloc cell_ext frozen_ext
def keptN (n safe : Nat) (keep : Int) : Nat := (min (max keep 0) ((n : Int) - safe)).toNat
def lost (data : List UInt8) (safe : Nat) (keep : Int) (spoil : UInt8) : List UInt8 :=
  let k := keptN data.length safe keep
  let d := data.take (safe + k)
  if k = 0 then d else d.set (safe + k - 1) (d.getD (safe + k - 1) 0 ^^^ spoil)
theorem kept_int (n safe : Nat) (keep : Int) (h : safe ≤ n) : (if (n : Int) - safe < if keep < 0 then 0 else keep then (n : Int) - safe else if keep < 0 then 0 else keep) = (keptN n safe keep : Int) := by
  unfold keptN; split <;> split at * <;> omega
theorem kept_le (n safe : Nat) (keep : Int) (h : safe ≤ n) : safe + keptN n safe keep ≤ n := by unfold keptN; omega
section
variable {W : World} {g : Nat} {b : Option Nat} {data : List UInt8} {safe : Nat}
set_option maxHeartbeats 2000000 in
theorem lose_any (h : PL W g b data safe) (hd : data.length ≤ 65536) (keep : Int) (hk : -9223372036854775808 ≤ keep ∧ keep ≤ 9223372036854775807) (spoil : UInt8) :
    Calls Try.prog 13 #[.pointer (some ⟨g, 0, none⟩), .int .i64 keep, .int .u8 spoil.toNat] W fun e w' =>
      e = .returned (.int .i64 0) ∧ PL w' g b (lost data safe keep spoil) (lost data safe keep spoil).length ∧ Touch W w' g b ∧ w'.heap.size = W.heap.size := by
  obtain ⟨v, hv, hr, ho, hs⟩ := h
  obtain ⟨A, c, rfl, hc, ho2⟩ := ho.cut (safe + keptN data.length safe keep) (kept_le _ _ _ hs)
  have hcl := row_cell hr
  have hfr := row_frozen hr
  have hki := kept_int data.length safe keep hs
  have hkl := kept_le data.length safe keep hs
  have Hr := Lib.hid hr; clear hr
  have Ho := Lib.hid ho; clear ho
  have Ho2 := Lib.hid ho2; clear ho2
  have Hki := Lib.hid hki; clear hki
  generalize hkk : keptN data.length safe keep = k at *
  go_enter Try.func13, Try.ntmps13
  go_wp2
  go_region
  rw [Hki.out]
  generalize (if keep < 0 then (0 : Int) else keep) = kk
  simp only [Exit.then]
  go_wp2
  go_region
  simp only [Exit.then]
  generalize hW1 : (W.setCell ⟨g, 0, none⟩ (.slice A (safe + k) c)).drew.drew = W1
  have T1 : Touch W W1 g none := by
    subst hW1; exact (grown_cell W g 0 _).drew.drew
  have hr1 : row? W1 g = some #[.slice A (safe + k) c, .int .i64 safe] := by
    subst hW1; rw [row_drew, row_drew, row_setCell, if_pos rfl, Hr.out]; rfl
  have hsz1 : W1.heap.size = W.heap.size := by subst hW1; simp [World.setCell, World.drew]
  have ho1 := T1.own Ho2.out (by omega)
  clear hW1 Ho Ho2 Hr hcl hfr
  have hcl := row_cell hr1
  have hfr := row_frozen hr1
  have Hr := Lib.hid hr1; clear hr1
  have eb : ∀ n c, (Value.slice A n c).ownBlock = (Value.slice A data.length c).ownBlock := by cases A <;> intros <;> rfl
  by_cases h0 : k = 0
  · subst h0
    have hlo : lost data safe keep spoil = data.take safe := by unfold lost; rw [hkk]; simp
    have Ho := Lib.hid ho1; clear ho1
    have Hlo := Lib.hid hlo; clear hlo
    simp only [Nat.add_zero] at Ho Hr hcl hfr hkl
    go_wp2
    go_ret
    have e1 : (data.take safe).length = safe := by rw [List.length_take]; omega
    rw [Hlo.out, e1]
    refine ⟨rfl, ⟨.slice A safe c, (eb _ _).trans hv, ?_, ?_, ?_⟩, (T1.trans (.refl _ _) (grown_cell _ _ _ _)).wide, ?_⟩
    · rw [row_setCell, if_pos rfl, Hr.out]
      show some _ = _
      simp
    · rw [e1]
      have := (grown_cell W1 g 1 (.int .i64 safe)).own Ho.out (by omega)
      simpa [bytesV] using this
    · rw [e1]; exact Nat.le_refl _
    · simpa [World.setCell] using hsz1
  · obtain ⟨g', rfl, hg'⟩ : ∃ g', A = some ⟨g', 0, none⟩ ∧ g + 1 ≤ g' := by
      rcases ho1.2 with ⟨e, h1⟩ | ⟨g', cap, cur, fz, e, hb, _⟩
      · omega
      · injection e with e1 e2 e3; exact ⟨g', e1, hb⟩
    have hcc : W1.cell? ⟨g', safe + k - 1, none⟩ = some (byteV (data.getD (safe + k - 1) 0)) := by
      rw [ho1.cellAt _ (by omega), List.getElem?_take, if_pos (by omega), bytesV, List.getElem?_map, List.getElem?_eq_getElem (by omega)]
      simp [List.getD, List.getElem?_eq_getElem (show safe + k - 1 < data.length by omega)]
    have hff : W1.frozen? ⟨g', safe + k - 1, none⟩ = false := ho1.frozenAt _ (by omega)
    have hlo : lost data safe keep spoil = (data.take (safe + k)).set (safe + k - 1) (data.getD (safe + k - 1) 0 ^^^ spoil) := by
      unfold lost; rw [hkk]; simp only [if_neg h0]
      congr 2
      simp only [List.getD, List.getElem?_take, if_pos (show safe + k - 1 < safe + k by omega)]
    obtain ⟨q, hq⟩ : ∃ q, safe + k = q + 1 := ⟨safe + k - 1, by omega⟩
    rw [hq] at Hr hcl hcc hff ho1 hlo hkl
    rw [hq]
    have hkpos : (0 : Int) < (k : Int) := by omega
    simp only [Nat.add_sub_cancel] at hcc hff hlo
    generalize data.getD q 0 = x at *
    have Hlo := Lib.hid hlo; clear hlo
    have Ho := Lib.hid ho1; clear ho1
    have Eb := Lib.hid eb; clear eb
    have Hv := Lib.hid hv; clear hv
    have HT := Lib.hid T1; clear T1
    unfold byteV at hcc
    have hq2 : q < 65536 := by omega
    clear hc hkk
    go_wp2
    go_region
    simp only [Exit.then]
    rw [show bits .xor .u8 (x.toNat : Int) (spoil.toNat : Int) = ((x ^^^ spoil).toNat : Int) from by
      rw [u8_xor_nat _ _ x.toNat_lt spoil.toNat_lt]; simp]
    generalize x ^^^ spoil = y at *
    generalize hW2 : (W1.setCell ⟨g', q, none⟩ (.int .u8 y.toNat)).drew = W2
    have T2 : Touch W1 W2 g' none := by subst hW2; exact (grown_cell W1 g' q _).drew
    have ho2 : OwnR W2 (g + 1) 5 (.slice (some ⟨g', 0, none⟩) (q + 1) c) (q + 1) (((bytesV data).take (q + 1)).set q (byteV y)) := by
      subst hW2; exact Ho.out.stored q (byteV y)
    have hr2 : row? W2 g = some #[.slice (some ⟨g', 0, none⟩) (q + 1) c, .int .i64 safe] := T2.row Hr.out (by omega) (by simp)
    have hsz2 : W2.heap.size = W1.heap.size := by subst hW2; simp [World.setCell, World.drew]
    clear hW2 hcc hff hcl hfr Ho Hr
    have hcl := row_cell hr2
    have hfr := row_frozen hr2
    have Hr := Lib.hid hr2; clear hr2
    have Ho := Lib.hid ho2; clear ho2
    have HT2 := Lib.hid T2; clear T2
    go_wp2
    go_ret
    obtain rfl : some g' = b := Hv.out
    have T3 := grown_cell W2 g 1 (.int .i64 (↑q + 1))
    have e1 : (lost data safe keep spoil).length = q + 1 := by rw [Hlo.out, List.length_set, List.length_take]; omega
    have eT : Touch W (W2.setCell ⟨g, 1, none⟩ (.int .i64 (↑q + 1))) g (some g') := by
      have A := HT.out; have B := HT2.out
      refine ⟨(T3.os.trans B.os).trans A.os, (T3.tape.trans B.tape).trans A.tape, (T3.output.trans B.output).trans A.output, ?_, fun j hj hg1 hb1 => ?_⟩
      · have := A.size; have := B.size; have := T3.size; omega
      · have h1 := A.block j hj hg1 (by simp)
        have h2 := B.block j (by omega) (fun e => hb1 (by rw [e])) (by simp)
        have h3 := T3.block j (by omega) hg1 (by simp)
        exact (h3.trans h2).trans h1
    refine ⟨rfl, ⟨.slice (some ⟨g', 0, none⟩) (q + 1) c, rfl, ?_, ?_, ?_⟩, eT, ?_⟩
    · rw [row_setCell, if_pos rfl, Hr.out, e1]
      show some _ = _
      simp
    · rw [e1]
      have := T3.own Ho.out (by omega)
      rw [Hlo.out]
      have e2 : bytesV ((data.take (q + 1)).set q y) = ((bytesV data).take (q + 1)).set q (byteV y) := by
        unfold bytesV; rw [List.map_set, List.map_take]
      rw [e2]; exact this
    · rw [e1]; exact Nat.le_refl _
    · show _ = _
      have : (W2.setCell ⟨g, 1, none⟩ (.int .i64 (↑q + 1))).heap.size = W2.heap.size := by simp [World.setCell]
      omega
end
end Go.Proofs.Ytdemkcfajeoaiaa
