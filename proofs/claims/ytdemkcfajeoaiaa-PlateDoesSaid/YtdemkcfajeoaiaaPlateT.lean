/- Layer 8: what no plate answers; whether a script is too great. -/
import Derived.Test.YtdemkcfajeoaiaaPlateS
import Derived.Test.YtdemkcfajeoaiaaTPCall
import Derived.Test.YtdemkcfajeoaiaaRowsIn
namespace Go.Proofs.Ytdemkcfajeoaiaa
open Go.RowKit
set_option linter.unusedVariables false
attribute [local go_sem] row_alloc row_drew row_drewN row_ext row_setCell row_setRow size_ext setRow_alloc setRow_drew loadOf storeOf piece_lit loadVal_at storeVal_at allOne_lit buildOf buildRes_some
attribute [local go_sem high] cell_alloc frozen_alloc setCell_alloc cell_ext frozen_ext cell_setRow frozen_setRow
attribute [local go_sem ↓] TPCall_ld0 TPCall_st0 TPCall_fd0 TPCall_bd0
attribute [local go_sem] TPCall_size TPCall_one TPCall_piece TPCall_c0 TPCall_c1 TPCall_c2 TPCall_c3 TPCall_set_kind TPCall_set_text TPCall_set_n TPCall_set_spoil TPCall_ld TPCall_st TPCall_f_kind TPCall_f_text TPCall_f_n TPCall_f_spoil TPCall_bd TPCall_fl TPCall_fl_kind TPCall_fl_text TPCall_fl_n TPCall_fl_spoil
attribute [local go_sem high] TPCall_eql TPCall_neq
set_option maxHeartbeats 1000000
theorem append_none (A : Option Addr) (n c : Nat) : Ans Try.prog 9 #[.pointer none, .slice A n c] (.int .i64 2) := by
  intro w
  go_enter Try.func9, Try.ntmps9
  go_wp2
  go_ret
  exact ⟨rfl, Below.refl _ _⟩
theorem sync_none : Ans Try.prog 12 #[.pointer none] (.int .i64 2) := by
  intro w
  go_enter Try.func12, Try.ntmps12
  go_wp2
  go_ret
  exact ⟨rfl, Below.refl _ _⟩
theorem replace_none (s : ByteArray) : Ans Try.prog 18 #[.pointer none, .string s] (.int .i64 2) := by
  intro w
  go_enter Try.func18, Try.ntmps18
  go_wp2
  go_ret
  exact ⟨rfl, Below.refl _ _⟩
theorem lose_none (k x : Int) : Ans Try.prog 13 #[.pointer none, .int .i64 k, .int .u8 x] (.int .i64 2) := by
  intro w
  go_enter Try.func13, Try.ntmps13
  go_wp2
  go_ret
  exact ⟨rfl, Below.refl _ _⟩
theorem read_none : Ans Try.prog 14 #[.pointer none] (.string ⟨#[]⟩) := by
  intro w
  go_enter Try.func14, Try.ntmps14
  go_wp2
  go_ret
  exact ⟨rfl, Below.refl _ _⟩
theorem len_none : Ans Try.prog 10 #[.pointer none] (.int .i64 0) := by
  intro w
  go_enter Try.func10, Try.ntmps10
  go_wp2
  go_ret
  exact ⟨rfl, Below.refl _ _⟩
theorem safe_none : Ans Try.prog 11 #[.pointer none] (.int .i64 0) := by
  intro w
  go_enter Try.func11, Try.ntmps11
  go_wp2
  go_ret
  exact ⟨rfl, Below.refl _ _⟩
def totalP (l : List PCall) : Nat := (l.map fun c => c.text.size).sum
theorem totalP_succ (l : List PCall) (k : Nat) (h : k < l.length) : totalP (l.take (k + 1)) = totalP (l.take k) + l[k].text.size := by
  unfold totalP; rw [List.take_succ_eq_append_getElem h, List.map_append, List.sum_append]; simp
set_option maxHeartbeats 4000000 in
theorem great8 {w : World} (A : Option Addr) (c : Nat) (l : List PCall) (hx : RowsIn w A 4 PCV l) (hs : ∀ x ∈ l, x.text.size ≤ 140737488351232) {W : World} (hb : Below w.heap.size w W) :
    Calls Try.prog 15 #[.slice A l.length c] W fun e W' => ∃ b, e = .returned (.bool b) ∧ (b = false → totalP l ≤ 131072 ∧ l.length ≤ 60) ∧ Below w.heap.size w W' := by
  have hll := hx.len
  have hu : Try.prog.underlying 42 = some (.struct (Try.prog.fieldsOf 42)) := TPCall_und
  go_enter Try.func15, Try.ntmps15
  go_wp2
  go_loopw [3, 8] (fun n i wr => ∃ k : Nat, k ≤ l.length ∧ i = .int .i64 k ∧ n = .int .i64 (totalP (l.take k)) ∧ totalP (l.take k) ≤ 131072 ∧ Below w.heap.size w wr) (fun _ i _ => l.length - (intOf i).toNat)
  case atStart => exact ⟨0, by omega, rfl, rfl, by simp [totalP], hb⟩
  case round =>
    obtain ⟨k, hk, rfl, rfl, ht, hB⟩ := hrel
    by_cases hkl : k < l.length
    · cases A with
      | none => have := hx.nil rfl; subst this; simp at hkl
      | some a =>
        have hld := hx.load (P := Try.prog) (T := 42) TPCall_size hu rfl (by kernel_rfl) hB rfl hkl
        have hsz := hs l[k] (List.getElem_mem hkl)
        have hs2 := totalP_succ l k hkl
        have Hs := Lib.hid hs2; clear hs2
        generalize l[k] = x at *
        generalize totalP (l.take k) = m at *
        go_wp2
        all_goals first
          | (go_ret; exact ⟨true, rfl, fun h => (by cases h), hB.alloc hB.size _⟩)
          | (go_roundw
             case rel => exact ⟨k + 1, by omega, by go_num, by rw [Hs.out]; rfl, by rw [Hs.out]; omega, hB.alloc hB.size _⟩
             case measure => simp [intOf]; omega)
    · obtain rfl : k = l.length := by omega
      rw [List.take_length] at ht
      go_wp2
      go_ret
      exact ⟨_, rfl, fun h => ⟨ht, by have h2 := of_decide_eq_false h; omega⟩, hB⟩
end Go.Proofs.Ytdemkcfajeoaiaa
