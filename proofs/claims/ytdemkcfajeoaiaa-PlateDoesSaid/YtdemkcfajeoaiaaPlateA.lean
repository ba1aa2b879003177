/- Layer 8: Sync, Read, and Append of a row of texts. -/
import Derived.Test.YtdemkcfajeoaiaaPlate
namespace Go.Proofs.Ytdemkcfajeoaiaa
open Go.RowKit
set_option linter.unusedVariables false
attribute [local go_sem] row_alloc row_drew row_drewN row_ext row_setCell row_setRow size_ext setRow_alloc setRow_drew
attribute [local go_sem high] cell_alloc frozen_alloc setCell_alloc cell_ext frozen_ext
def cat (l : List ByteArray) : List UInt8 := l.flatMap fun s => s.data.toList
theorem cat_succ (l : List ByteArray) (k : Nat) (h : k < l.length) : cat (l.take (k + 1)) = cat (l.take k) ++ l[k].data.toList := by
  unfold cat; rw [List.take_succ_eq_append_getElem h, List.flatMap_append]; simp
theorem cat_le (l : List ByteArray) (k : Nat) : (cat (l.take k)).length ≤ (cat l).length := by
  conv => rhs; rw [← List.take_append_drop k l]
  unfold cat; rw [List.flatMap_append, List.length_append]; omega
theorem PL.len {W : World} {g : Nat} {b : Option Nat} {data : List UInt8} {safe : Nat} (h : PL W g b data safe) : ∃ A c, row? W g = some #[.slice A data.length c, .int .i64 safe] := by
  obtain ⟨v, hv, hr, ho, hs⟩ := h
  rcases ho.2 with ⟨rfl, h0⟩ | ⟨g', cap, cur, fz, rfl, _⟩
  · exact ⟨none, 0, by rw [h0]; exact hr⟩
  · exact ⟨_, _, hr⟩
theorem PL.lt {W : World} {g : Nat} {b : Option Nat} {data : List UInt8} {safe : Nat} (h : PL W g b data safe) : g < W.heap.size := by
  obtain ⟨v, hv, hr, ho, hs⟩ := h; exact row_lt hr
theorem PL.blk {W : World} {g : Nat} {b : Option Nat} {data : List UInt8} {safe : Nat} (h : PL W g b data safe) {k : Nat} (hk : b = some k) : g < k ∧ k < W.heap.size := by
  obtain ⟨v, hv, hr, ho, hs⟩ := h
  have := ho.lt k (hv.trans hk); omega
section
variable {W : World} {g : Nat} {b : Option Nat} {data : List UInt8} {safe : Nat}
set_option maxHeartbeats 1000000 in
theorem read_any (h : PL W g b data safe) : Calls Try.prog 14 #[.pointer (some ⟨g, 0, none⟩)] W fun e w' => e = .returned (.string ⟨data.toArray⟩) ∧ W = w' := by
  obtain ⟨v, hv, hr, ho, hs⟩ := h
  have hc := row_cell hr
  have hcv : (convert 25 9 v).run Try.prog W = .ok (.string ⟨data.toArray⟩) W := by
    rcases ho.2 with ⟨rfl, h0⟩ | ⟨g', cap, cur, fz, rfl, hg', _⟩
    · have : data = [] := List.eq_nil_of_length_eq_zero h0
      subst this
      exact run_convert_bytes_nil W _ _ Try.underlying25 Try.underlying5 0 0 _ Try.underlying9
    · refine run_convert_bytes_back W _ _ _ _ _ data Try.underlying25 Try.underlying5 Try.underlying9 fun j hj => ?_
      refine OwnR.cells ho (g := g') rfl j _ ?_
      simp [bytesV, byteV, List.getElem?_eq_getElem hj]
  clear ho hr hv
  go_enter Try.func14, Try.ntmps14
  go_wp2
  go_ret
  exact ⟨rfl, rfl⟩
set_option maxHeartbeats 1000000 in
theorem sync_any (h : PL W g b data safe) : Calls Try.prog 12 #[.pointer (some ⟨g, 0, none⟩)] W fun e w' => e = .returned (.int .i64 0) ∧ PL w' g b data data.length ∧ Touch W w' g none ∧ w'.heap.size = W.heap.size := by
  have h0 := h
  obtain ⟨A, c, hr⟩ := h.len
  have hc := row_cell hr
  have hf := row_frozen hr
  have hlt := row_lt hr
  obtain ⟨v, hv, hr1, ho, hs⟩ := h0
  obtain rfl : Value.slice A data.length c = v := by rw [hr] at hr1; injection hr1 with e; injection e with e; injection e
  have Hr := Lib.hid hr; have Ho := Lib.hid ho; clear hr hr1 ho
  go_enter Try.func12, Try.ntmps12
  go_wp2
  go_ret
  refine ⟨rfl, ⟨_, hv, ?_, (grown_cell _ _ _ _).own Ho.out (by omega), Nat.le_refl _⟩, grown_cell _ _ _ _, by simp [World.setCell]⟩
  rw [row_setCell, if_pos rfl, Hr.out]; rfl
end
end Go.Proofs.Ytdemkcfajeoaiaa
