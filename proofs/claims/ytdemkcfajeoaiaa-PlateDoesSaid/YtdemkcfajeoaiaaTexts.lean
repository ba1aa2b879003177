/- A row of texts that came in. -/
import Derived.Test.YtdemkcfajeoaiaaKitb
namespace Go.Proofs.Ytdemkcfajeoaiaa
open Go.RowKit
/-- The slice with this address holds these texts. -/
structure TextsIn (w : World) (A : Option Addr) (l : List ByteArray) : Prop where
  nil : A = none → l = []
  cell : ∀ a, A = some a → ∀ j (h : j < l.length), w.cell? (a.add j) = some (.string l[j])
  len : l.length ≤ 9223372036854775807
  size : ∀ s ∈ l, s.size ≤ 140737488351232
theorem add_block (a : Addr) (j : Nat) : (a.add j).block = a.block := by unfold Addr.add; split <;> rfl
theorem TextsIn.at {w W : World} {A : Option Addr} {l : List ByteArray} (h : TextsIn w A l) (hb : Below w.heap.size w W) {a : Addr} (hA : A = some a) {j : Nat} (hj : j < l.length) : W.cell? (a.add j) = some (.string l[j]) := by
  have hc := h.cell a hA j hj
  exact (hb.cell (World.block_lt_of_cell? w _ hc)).trans hc
theorem TextsIn.lt {w : World} {A : Option Addr} {l : List ByteArray} (h : TextsIn w A l) {a : Addr} (hA : A = some a) (hl : l ≠ []) : a.block < w.heap.size := by
  have hp : 0 < l.length := by cases l with | nil => exact absurd rfl hl | cons => simp
  have := World.block_lt_of_cell? w _ (h.cell a hA 0 hp)
  rwa [add_block] at this
end Go.Proofs.Ytdemkcfajeoaiaa
