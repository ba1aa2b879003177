/- What comes in: numbers, bytes, texts. -/
import Derived.Test.YtahajjfbkdocaaaLaw
import Derived.SizedLaws
namespace Go.Proofs.Ytahajjfbkdocaaa
open Go.ChangeShapes Go.WideShapes Go.ChangeAt Go.RowKit Go.WideMaps Go.WideElems Go.Joins
open Go.ChangeMaps (open_string)
/-- a piece of a row, and what stands behind -/
theorem seg {α : Type} (cs : List α) (o z : Nat) : cs.drop o = (cs.drop o).take z ++ cs.drop (o + z) := by
  rw [← List.drop_drop]; exact (List.take_append_drop z (cs.drop o)).symm
/-- a number that an int holds -/
def Fits (n : Int) : Prop := -9223372036854775808 ≤ n ∧ n ≤ 9223372036854775807
theorem fits_of {n : Int} (h : (Lit.int .i64 n).wf = true) : Fits n := by
  simp [Lit.wf, IntKind.min, IntKind.max, IntKind.signed, IntKind.bits] at h
  exact h
theorem fits8_of {n : Int} (h : (Lit.int .u8 n).wf = true) : 0 ≤ n ∧ n ≤ 255 := by
  simp [Lit.wf, IntKind.min, IntKind.max, IntKind.signed, IntKind.bits] at h
  exact h
section
variable {H : Type} {enc : TypeId × Value → H} {w : World} {base : Nat} {sp : Nat → Bool} {held : Bool} {r : Reach} {b0 : Nat} {v : Value} {d : DataW H} {p : List MemPlace}
theorem okWide_arr {P : Program} {t e : TypeId} {n : Nat} (ht : P.underlying t = some (.array n e)) (h : Value.okWide P w r b0 t v) : ∃ cs, v = .agg cs ∧ cs.size = P.cellsOf t := by
  simp only [Value.okWide, ht] at h
  obtain ⟨cs, h1, h2, _⟩ := h
  exact ⟨cs, h1, h2⟩
theorem open_str {P : Program} {t : TypeId} (ht : P.underlying t = some .string) (hv : Value.okWide P w r b0 t v) (h : DataW.Trod enc P w base sp held t v d p) (hw : ∀ n ∈ d.weights P t, n ≤ reachBytes) :
    ∃ s : ByteArray, v = .string s ∧ s.size ≤ 140737488351232 := by
  obtain ⟨s, rfl, rfl, _, _⟩ := open_string ht hv h
  have := hw s.data.toList.length (by simp [DataW.weights])
  have hr : reachBytes = 140737488351232 := rfl
  rw [hr, Array.length_toList] at this
  exact ⟨s, rfl, this⟩
theorem open_byte {P : Program} {t : TypeId} (ht : P.underlying t = some (.int .u8)) (hv : Value.okWide P w r b0 t v) (h : DataW.Trod enc P w base sp held t v d p) : ∃ u : UInt8, v = .int .u8 (u.toNat : Int) := by
  obtain ⟨n, rfl, -, -, hn⟩ := open_int ht hv h
  have hb := fits8_of hn
  refine ⟨UInt8.ofNat n.toNat, ?_⟩
  have : (UInt8.ofNat n.toNat).toNat = n.toNat := by rw [UInt8.toNat_ofNat']; omega
  rw [this]
  congr 1
  omega
end
/-- what weighs in one argument is weighed -/
theorem sized_arg {H : Type} {P : Program} {ts : List TypeId} {ds : List (DataW H)} (h : (DataW.weightsEach P ts ds).all (· ≤ reachBytes) = true) {j : Nat} {t : TypeId} {d : DataW H} (ht : ts[j]? = some t) (hd : ds[j]? = some d) :
    ∀ n ∈ d.weights P t, n ≤ reachBytes := fun n hn => by simpa using List.all_eq_true.1 h n (DataW.weights_mem_each ht hd n hn)
end Go.Proofs.Ytahajjfbkdocaaa
