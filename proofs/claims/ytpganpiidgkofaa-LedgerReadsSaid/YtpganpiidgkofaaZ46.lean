/- Several texts in one. -/
import Derived.Test.YtpganpiidgkofaaZ45
/- LedgerReads, for all that comes in. -/
namespace Go.Proofs.Ytpganpiidgkofaa
open Go.RowKit
set_option linter.unusedVariables false
set_option maxRecDepth 20000
set_option maxHeartbeats 4000000 in
theorem reads_over (n : Int) (A B : Option Addr) (c d : Nat) (l m : Nat) (more : ByteArray) (W : World) (h : 30 < l ∨ m ≠ l ∨ 200 < more.size) :
    Calls Try.prog 4 #[.int .i64 n, .slice A l c, .slice B m d, .string more] W fun e W' => e = .returned (.bool true) ∧ Below W.heap.size W W' := by
  have HT9 := alive9
  have H := Lib.hid h; clear h
  go_enter Try.func4, Try.ntmps4
  go_wp2_with fail
  refine (HT9 W).mono ?_
  rintro e w1 ⟨rfl, hb⟩
  clear HT9
  cases h1 : decide ((30 : Int) < (l : Int))
  case true =>
    go_wp2
    go_ret
    exact ⟨rfl, hb⟩
  case false =>
    cases h2 : ((m : Int) != (l : Int))
    case true =>
      go_wp2
      go_ret
      exact ⟨rfl, hb⟩
    case false =>
      have h3 : decide ((200 : Int) < (more.size : Int)) = true := by
        have h1' := of_decide_eq_false h1
        have h2' : m = l := by
          have := h2
          simp at this
          omega
        rcases H.out with h | h | h
        · omega
        · exact absurd h2' h
        · rw [decide_eq_true_iff]; omega
      go_wp2
      go_ret
      exact ⟨rfl, hb⟩
theorem law_reads (n : Int) (A B : Option Addr) (c d : Nat) (xs : List Item) (is : List Inst) (more : ByteArray) (W : World) (hx : RowsIn W A 2 IV xs) (hi : RowsIn W B 20 NV is) (fx : ∀ x ∈ xs, ItemFits x) (fi : ∀ x ∈ is, InstFits x) :
    Calls Try.prog 4 #[.int .i64 n, .slice A xs.length c, .slice B is.length d, .string more] W fun e W' => e = .returned (.bool true) ∧ Below W.heap.size W W' := by
  by_cases h : 30 < xs.length ∨ is.length ≠ xs.length ∨ 200 < more.size
  · exact reads_over n A B c d _ _ more W h
  · have hl : xs.length = is.length := by omega
    have hz : (xs.zip is).length = xs.length := by rw [List.length_zip]; omega
    obtain ⟨r1, r2⟩ := zip_rows hl hx hi
    have := law_reads2 n A B c d (xs.zip is) more W r1 r2 (fun e he => ⟨fx _ (List.of_mem_zip he).1, fi _ (List.of_mem_zip he).2⟩) (by omega) (by omega)
    rw [hz] at this
    rw [← hl]
    exact this
end Go.Proofs.Ytpganpiidgkofaa
