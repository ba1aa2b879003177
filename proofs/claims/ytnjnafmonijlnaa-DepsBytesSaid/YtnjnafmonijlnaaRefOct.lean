/- The document's bytes of numbers and texts. -/
import Derived.Test.YtnjnafmonijlnaaSink
namespace Go.Proofs.Ytnjnafmonijlnaa
open Go.RowKit
set_option linter.unusedVariables false
attribute [local go_sem] row_alloc row_drew row_drewN row_ext row_setCell row_setRow size_ext setRow_alloc setRow_drew
attribute [local go_sem high] cell_alloc frozen_alloc setCell_alloc cell_ext frozen_ext
theorem conv_one (W : World) (x : UInt8) : (convert 53 9 (.slice (some ⟨W.heap.size, 0, none⟩) 1 1)).run Try.prog (W.alloc (.cells #[.int .u8 (x.toNat : Int)] 5)) = .ok (.string (strL [x])) (W.alloc (.cells #[.int .u8 (x.toNat : Int)] 5)) := by
  refine run_convert_bytes_back (W.alloc (.cells #[.int .u8 (x.toNat : Int)] 5)) _ _ _ ⟨W.heap.size, 0, none⟩ 1 [x] Try.underlying53 Try.underlying5 Try.underlying9 fun j hj => ?_
  obtain rfl : j = 0 := by simp at hj; exact hj
  exact cell_one_new W (.int .u8 (x.toNat : Int)) 5 0 _ rfl
theorem strL_app (a b : List UInt8) : strL a ++ strL b = strL (a ++ b) := by rw [strL_add]; rfl
set_option maxHeartbeats 1000000 in
theorem refNat (n : Int) (hn : n < 9223372036854775808) : Ans Try.prog 50 #[.int .i64 n] (.string (strL (enc n.toNat))) := by
  intro w
  have hl9 := enc_len9 (n := n.toNat) (by omega)
  go_enter Try.func50, Try.ntmps50
  go_wp2
  all_goals
    go_loopw [0, 3] (fun u s wr => ∃ (v : Nat) (cu : List UInt8), u = .int .i64 v ∧ s = .string (strL cu) ∧ v < 9223372036854775808 ∧ cu ++ enc v = enc n.toNat ∧ Below w.heap.size w wr) (fun u _ _ => (intOf u).toNat)
    case atStart => exact ⟨n.toNat, [], by first | (congr 1; omega) | (congr 1; simp; omega), rfl, by omega, rfl, Below.refl _ _⟩
    case round =>
      obtain ⟨v, cu, rfl, rfl, hv, hcu, hB⟩ := hrel
      have hlen : cu.length + (enc v).length = (enc n.toNat).length := by rw [← List.length_append, hcu]
      have HCU := Lib.hid hcu; clear hcu
      have hz : ∀ x, (strL cu).size + (strL [x]).size ≤ 9223372036854775807 := fun x => by rw [strL_size, strL_size]; simp; omega
      by_cases hv128 : v < 128
      · have hs := enc_small hv128
        have hx : IntKind.u8.wrap (v : Int) = ((UInt8.ofNat v).toNat : Int) := by
          rw [UInt8.toNat_ofNat', IntKind.wrap_u8]; omega
        have Hs := Lib.hid hs; clear hs
        generalize UInt8.ofNat v = x at *
        have hcv := conv_one wr x
        have hz := hz x
        generalize hB1 : strL cu = B at *
        generalize hX1 : strL [x] = B2 at *
        have HB1 := Lib.hid hB1; have HX1 := Lib.hid hX1; clear hB1 hX1
        go_wp2
        go_ret
        exact ⟨congrArg (fun s => Ending.returned (.string s)) (by rw [← HB1.out, ← HX1.out, strL_app, ← HCU.out, Hs.out]), hB.alloc hB.size _⟩
      · have hs := enc_great hv128
        have hx : IntKind.u8.wrap (128 + (v : Int) % 128) = ((UInt8.ofNat (128 + v % 128)).toNat : Int) := by
          rw [UInt8.toNat_ofNat', IntKind.wrap_u8]; omega
        have Hs := Lib.hid hs; clear hs
        generalize UInt8.ofNat (128 + v % 128) = x at *
        have hcv := conv_one wr x
        have hz := hz x
        have happ := strL_app cu [x]
        generalize hB1 : strL cu = B at *
        generalize hX1 : strL [x] = B2 at *
        clear hB1 hX1
        go_wp2
        go_roundw
        case rel => exact ⟨v / 128, cu ++ [x], by first | rfl | go_num | (congr 1; simp), by first | rfl | rw [happ], by omega, by rw [List.append_assoc, ← HCU.out, Hs.out]; rfl, hB.alloc hB.size _⟩
        case measure => simp [intOf]; omega
set_option maxHeartbeats 1000000 in
theorem refText (t : ByteArray) (hn : t.size ≤ 9223372036854775000) : Ans Try.prog 51 #[.string t] (.string (strL (enc t.size ++ t.data.toList))) := by
  intro w
  have C := Lib.hid (refNat t.size (by omega))
  have e := strL_add (enc t.size) t
  have h9 := enc_len 9 t.size (by omega)
  have hz : (strL (enc t.size)).size + t.size ≤ 9223372036854775807 := by rw [strL_size]; omega
  go_enter Try.func51, Try.ntmps51
  go_wp2_with fail
  refine (Ans.call C.out _).mono ?_
  rintro e w1 ⟨rfl, hb⟩
  rw [Int.toNat_natCast]
  generalize strL (enc t.size) = B at *
  go_wp2
  go_ret
  exact ⟨congrArg (fun s => Ending.returned (.string s)) (by first | rfl | rw [e]), hb⟩
end Go.Proofs.Ytnjnafmonijlnaa
