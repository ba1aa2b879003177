/- Layer 4: a deed's bytes. -/
import Derived.Test.YtnjnafmonijlnaaRefOct
import Derived.Test.YtnjnafmonijlnaaOctC
namespace Go.Proofs.Ytnjnafmonijlnaa
open Go.RowKit
set_option linter.unusedVariables false
attribute [local go_sem] row_alloc row_drew row_drewN row_ext row_setCell row_setRow size_ext setRow_alloc setRow_drew loadOf storeOf piece_lit loadVal_at storeVal_at allOne_lit EV_size EV_one EV_piece EV_0 EV_1 EV_2 EV_3 EV_4 EV_5
attribute [local go_sem high] cell_alloc frozen_alloc setCell_alloc cell_ext frozen_ext
attribute [local go_sem ↓] load_deed0 store_deed0
attribute [local go_sem] load_deed store_deed
def txt (t : ByteArray) : List UInt8 := enc t.size ++ t.data.toList
def deedB (d : Deed) : List UInt8 := enc d.kind.toNat ++ txt d.key ++ txt d.val ++ encs [d.ver, d.ses, d.num]
structure DeedIn (d : Deed) (N : Nat) : Prop where
  kind : -9223372036854775808 ≤ d.kind ∧ d.kind < 9223372036854775808
  ver : -9223372036854775808 ≤ d.ver ∧ d.ver < 9223372036854775808
  ses : -9223372036854775808 ≤ d.ses ∧ d.ses < 9223372036854775808
  num : -9223372036854775808 ≤ d.num ∧ d.num < 9223372036854775808
  txt : d.key.size + d.val.size ≤ N
theorem deedB_len {d : Deed} {N : Nat} (h : DeedIn d N) (hN : N ≤ 1000000) : (deedB d).length ≤ N + 54 := by
  have h1 := enc_len9 (n := d.kind.toNat) (by have := h.kind; omega)
  have h2 := enc_len9 (n := d.key.size) (by have := h.txt; omega)
  have h3 := enc_len9 (n := d.val.size) (by have := h.txt; omega)
  have h4 := encs_len (ns := [d.ver, d.ses, d.num]) (by simp; exact ⟨h.ver.2, h.ses.2, h.num.2⟩)
  have h5 := h.txt
  have h6 : d.key.data.toList.length = d.key.size := rfl
  have h7 : d.val.data.toList.length = d.val.size := rfl
  simp only [deedB, Go.Proofs.Ytnjnafmonijlnaa.txt, List.length_append, List.length_cons, List.length_nil] at *
  omega
set_option maxHeartbeats 1000000 in
theorem deedPutD (g : Nat) (l : List UInt8) (d : Deed) (N : Nat) (h : DeedIn d N) (hN : N ≤ 1000000) (hb : l.length ≤ 1000000) :
    Does Try.prog 38 #[.pointer (some ⟨g, 0, none⟩), .agg (EV d)] [snkR g l] (.tuple #[]) [snkR g (l ++ deedB d)] := by
  intro W G hS
  have T := ((Sts.start hS).new (EV d) 41).new #[.int .i64 d.kind] 3
  clear hS
  have h1 := enc_len9 (n := d.kind.toNat) (by have := h.kind; omega)
  have h2 := enc_len9 (n := d.key.size) (by have := h.txt; omega)
  have h3 := enc_len9 (n := d.val.size) (by have := h.txt; omega)
  have h5 := h.txt
  have h6 : d.key.data.toList.length = d.key.size := rfl
  have h7 : d.val.data.toList.length = d.val.size := rfl
  simp only [World.size_alloc] at T
  go_enter Try.func38, Try.ntmps38
  go_wp2_with fail
  refine (Does.at2 (sinkNatD g l (W.heap.size + 1) 0 1 _ [d.kind] (by intro j hj; simp at hj; subst hj; rfl) (by simpa using h.kind) (by simp; omega)) T.rot2.swap2.swap2).mono ?_; clear T; rintro e w1 ⟨rfl, T⟩
  have T := T.swap.drop
  have hr := row_cell T.row1
  go_wp2_with fail
  refine (Does.at1 (sinkTextD g _ d.key ?_) T).mono ?_; clear T
  · simp [encs]; omega
  rintro e w2 ⟨rfl, T⟩
  clear hr
  have hr := row_cell T.row1
  go_wp2_with fail
  refine (Does.at1 (sinkTextD g _ d.val ?_) T).mono ?_; clear T
  · simp [encs]; omega
  rintro e w3 ⟨rfl, T⟩
  clear hr
  have hr := row_cell T.row1
  have T := T.new #[.int .i64 d.ver, .int .i64 d.ses, .int .i64 d.num] 3
  go_wp2_with fail
  refine (Does.at2 (sinkNatD g _ w3.heap.size 0 3 _ [d.ver, d.ses, d.num] ?_ (by simp; exact ⟨h.ver, h.ses, h.num⟩) (by simp [encs]; omega)) T.swap).mono ?_; clear T
  · intro j hj
    match j, hj with
    | 0, _ => rfl
    | 1, _ => rfl
    | 2, _ => rfl
  rintro e w4 ⟨rfl, T⟩
  clear hr
  go_wp2
  go_end0
  refine ⟨rfl, ?_⟩
  have := T.swap.drop.swap.drop
  simpa [encs, deedB, txt] using this
set_option maxHeartbeats 1000000 in
theorem refDeedBytes (d : Deed) (N : Nat) (h : DeedIn d N) (hN : N ≤ 1000000) : Ans Try.prog 36 #[.agg (EV d)] (.string (strL (deedB d))) := by
  intro w
  have T := (St.start w).new (EV d) 41
  have hx := h.txt
  have C1 := Lib.hid (refNat d.kind h.kind.2); have C2 := Lib.hid (refText d.key (by omega)); have C3 := Lib.hid (refText d.val (by omega))
  have C4 := Lib.hid (refNat d.ver h.ver.2); have C5 := Lib.hid (refNat d.ses h.ses.2); have C6 := Lib.hid (refNat d.num h.num.2)
  have e : strL (enc d.kind.toNat) ++ strL (enc d.key.size ++ d.key.data.toList) ++ strL (enc d.val.size ++ d.val.data.toList) ++ strL (enc d.ver.toNat) ++ strL (enc d.ses.toNat) ++ strL (enc d.num.toNat) = strL (deedB d) := by
    simp only [strL_app]; simp [deedB, txt, encs]
  have E := Lib.hid e; clear e
  have h1 := enc_len9 (n := d.kind.toNat) (by have := h.kind; omega)
  have h2 := enc_len9 (n := d.key.size) (by have := h.txt; omega)
  have h3 := enc_len9 (n := d.val.size) (by have := h.txt; omega)
  have h4 := enc_len9 (n := d.ver.toNat) (by have := h.ver; omega)
  have h5 := enc_len9 (n := d.ses.toNat) (by have := h.ses; omega)
  have h6 := enc_len9 (n := d.num.toNat) (by have := h.num; omega)
  have h7 : d.key.data.toList.length = d.key.size := rfl
  have h8 : d.val.data.toList.length = d.val.size := rfl
  have z1 : (strL (enc d.kind.toNat)).size ≤ 9 := by rw [strL_size]; exact h1
  have z2 : (strL (enc d.key.size ++ d.key.data.toList)).size ≤ N + 9 := by rw [strL_size, List.length_append]; omega
  have z3 : (strL (enc d.val.size ++ d.val.data.toList)).size ≤ N + 9 := by rw [strL_size, List.length_append]; omega
  have z4 : (strL (enc d.ver.toNat)).size ≤ 9 := by rw [strL_size]; exact h4
  have z5 : (strL (enc d.ses.toNat)).size ≤ 9 := by rw [strL_size]; exact h5
  have z6 : (strL (enc d.num.toNat)).size ≤ 9 := by rw [strL_size]; exact h6
  clear h1 h2 h3 h4 h5 h6 h7 h8
  generalize strL (deedB d) = B at *
  generalize strL (enc d.kind.toNat) = B1 at *
  generalize strL (enc d.key.size ++ d.key.data.toList) = B2 at *
  generalize strL (enc d.val.size ++ d.val.data.toList) = B3 at *
  generalize strL (enc d.ver.toNat) = B4 at *
  generalize strL (enc d.ses.toNat) = B5 at *
  generalize strL (enc d.num.toNat) = B6 at *
  clear h hx
  go_enter Try.func36, Try.ntmps36
  go_wp2_with fail
  refine wp_region_st (by kernel_rfl) (by kernel_rfl) ?_
  repeat (go_big_quiet_step (first | (go_at_call 50; with_reducible exact C1.out.quiet) | (go_at_call 50; with_reducible exact C4.out.quiet) | (go_at_call 50; with_reducible exact C5.out.quiet) | (go_at_call 50; with_reducible exact C6.out.quiet) | (go_at_call 51; with_reducible exact C2.out.quiet) | (go_at_call 51; with_reducible exact C3.out.quiet)))
  refine wpQuiet_nil ?_
  rintro _ ⟨x9, rfl⟩
  go_wp2_with fail
  go_ret
  exact ⟨congrArg (fun s => Ending.returned (.string s)) (by rw [← E.out]), (T.ext x9).below⟩
end Go.Proofs.Ytnjnafmonijlnaa
