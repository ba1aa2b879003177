/- Several texts in one. -/
import Derived.Test.YtahajjfbkdocaaaDoorZ19
import Derived.Test.YtahajjfbkdocaaaDoorZ11
/- Layer 6: texts sealed, and opened. -/
namespace Go.Proofs.YtahajjfbkdocaaaDoor
open Go.RowKit
set_option linter.unusedVariables false
attribute [local go_sem] row_alloc row_drew row_drewN row_ext row_setCell row_setRow size_ext setRow_alloc setRow_drew loadOf storeOf piece_lit loadVal_at storeVal_at allOne_lit buildOf buildRes_some
attribute [local go_sem high] cell_alloc frozen_alloc setCell_alloc cell_ext frozen_ext cell_setRow frozen_setRow
theorem sinkNew {w W : World} {F : Nat → Prop} {L : List Res} (T : Sts w F W L) : Sts w F (W.alloc (.cells #[.slice none 0 0] 55)) (snkR W.heap.size [] :: L) := by
  have T := T.new #[.slice none 0 0] 55
  exact snk_shut (T.vecNil 5 1).swap
def sealS (t : List UInt8) : List UInt8 := if 16384 < t.length then [] else sealB t (enc t.length)
theorem flat2 (a b : List UInt8) : [a, b].flatten = a ++ b := by simp
set_option maxHeartbeats 1000000 in
theorem seal_any (t : List UInt8) (hz : t.length ≤ 1000000000) : Ans Tryd.prog 20 #[.string (strL t)] (.string (strL (sealS t))) := by
  refine Ans.of_sts fun w => ?_
  have T := Sts.start0 w
  have hsz := strL_size t
  by_cases h : 16384 < t.length
  · have hs : sealS t = [] := if_pos h
    rw [hs]
    clear hs
    go_enter Tryd.func20, Tryd.ntmps20
    have h2 : 16384 < (strL t).size := by rw [hsz]; exact h
    clear hsz
    generalize strL t = B at *
    go_wp2
    go_ret
    exact ⟨rfl, T⟩
  · have hs : sealS t = enc t.length ++ fourB (crc (enc t.length ++ t)) ++ t := if_neg h
    have HS := Lib.hid hs; clear hs
    have h9 := enc_len9 (n := t.length) (by omega)
    have hcl := crc_lt (enc t.length ++ t)
    have hfl : ((fourB (crc (enc t.length ++ t))).length : Nat) = 4 := rfl
    have C1 := Lib.hid (four_any (crc (enc t.length ++ t)) hcl)
    have HSZ := Lib.hid hsz
    have hle : (strL t).size ≤ 16384 := by rw [hsz]; omega
    have hdl : (strL t).data.toList = t := rfl
    clear hsz
    have T := (sinkNew T).new #[.int .i64 t.length] 3
    simp only [World.size_alloc] at T
    go_enter Tryd.func20, Tryd.ntmps20
    have hsz := HSZ.out
    go_wp2_with fail
    refine (Does.at2 (sinkNatD w.heap.size [] (w.heap.size + 1) 0 1 _ [(t.length : Int)] (by intro j hj; simp at hj; subst hj; rfl) (by simp; omega) (by simp)) T.swap).mono ?_; clear T; rintro e w1 ⟨rfl, T⟩
    have T := T.swap.drop
    rw [show ([] : List UInt8) ++ encs [(t.length : Int)] = enc t.length by simp [encs]] at T
    go_wp2_with fail
    refine (Does.at1 (sinkBytesD w.heap.size _) T).mono ?_; clear T; rintro e w2 ⟨rfl, T⟩
    have T := T.new (textsV [enc t.length, t]) 9
    go_wp2_with fail
    refine (Does.at1 (sumD w2.heap.size [enc t.length, t] 2 (by simp) (by intro x hx; simp at hx; rcases hx with rfl | rfl <;> omega)) T).mono ?_; clear T; rintro e w3 ⟨rfl, T⟩
    rw [flat2]
    go_wp2_with fail
    refine (Ans.at C1.out T).mono ?_; clear T; rintro e w4 ⟨rfl, T⟩
    have T := T.drop
    go_wp2_with fail
    refine (Does.at1 (sinkRawD w.heap.size _ (strL (fourB (crc (enc t.length ++ t)))) (by rw [strL_size, hfl]; omega)) T).mono ?_; clear T; rintro e w5 ⟨rfl, T⟩
    go_wp2_with fail
    refine (Does.at1 (sinkRawD w.heap.size _ (strL t) (by rw [List.length_append, strL_list, hfl]; omega)) T).mono ?_; clear T; rintro e w6 ⟨rfl, T⟩
    go_wp2_with fail
    refine (Does.at1 (sinkBytesD w.heap.size _) T).mono ?_; clear T; rintro e w7 ⟨rfl, T⟩
    go_wp2
    go_ret
    exact ⟨congrArg (fun s => Ending.returned (.string s)) (by rw [HS.out, strL_list]; simp), T.nil⟩
theorem byte_mod (c : Nat) : IntKind.u8.wrap ((c : Int) % 256) = ((UInt8.ofNat c).toNat : Int) := by
  rw [UInt8.toNat_ofNat', IntKind.wrap_u8]; omega
set_option maxHeartbeats 1000000 in
theorem rseal_any (t : List UInt8) (hz : t.length ≤ 100000000) : Ans Tryd.prog 33 #[.string (strL t)] (.string (strL (sealS t))) := by
  refine Ans.of_sts fun w => ?_
  have T := Sts.start0 w
  have hsz := strL_size t
  by_cases h : 16384 < t.length
  · have hs : sealS t = [] := if_pos h
    rw [hs]
    clear hs
    go_enter Tryd.func33, Tryd.ntmps33
    have h2 : 16384 < (strL t).size := by rw [hsz]; exact h
    clear hsz
    generalize strL t = B at *
    go_wp2
    go_ret
    exact ⟨rfl, T⟩
  · have hs : sealS t = enc t.length ++ fourB (crc (enc t.length ++ t)) ++ t := if_neg h
    have h9 := enc_len9 (n := t.length) (by omega)
    have hcl := crc_lt (enc t.length ++ t)
    have C0 := refNat t.length (by omega)
    rw [Int.toNat_natCast] at C0
    have C1 := rsum_any (enc t.length ++ t) (by rw [List.length_append]; omega)
    have happ : strL (enc t.length) ++ strL t = strL (enc t.length ++ t) := strL_app _ _
    have hfin : strL (enc t.length) ++ strL (fourB (crc (enc t.length ++ t))) ++ strL t = strL (sealS t) := by rw [strL_app, strL_app, hs]
    have z1 : (strL (enc t.length)).size ≤ 9 := by rw [strL_size]; exact h9
    have z2 : (strL (fourB (crc (enc t.length ++ t)))).size = 4 := rfl
    have hle : (strL t).size ≤ 16384 := by rw [hsz]; omega
    clear hs
    have hs0 := (show (strL t).size = t.length from hsz)
    clear hsz
    generalize crc (enc t.length ++ t) = c at *
    have h0 := byte_mod c
    have h1 := byte_mod (c / 256)
    have h2 := byte_mod (c / 65536)
    have h3 := byte_of (c / 16777216)
    have e1 : ((c / 256 : Nat) : Int) = (c : Int) / 256 := by omega
    have e2 : ((c / 65536 : Nat) : Int) = (c : Int) / 65536 := by omega
    have e3 : ((c / 16777216 : Nat) : Int) = (c : Int) / 16777216 := by omega
    rw [e1] at h1; rw [e2] at h2; rw [e3] at h3
    clear e1 e2 e3
    unfold fourB at hfin z2
    generalize UInt8.ofNat c = x0 at *
    generalize UInt8.ofNat (c / 256) = x1 at *
    generalize UInt8.ofNat (c / 65536) = x2 at *
    generalize UInt8.ofNat (c / 16777216) = x3 at *
    have hcv := fun W => conv_four W x0 x1 x2 x3
    generalize strL [x0, x1, x2, x3] = B4 at *
    have z4 : B4.size ≤ 4 := by omega
    clear z2
    have HF := Lib.hid hfin; clear hfin
    generalize strL (sealS t) = BS at *
    generalize strL (enc t.length ++ t) = B3 at *
    generalize strL (enc t.length) = B1 at *
    have CC0 := Lib.hid C0; have CC1 := Lib.hid C1; clear C0 C1
    generalize t.length = tl at *
    generalize strL t = B2 at *
    have HCV := Lib.hid hcv; clear hcv
    go_enter Tryd.func33, Tryd.ntmps33
    go_wp2_with fail
    refine (Ans.at CC0.out T).mono ?_; clear T; rintro e w1 ⟨rfl, T⟩
    go_wp2_with fail
    refine (Ans.at CC1.out T).mono ?_; clear T; rintro e w2 ⟨rfl, T⟩
    have hcv := HCV.out w2
    clear happ
    go_wp2
    go_ret
    exact ⟨congrArg (fun s => Ending.returned (.string s)) (by rw [← HF.out]), T.keep _⟩
/-- The text with which sealed bytes begin, and how many these are. -/
def openS (b : List UInt8) : List UInt8 × Nat :=
  let n := natS ⟨b, false⟩ 16384
  let q := rawS n.2 4
  let s := rawS q.2 n.1
  if s.2.dry = true ∨ fourB (crc (enc n.1 ++ s.1)) ≠ q.1 then ([], 0) else (s.1, b.length - s.2.left.length)
theorem rawS_len (s : Src) (n : Int) : (rawS s n).1.length ≤ s.left.length := by
  unfold rawS; split
  · simp
  · simp; omega
theorem rawS_left (s : Src) (n : Int) : (rawS s n).2.left.length ≤ s.left.length := by
  unfold rawS; split
  · simp [dryS]
  · simp
theorem natS_left (s : Src) (m : Nat) : (natS s m).2.left.length ≤ s.left.length := by
  cases h : (natS s m).2.dry
  · obtain ⟨_, h2, _⟩ := natS_inv h
    rw [h2]; simp
  · have : (natS s m).2 = dryS := by
      unfold natS at h ⊢
      split
      · rfl
      · rename_i hd
        rw [if_neg hd] at h
        split
        · rfl
        · rename_i hdec; rw [hdec] at h; simp at h
    rw [this]; simp [dryS]
theorem strL_inj {a b : List UInt8} (h : strL a = strL b) : a = b := by
  have := congrArg (fun s : ByteArray => s.data.toList) h
  exact this
set_option maxHeartbeats 1000000 in
theorem open_any (b : List UInt8) (hb : b.length ≤ 1000000000) : Ans Tryd.prog 25 #[.string (strL b)] (.tuple #[.string (strL (openS b).1), .int .i64 (openS b).2]) := by
  refine Ans.of_sts fun w => ?_
  have T := Sts.start0 w
  have hbz := strL_size b
  have HBZ := Lib.hid hbz; clear hbz
  go_enter Tryd.func25, Tryd.ntmps25
  go_wp2_with fail
  refine (fromS T b).mono ?_; clear T; rintro e w1 ⟨rfl, T⟩
  go_wp2_with fail
  refine (Does.at1 (natD w.heap.size _ 16384 (by omega)) T).mono ?_; clear T; rintro e w2 ⟨rfl, T⟩
  have hn := natS_le ⟨b, false⟩ 16384
  have hnl := natS_left ⟨b, false⟩ 16384
  have ho : openS b = if (rawS (rawS (natS ⟨b, false⟩ 16384).2 4).2 (natS ⟨b, false⟩ 16384).1).2.dry = true ∨ fourB (crc (enc (natS ⟨b, false⟩ 16384).1 ++ (rawS (rawS (natS ⟨b, false⟩ 16384).2 4).2 (natS ⟨b, false⟩ 16384).1).1)) ≠ (rawS (natS ⟨b, false⟩ 16384).2 4).1 then ([], 0) else ((rawS (rawS (natS ⟨b, false⟩ 16384).2 4).2 (natS ⟨b, false⟩ 16384).1).1, b.length - (rawS (rawS (natS ⟨b, false⟩ 16384).2 4).2 (natS ⟨b, false⟩ 16384).1).2.left.length) := rfl
  generalize natS ⟨b, false⟩ 16384 = n at *
  go_wp2_with fail
  refine (Does.at1 (rawD w.heap.size _ 4 (by omega)) T).mono ?_; clear T; rintro e w3 ⟨rfl, T⟩
  have hql := rawS_left n.2 4
  generalize rawS n.2 4 = q at *
  go_wp2_with fail
  refine (Does.at1 (rawD w.heap.size _ n.1 (by omega)) T).mono ?_; clear T; rintro e w4 ⟨rfl, T⟩
  have hsl := rawS_left q.2 n.1
  have hsm := rawS_len q.2 n.1
  generalize rawS q.2 n.1 = s at *
  have HO := Lib.hid ho; clear ho
  have hbl : (Src.mk b false).left.length = b.length := rfl
  go_wp2_with fail
  refine (Does.at1 (dryD w.heap.size _) T).mono ?_; clear T; rintro e w5 ⟨rfl, T⟩
  cases hdr : s.2.dry
  · have T := (sinkNew T).new #[.int .i64 n.1] 3
    simp only [World.size_alloc] at T
    go_wp2_with fail
    refine (Does.at2 (sinkNatD w5.heap.size [] (w5.heap.size + 1) 0 1 _ [(n.1 : Int)] (by intro j hj; simp at hj; subst hj; rfl) (by simp; omega) (by simp)) T.swap).mono ?_; clear T; rintro e w6 ⟨rfl, T⟩
    have T := T.swap.drop
    rw [show ([] : List UInt8) ++ encs [(n.1 : Int)] = enc n.1 by simp [encs]] at T
    go_wp2_with fail
    refine (Does.at1 (sinkBytesD w5.heap.size _) T).mono ?_; clear T; rintro e w7 ⟨rfl, T⟩
    have T := T.drop.new (textsV [enc n.1, s.1]) 9
    have h9 := enc_len9 (n := n.1) (by omega)
    go_wp2_with fail
    refine (Does.at1 (sumD w7.heap.size [enc n.1, s.1] 2 (by simp) (by intro x hx; simp at hx; rcases hx with rfl | rfl <;> omega)) T).mono ?_; clear T; rintro e w8 ⟨rfl, T⟩
    rw [flat2]
    go_wp2_with fail
    refine (Ans.at (four_any _ (crc_lt _)) T).mono ?_; clear T; rintro e w9 ⟨rfl, T⟩
    have T := T.drop
    by_cases hf : fourB (crc (enc n.1 ++ s.1)) = q.1
    · have hres : openS b = (s.1, b.length - s.2.left.length) := by rw [HO.out, if_neg (by simp [hdr, hf])]
      have HR := Lib.hid hres; clear hres
      rw [hf]
      clear hf
      have hle : s.2.left.length ≤ b.length := by omega
      have hbz := HBZ.out
      go_wp2_with fail
      refine (Does.at1 (leftD w.heap.size _) T).mono ?_; clear T; rintro e w10 ⟨rfl, T⟩
      go_wp2
      go_ret2
      exact ⟨by rw [HR.out]; simp; omega, T.nil⟩
    · have hres : openS b = ([], 0) := by rw [HO.out, if_pos (.inr hf)]
      have HR := Lib.hid hres; clear hres
      have hne : ((strL (fourB (crc (enc n.1 ++ s.1)))).toList == (strL q.1).toList) = false := by
        rw [beq_eq_false_iff_ne]; intro e; exact hf (strL_inj (toList_inj_iff.1 e))
      clear hf
      generalize strL (fourB (crc (enc n.1 ++ s.1))) = B at *
      generalize strL q.1 = B2 at *
      go_wp2
      go_ret2
      exact ⟨by rw [HR.out]; rfl, T.nil⟩
  · have hres : openS b = ([], 0) := by rw [HO.out, if_pos (.inl hdr)]
    have HR := Lib.hid hres; clear hres
    go_wp2
    go_ret2
    exact ⟨by rw [HR.out]; rfl, T.nil⟩
end Go.Proofs.YtahajjfbkdocaaaDoor
