/- Several texts in one. -/
import Derived.Test.YtahajjfbkdocaaaDoorZ9
import Derived.Test.YtahajjfbkdocaaaDoorZ10
import Derived.Test.YtahajjfbkdocaaaDoorZ5
import Derived.ChangeKeysEq
/- Layer 4: a deed's bytes. -/
namespace Go.Proofs.YtahajjfbkdocaaaDoor
open Go.RowKit
set_option linter.unusedVariables false
attribute [local go_sem] row_alloc row_drew row_drewN row_ext row_setCell row_setRow size_ext setRow_alloc setRow_drew loadOf storeOf piece_lit loadVal_at storeVal_at allOne_lit EV_size EV_one EV_piece EV_0 EV_1 EV_2 EV_3 EV_4 EV_5
attribute [local go_sem high] cell_alloc frozen_alloc setCell_alloc cell_ext frozen_ext
attribute [local go_sem ↓] load_deed0 store_deed0
attribute [local go_sem] load_deed store_deed
def txt (t : ByteArray) : List UInt8 := enc t.size ++ t.data.toList
def deedB (d : Deed) : List UInt8 := enc d.kind.toNat ++ txt d.key ++ txt d.val ++ encs [d.ver, d.ses, d.num]
structure DeedIn (d : Deed) (N : Nat) : Prop where
  kind : -9223372036854775808 ≤ d.kind ∧ d.kind < 9223372036854775808
  ver : -9223372036854775808 ≤ d.ver ∧ d.ver < 9223372036854775808
  ses : -9223372036854775808 ≤ d.ses ∧ d.ses < 9223372036854775808
  num : -9223372036854775808 ≤ d.num ∧ d.num < 9223372036854775808
  txt : d.key.size + d.val.size ≤ N
theorem deedB_len {d : Deed} {N : Nat} (h : DeedIn d N) (hN : N ≤ 1000000) : (deedB d).length ≤ N + 54 := by
  have h1 := enc_len9 (n := d.kind.toNat) (by have := h.kind; omega)
  have h2 := enc_len9 (n := d.key.size) (by have := h.txt; omega)
  have h3 := enc_len9 (n := d.val.size) (by have := h.txt; omega)
  have h4 := encs_len (ns := [d.ver, d.ses, d.num]) (by simp; exact ⟨h.ver.2, h.ses.2, h.num.2⟩)
  have h5 := h.txt
  have h6 : d.key.data.toList.length = d.key.size := rfl
  have h7 : d.val.data.toList.length = d.val.size := rfl
  simp only [deedB, Go.Proofs.YtahajjfbkdocaaaDoor.txt, List.length_append, List.length_cons, List.length_nil] at *
  omega
set_option maxHeartbeats 1000000 in
theorem deedPutD (g : Nat) (l : List UInt8) (d : Deed) (N : Nat) (h : DeedIn d N) (hN : N ≤ 1000000) (hb : l.length ≤ 1000000) :
    Does Tryd.prog 56 #[.pointer (some ⟨g, 0, none⟩), .agg (EV d)] [snkR g l] (.tuple #[]) [snkR g (l ++ deedB d)] := by
  intro W G hS
  have T := ((Sts.start hS).new (EV d) 27).new #[.int .i64 d.kind] 3
  clear hS
  have h1 := enc_len9 (n := d.kind.toNat) (by have := h.kind; omega)
  have h2 := enc_len9 (n := d.key.size) (by have := h.txt; omega)
  have h3 := enc_len9 (n := d.val.size) (by have := h.txt; omega)
  have h5 := h.txt
  have h6 : d.key.data.toList.length = d.key.size := rfl
  have h7 : d.val.data.toList.length = d.val.size := rfl
  simp only [World.size_alloc] at T
  go_enter Tryd.func56, Tryd.ntmps56
  go_wp2_with fail
  refine (Does.at2 (sinkNatD g l (W.heap.size + 1) 0 1 _ [d.kind] (by intro j hj; simp at hj; subst hj; rfl) (by simpa using h.kind) (by simp; omega)) T.rot2.swap2.swap2).mono ?_; clear T; rintro e w1 ⟨rfl, T⟩
  have T := T.swap.drop
  have hr := row_cell T.row1
  go_wp2_with fail
  refine (Does.at1 (sinkTextD g _ d.key ?_) T).mono ?_; clear T
  · simp [encs]; omega
  rintro e w2 ⟨rfl, T⟩
  clear hr
  have hr := row_cell T.row1
  go_wp2_with fail
  refine (Does.at1 (sinkTextD g _ d.val ?_) T).mono ?_; clear T
  · simp [encs]; omega
  rintro e w3 ⟨rfl, T⟩
  clear hr
  have hr := row_cell T.row1
  have T := T.new #[.int .i64 d.ver, .int .i64 d.ses, .int .i64 d.num] 3
  go_wp2_with fail
  refine (Does.at2 (sinkNatD g _ w3.heap.size 0 3 _ [d.ver, d.ses, d.num] ?_ (by simp; exact ⟨h.ver, h.ses, h.num⟩) (by simp [encs]; omega)) T.swap).mono ?_; clear T
  · intro j hj
    match j, hj with
    | 0, _ => rfl
    | 1, _ => rfl
    | 2, _ => rfl
  rintro e w4 ⟨rfl, T⟩
  clear hr
  go_wp2
  go_end0
  refine ⟨rfl, ?_⟩
  have := T.swap.drop.swap.drop
  simpa [encs, deedB, txt] using this
set_option maxHeartbeats 1000000 in
theorem refDeedBytes (d : Deed) (N : Nat) (h : DeedIn d N) (hN : N ≤ 1000000) : Ans Tryd.prog 54 #[.agg (EV d)] (.string (strL (deedB d))) := by
  intro w
  have T := (St.start w).new (EV d) 27
  have hx := h.txt
  have C1 := Lib.hid (refNat d.kind h.kind.2); have C2 := Lib.hid (refText d.key (by omega)); have C3 := Lib.hid (refText d.val (by omega))
  have C4 := Lib.hid (refNat d.ver h.ver.2); have C5 := Lib.hid (refNat d.ses h.ses.2); have C6 := Lib.hid (refNat d.num h.num.2)
  have e : strL (enc d.kind.toNat) ++ strL (enc d.key.size ++ d.key.data.toList) ++ strL (enc d.val.size ++ d.val.data.toList) ++ strL (enc d.ver.toNat) ++ strL (enc d.ses.toNat) ++ strL (enc d.num.toNat) = strL (deedB d) := by
    simp only [strL_app]; simp [deedB, txt, encs]
  have E := Lib.hid e; clear e
  have h1 := enc_len9 (n := d.kind.toNat) (by have := h.kind; omega)
  have h2 := enc_len9 (n := d.key.size) (by have := h.txt; omega)
  have h3 := enc_len9 (n := d.val.size) (by have := h.txt; omega)
  have h4 := enc_len9 (n := d.ver.toNat) (by have := h.ver; omega)
  have h5 := enc_len9 (n := d.ses.toNat) (by have := h.ses; omega)
  have h6 := enc_len9 (n := d.num.toNat) (by have := h.num; omega)
  have h7 : d.key.data.toList.length = d.key.size := rfl
  have h8 : d.val.data.toList.length = d.val.size := rfl
  have z1 : (strL (enc d.kind.toNat)).size ≤ 9 := by rw [strL_size]; exact h1
  have z2 : (strL (enc d.key.size ++ d.key.data.toList)).size ≤ N + 9 := by rw [strL_size, List.length_append]; omega
  have z3 : (strL (enc d.val.size ++ d.val.data.toList)).size ≤ N + 9 := by rw [strL_size, List.length_append]; omega
  have z4 : (strL (enc d.ver.toNat)).size ≤ 9 := by rw [strL_size]; exact h4
  have z5 : (strL (enc d.ses.toNat)).size ≤ 9 := by rw [strL_size]; exact h5
  have z6 : (strL (enc d.num.toNat)).size ≤ 9 := by rw [strL_size]; exact h6
  clear h1 h2 h3 h4 h5 h6 h7 h8
  generalize strL (deedB d) = B at *
  generalize strL (enc d.kind.toNat) = B1 at *
  generalize strL (enc d.key.size ++ d.key.data.toList) = B2 at *
  generalize strL (enc d.val.size ++ d.val.data.toList) = B3 at *
  generalize strL (enc d.ver.toNat) = B4 at *
  generalize strL (enc d.ses.toNat) = B5 at *
  generalize strL (enc d.num.toNat) = B6 at *
  clear h hx
  go_enter Tryd.func54, Tryd.ntmps54
  go_wp2_with fail
  refine wp_region_st (by kernel_rfl) (by kernel_rfl) ?_
  repeat (go_big_quiet_step (first | (go_at_call 29; with_reducible exact C1.out.quiet) | (go_at_call 29; with_reducible exact C4.out.quiet) | (go_at_call 29; with_reducible exact C5.out.quiet) | (go_at_call 29; with_reducible exact C6.out.quiet) | (go_at_call 60; with_reducible exact C2.out.quiet) | (go_at_call 60; with_reducible exact C3.out.quiet)))
  refine wpQuiet_nil ?_
  rintro _ ⟨x9, rfl⟩
  go_wp2_with fail
  go_ret
  exact ⟨congrArg (fun s => Ending.returned (.string s)) (by rw [← E.out]), (T.ext x9).below⟩
end Go.Proofs.YtahajjfbkdocaaaDoor
/- The plain laws of reading what was written: numbers, texts, deeds. -/
namespace Go.Proofs.YtahajjfbkdocaaaDoor
set_option linter.unusedVariables false
theorem enc_inj {v n : Nat} {r r' : List UInt8} (hv : v < 128 ^ 9) (hn : n < 128 ^ 9) (h : enc v ++ r = enc n ++ r') : v = n ∧ r = r' := by
  have h1 := dec_enc (128 ^ 9) 9 0 0 v r hv (by omega) (by omega) (by omega)
  have h2 := dec_enc (128 ^ 9) 9 0 0 n r' hn (by omega) (by omega) (by omega)
  rw [h, h2] at h1
  simp at h1
  exact ⟨h1.1.symm, h1.2.symm⟩
theorem natS_dry (most : Nat) : natS dryS most = (0, dryS) := by simp [natS, dryS]
theorem textS_dry (most : Nat) : textS dryS most = ([], dryS) := by unfold textS; rw [natS_dry]; simp [rawS, dryS]
theorem natS_enc {v : Nat} (hv : v < 128 ^ 9) (r : List UInt8) (most : Nat) : natS ⟨enc v ++ r, false⟩ most = if v ≤ most then (v, ⟨r, false⟩) else (0, dryS) := by
  unfold natS
  rw [if_neg (by simp)]
  by_cases h : v ≤ most
  · rw [if_pos h]
    have := dec_enc most 9 0 0 v r hv (by omega) (by omega) (by omega)
    simp only [Nat.zero_add, Nat.pow_zero, Nat.mul_one] at this
    rw [this]
  · rw [if_neg h]
    cases hd : dec most 0 0 (enc v ++ r) with
    | none => rfl
    | some x =>
      obtain ⟨u, r'⟩ := x
      obtain ⟨n, h1, h2, h3, _, h5⟩ := dec_some most _ _ _ _ _ hd
      have := enc_inj hv h5 h3
      omega
theorem natS_inv {s : Src} {most : Nat} (h : (natS s most).2.dry = false) : s.dry = false ∧ s.left = enc (natS s most).1 ++ (natS s most).2.left ∧ (natS s most).1 ≤ most ∧ (natS s most).1 < 128 ^ 9 := by
  unfold natS at h ⊢
  split at h
  · simp [dryS] at h
  · rename_i hd
    rw [if_neg hd]
    split at h
    · simp [dryS] at h
    · rename_i v r hdec
      obtain ⟨n, h1, h2, h3, _, h5⟩ := dec_some most _ _ _ _ _ hdec
      simp at h1
      subst h1
      exact ⟨by simpa using hd, h3, h2, h5⟩
theorem natS_stay {s : Src} {most : Nat} (h : s.dry = true) : natS s most = (0, dryS) := by unfold natS; rw [if_pos h]
theorem textS_enc {t : List UInt8} (ht : t.length < 128 ^ 9) (r : List UInt8) (most : Nat) : textS ⟨enc t.length ++ t ++ r, false⟩ most = if t.length ≤ most then (t, ⟨r, false⟩) else ([], dryS) := by
  unfold textS
  rw [List.append_assoc, natS_enc ht]
  split
  · unfold rawS
    rw [if_neg (by simp; omega)]
    simp
  · simp [rawS, dryS]
theorem rawS_inv {s : Src} {n : Int} (h : (rawS s n).2.dry = false) : s.dry = false ∧ s.left = (rawS s n).1 ++ (rawS s n).2.left ∧ ((rawS s n).1.length : Int) = n := by
  unfold rawS at h ⊢
  split at h
  · simp [dryS] at h
  · rename_i hc
    rw [if_neg hc]
    refine ⟨by simp at hc; exact hc.1, by simp, ?_⟩
    simp at hc ⊢
    omega
theorem textS_inv {s : Src} {most : Nat} (h : (textS s most).2.dry = false) : s.dry = false ∧ s.left = enc (textS s most).1.length ++ (textS s most).1 ++ (textS s most).2.left ∧ (textS s most).1.length ≤ most := by
  unfold textS at h ⊢
  obtain ⟨h1, h2, h3⟩ := rawS_inv h
  obtain ⟨h4, h5, h6, _⟩ := natS_inv h1
  have e : (rawS (natS s most).2 ↑(natS s most).1).1.length = (natS s most).1 := by omega
  refine ⟨h4, ?_, by omega⟩
  rw [e, h5, List.append_assoc, ← h2]
theorem rawDeed_inv {s : Src} (h : (rawDeed s).2.dry = false) : s.dry = false ∧ s.left = deedB (rawDeed s).1 ++ (rawDeed s).2.left ∧ DeedIn (rawDeed s).1 48 := by
  unfold rawDeed at h ⊢
  simp only at h ⊢
  obtain ⟨a1, a2, a3, a4⟩ := natS_inv h
  obtain ⟨b1, b2, b3, b4⟩ := natS_inv a1
  obtain ⟨c1, c2, c3, c4⟩ := natS_inv b1
  obtain ⟨d1, d2, d3⟩ := textS_inv c1
  obtain ⟨e1, e2, e3⟩ := textS_inv d1
  obtain ⟨f1, f2, f3, f4⟩ := natS_inv e1
  refine ⟨f1, ?_, ⟨by simp; omega, by simp; omega, by simp; omega, by simp; omega, by simp [strL_size]; omega⟩⟩
  rw [f2, e2, d2, c2, b2, a2]
  simp [deedB, txt, encs, strL_size, strL_list]
theorem rawDeed_enc {d : Deed} {more : List UInt8} {N : Nat} (hN : N ≤ 1000000) (h : DeedIn d N) (h0 : 0 ≤ d.kind ∧ 0 ≤ d.ver ∧ 0 ≤ d.ses ∧ 0 ≤ d.num) :
    (rawDeed ⟨deedB d ++ more, false⟩ = (d, ⟨more, false⟩)) ∨ (rawDeed ⟨deedB d ++ more, false⟩).2 = dryS ∧ ¬ (d.kind ≤ 5 ∧ d.key.size ≤ 16 ∧ d.val.size ≤ 32 ∧ d.ver ≤ 1099511627776 ∧ d.ses ≤ 1099511627776 ∧ d.num ≤ 1099511627776) := by
  have p9 : (128 : Nat) ^ 9 = 9223372036854775808 := by decide
  obtain ⟨hk, hv, hs, hn⟩ := h0
  have k1 := h.kind; have k2 := h.ver; have k3 := h.ses; have k4 := h.num; have k5 := h.txt
  unfold rawDeed
  simp only
  rw [show deedB d ++ more = enc d.kind.toNat ++ (enc d.key.data.toList.length ++ d.key.data.toList ++ (enc d.val.data.toList.length ++ d.val.data.toList ++ (enc d.ver.toNat ++ (enc d.ses.toNat ++ (enc d.num.toNat ++ more))))) by
    simp [deedB, txt, encs]]
  have e1 : d.key.data.toList.length = d.key.size := rfl
  have e2 : d.val.data.toList.length = d.val.size := rfl
  rw [natS_enc (by omega)]
  by_cases c1 : d.kind.toNat ≤ 5
  · rw [if_pos c1, textS_enc (by omega)]
    by_cases c2 : d.key.data.toList.length ≤ 16
    · rw [if_pos c2, textS_enc (by omega)]
      by_cases c3 : d.val.data.toList.length ≤ 32
      · rw [if_pos c3, natS_enc (by omega)]
        by_cases c4 : d.ver.toNat ≤ 1099511627776
        · rw [if_pos c4, natS_enc (by omega)]
          by_cases c5 : d.ses.toNat ≤ 1099511627776
          · rw [if_pos c5, natS_enc (by omega)]
            by_cases c6 : d.num.toNat ≤ 1099511627776
            · rw [if_pos c6]
              left
              have : ({ kind := ↑d.kind.toNat, key := strL d.key.data.toList, val := strL d.val.data.toList, ver := ↑d.ver.toNat, ses := ↑d.ses.toNat, num := ↑d.num.toNat } : Deed) = d := by
                cases d; simp only [strL_self] at *; simp; try omega
              rw [this]
            · right; rw [if_neg c6]; exact ⟨rfl, by omega⟩
          · right; rw [if_neg c5]; exact ⟨by simp only [natS_dry], by omega⟩
        · right; rw [if_neg c4]; exact ⟨by simp only [natS_dry], by omega⟩
      · right; rw [if_neg c3]; exact ⟨by simp only [natS_dry], by omega⟩
    · right; rw [if_neg c2]; exact ⟨by simp only [natS_dry, textS_dry], by omega⟩
  · right; rw [if_neg c1]; exact ⟨by simp only [natS_dry, textS_dry], by omega⟩
theorem getD_inv {s : Src} (h : (getD s).2.dry = false) : s.dry = false ∧ s.left = deedB (getD s).1 ++ (getD s).2.left ∧ DeedIn (getD s).1 48 ∧ goodB (getD s).1 = true := by
  unfold getD at h ⊢
  split at h
  · simp [dryS] at h
  · rename_i hc
    rw [if_neg hc]
    obtain ⟨h1, h2, h3⟩ := rawDeed_inv h
    simp at hc
    exact ⟨h1, h2, h3, by simpa using hc.2⟩
theorem getD_dry {s : Src} (h : (getD s).2.dry = true) : getD s = (noDeed, dryS) := by
  unfold getD at h ⊢
  split
  · rfl
  · rename_i hc
    rw [if_neg hc] at h
    exact absurd (.inl h) hc
end Go.Proofs.YtahajjfbkdocaaaDoor

namespace Go.Proofs.YtahajjfbkdocaaaDoor
open Go.RowKit
attribute [local go_sem] row_alloc row_drew row_drewN row_ext row_setCell row_setRow size_ext setRow_alloc setRow_drew loadOf storeOf piece_lit DV_piece loadVal_at storeVal_at allOne_lit DV_size DV_one
attribute [local go_sem high] cell_alloc frozen_alloc setCell_alloc cell_ext frozen_ext
attribute [local go_sem ↓] index_deps0 load_deps0 store_deps0
attribute [local go_sem] index_deps load_deps store_deps
def goodAt (d : Nat → Int) (n : Int) (i : Nat) : Bool := decide (0 ≤ d i ∧ d i ≤ 64 ∧ (n ≤ i → d i = 0))
def goodD (d : Nat → Int) (n : Int) : Bool := (List.range 7).all (goodAt d n)
theorem goodD_no {d : Nat → Int} {n : Int} (j : Nat) (hj : j < 7) (h : ¬ (0 ≤ d j ∧ d j ≤ 64 ∧ (n ≤ j → d j = 0))) : goodD d n = false := by
  rw [goodD, List.all_eq_false]
  exact ⟨j, by simpa using hj, by unfold goodAt; simpa only [decide_eq_true_eq] using h⟩
theorem goodD_yes {d : Nat → Int} {n : Int} (h : ∀ i, i < 7 → 0 ≤ d i ∧ d i ≤ 64 ∧ (n ≤ i → d i = 0)) : goodD d n = true := by
  rw [goodD, List.all_eq_true]
  intro i hi
  unfold goodAt
  rw [decide_eq_true_eq]
  exact h i (by simpa using hi)
set_option maxHeartbeats 1000000 in
theorem good_any (d : Nat → Int) (n : Int) : Ans Tryd.prog 45 #[.agg (DV d), .int .i64 n] (.bool (goodD d n)) := by
  intro w
  go_enter Tryd.func45, Tryd.ntmps45
  go_wp2
  go_loop [8] (fun i => ∃ j : Nat, j ≤ 7 ∧ i = .int .i64 j ∧ Hid (∀ k, k < j → 0 ≤ d k ∧ d k ≤ 64 ∧ (n ≤ k → d k = 0))) (fun i => 7 - (intOf i).toNat)
  case atStart => exact ⟨0, by omega, rfl, fun k hk => by omega⟩
  case round =>
    obtain ⟨j, hj, rfl, hG⟩ := hrel
    by_cases hlt : j < 7
    · have hno := @goodD_no d n j hlt
      have Hno := Lib.hid hno; clear hno
      by_cases hz : d j = 0
      · have hz' : (d j != 0) = false := by simp [hz]
        have Hz := Lib.hid hz; clear hz
        go_wp2
        all_goals first
          | (go_ret
             refine ⟨?_, (Below.refl _ _).alloc (Nat.le_refl _) _⟩
             exact congrArg (fun b => Ending.returned (.bool b)) (Hno.out (by omega)).symm)
          | (go_round
             case rel =>
               refine ⟨j + 1, by omega, by go_num, fun k hk => ?_⟩
               by_cases e : k = j
               · subst e; exact ⟨by omega, by omega, fun _ => Hz.out⟩
               · exact hG k (by omega)
             case measure => simp [intOf]; omega)
      · have hz' : (d j != 0) = true := by simp [hz]
        go_wp2
        all_goals first
          | (go_ret
             refine ⟨?_, (Below.refl _ _).alloc (Nat.le_refl _) _⟩
             exact congrArg (fun b => Ending.returned (.bool b)) (Hno.out (by omega)).symm)
          | (go_round
             case rel =>
               refine ⟨j + 1, by omega, by go_num, fun k hk => ?_⟩
               by_cases e : k = j
               · subst e; omega
               · exact hG k (by omega)
             case measure => simp [intOf]; omega)
    · obtain rfl : j = 7 := by omega
      have hy := goodD_yes hG
      have Hy := Lib.hid hy; clear hy
      go_wp2
      go_ret
      exact ⟨congrArg (fun b => Ending.returned (.bool b)) Hy.out.symm, (Below.refl _ _).alloc (Nat.le_refl _) _⟩
set_option maxHeartbeats 1000000 in
theorem rgood_any (d : Nat → Int) (n : Int) : Ans Tryd.prog 35 #[.agg (DV d), .int .i64 n] (.bool (goodD d n)) := by
  intro w
  go_enter Tryd.func35, Tryd.ntmps35
  go_wp2
  go_loop [5] (fun i => ∃ j : Nat, j ≤ 7 ∧ i = .int .i64 j ∧ Hid (∀ k, k < j → 0 ≤ d k ∧ d k ≤ 64 ∧ (n ≤ k → d k = 0))) (fun i => 7 - (intOf i).toNat)
  case atStart => exact ⟨0, by omega, rfl, fun k hk => by omega⟩
  case round =>
    obtain ⟨j, hj, rfl, hG⟩ := hrel
    by_cases hlt : j < 7
    · have hno := @goodD_no d n j hlt
      have Hno := Lib.hid hno; clear hno
      have hD := DV_get d j hlt
      by_cases hz : d j = 0
      · have hz' : (d j != 0) = false := by simp [hz]
        have Hz := Lib.hid hz; clear hz
        go_wp2
        all_goals first
          | (go_ret
             refine ⟨?_, (Below.refl _ _).alloc (Nat.le_refl _) _⟩
             exact congrArg (fun b => Ending.returned (.bool b)) (Hno.out (by omega)).symm)
          | (go_round
             case rel =>
               refine ⟨j + 1, by omega, by go_num, fun k hk => ?_⟩
               by_cases e : k = j
               · subst e; exact ⟨by omega, by omega, fun _ => Hz.out⟩
               · exact hG k (by omega)
             case measure => simp [intOf]; omega)
      · have hz' : (d j != 0) = true := by simp [hz]
        go_wp2
        all_goals first
          | (go_ret
             refine ⟨?_, (Below.refl _ _).alloc (Nat.le_refl _) _⟩
             exact congrArg (fun b => Ending.returned (.bool b)) (Hno.out (by omega)).symm)
          | (go_round
             case rel =>
               refine ⟨j + 1, by omega, by go_num, fun k hk => ?_⟩
               by_cases e : k = j
               · subst e; omega
               · exact hG k (by omega)
             case measure => simp [intOf]; omega)
    · obtain rfl : j = 7 := by omega
      have hy := goodD_yes hG
      have Hy := Lib.hid hy; clear hy
      go_wp2
      go_ret
      exact ⟨congrArg (fun b => Ending.returned (.bool b)) Hy.out.symm, (Below.refl _ _).alloc (Nat.le_refl _) _⟩
end Go.Proofs.YtahajjfbkdocaaaDoor
