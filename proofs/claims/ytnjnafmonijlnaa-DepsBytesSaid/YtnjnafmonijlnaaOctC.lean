/- Layer 4: a deed got from a source. -/
import Derived.Test.YtnjnafmonijlnaaOctB
import Derived.Test.YtnjnafmonijlnaaDeedC
import Derived.Test.YtnjnafmonijlnaaRes
namespace Go.Proofs.Ytnjnafmonijlnaa
open Go.RowKit
set_option linter.unusedVariables false
attribute [local go_sem] row_alloc row_drew row_drewN row_ext row_setCell row_setRow size_ext setRow_alloc setRow_drew loadOf storeOf piece_lit loadVal_at storeVal_at allOne_lit EV_size EV_one EV_piece EV_0 EV_1 EV_2 EV_3 EV_4 EV_5
attribute [local go_sem high] cell_alloc frozen_alloc setCell_alloc cell_ext frozen_ext
attribute [local go_sem ↓] load_deed0 store_deed0
attribute [local go_sem] load_deed store_deed
attribute [local go_sem high] run_eql_deed
attribute [local go_sem] zero_deed
/-- A source in memory. -/
abbrev srcR (g : Nat) (s : Src) : Res := rowR g (SV s)
section
variable (g : Nat) (s : Src)
theorem stopD : Does Try.prog 49 #[.pointer (some ⟨g, 0, none⟩)] [srcR g s] (.tuple #[]) [srcR g dryS] := fun W G h =>
  (stop_any (sat_row_get h)).mono fun e W' ⟨he, hr, hT, _⟩ => ⟨he, of_touch h hr hT⟩
theorem rawD (n : Int) (hn : -9223372036854775808 ≤ n ∧ n ≤ 9223372036854775807) : Does Try.prog 55 #[.pointer (some ⟨g, 0, none⟩), .int .i64 n] [srcR g s] (.string (strL (rawS s n).1)) [srcR g (rawS s n).2] := fun W G h =>
  (raw_any (sat_row_get h) n hn).mono fun e W' ⟨he, hr, hT, _⟩ => ⟨he, of_touch h hr hT⟩
theorem natD (most : Nat) (hm : most ≤ 1099511627776) : Does Try.prog 47 #[.pointer (some ⟨g, 0, none⟩), .int .i64 most] [srcR g s] (.int .i64 (natS s most).1) [srcR g (natS s most).2] := fun W G h =>
  (nat_any (sat_row_get h) most hm).mono fun e W' ⟨he, hr, hT, _⟩ => ⟨he, of_touch h hr hT⟩
theorem textD (most : Nat) (hm : most ≤ 1099511627776) : Does Try.prog 48 #[.pointer (some ⟨g, 0, none⟩), .int .i64 most] [srcR g s] (.string (strL (textS s most).1)) [srcR g (textS s most).2] := fun W G h =>
  (text_any (sat_row_get h) most hm).mono fun e W' ⟨he, hr, hT, _⟩ => ⟨he, of_touch h hr hT⟩
theorem dryD : Does Try.prog 35 #[.pointer (some ⟨g, 0, none⟩)] [srcR g s] (.bool s.dry) [srcR g s] := fun W G h =>
  (dry_any (sat_row_get h)).mono fun e W' ⟨he, hw⟩ => ⟨he, hw ▸ Sts.start h⟩
theorem leftD : Does Try.prog 37 #[.pointer (some ⟨g, 0, none⟩)] [srcR g s] (.int .i64 s.left.length) [srcR g s] := fun W G h =>
  (left_any (sat_row_get h)).mono fun e W' ⟨he, hw⟩ => ⟨he, hw ▸ Sts.start h⟩
end
def rawDeed (s : Src) : Deed × Src :=
  let k := natS s 5
  let key := textS k.2 16
  let val := textS key.2 32
  let ver := natS val.2 1099511627776
  let ses := natS ver.2 1099511627776
  let num := natS ses.2 1099511627776
  (⟨k.1, strL key.1, strL val.1, ver.1, ses.1, num.1⟩, num.2)
def getD (s : Src) : Deed × Src := if (rawDeed s).2.dry = true ∨ goodB (rawDeed s).1 = false then (noDeed, dryS) else rawDeed s
set_option maxHeartbeats 2000000 in
theorem getR (g : Nat) (s : Src) : Does Try.prog 34 #[.pointer (some ⟨g, 0, none⟩)] [srcR g s] (.agg (EV (getD s).1)) [srcR g (getD s).2] := by
  intro W G h
  have T := (Sts.start h).new (EV noDeed) 41
  have hlt := row_lt (sat_row_get h)
  go_enter Try.func34, Try.ntmps34
  go_wp2_with fail
  refine (Does.at1 (natD g s 5 (by omega)) T.swap).mono ?_; clear T; rintro e w1 ⟨rfl, T⟩
  go_wp2_with fail
  refine (Does.at1 (textD g _ 16 (by omega)) T).mono ?_; clear T; rintro e w2 ⟨rfl, T⟩
  go_wp2_with fail
  refine (Does.at1 (textD g _ 32 (by omega)) T).mono ?_; clear T; rintro e w3 ⟨rfl, T⟩
  go_wp2_with fail
  refine (Does.at1 (natD g _ 1099511627776 (by omega)) T).mono ?_; clear T; rintro e w4 ⟨rfl, T⟩
  go_wp2_with fail
  refine (Does.at1 (natD g _ 1099511627776 (by omega)) T).mono ?_; clear T; rintro e w5 ⟨rfl, T⟩
  go_wp2_with fail
  refine (Does.at1 (natD g _ 1099511627776 (by omega)) T).mono ?_; clear T; rintro e w6 ⟨rfl, T⟩
  have hrd : rawDeed s = (⟨(natS s 5).1, strL (textS (natS s 5).2 16).1, strL (textS (textS (natS s 5).2 16).2 32).1, (natS (textS (textS (natS s 5).2 16).2 32).2 1099511627776).1, (natS (natS (textS (textS (natS s 5).2 16).2 32).2 1099511627776).2 1099511627776).1, (natS (natS (natS (textS (textS (natS s 5).2 16).2 32).2 1099511627776).2 1099511627776).2 1099511627776).1⟩, (natS (natS (natS (textS (textS (natS s 5).2 16).2 32).2 1099511627776).2 1099511627776).2 1099511627776).2) := rfl
  generalize natS (natS (natS (textS (textS (natS s 5).2 16).2 32).2 1099511627776).2 1099511627776).2 1099511627776 = n6 at *
  generalize (natS (natS (textS (textS (natS s 5).2 16).2 32).2 1099511627776).2 1099511627776).1 = a5 at *
  generalize (natS (textS (textS (natS s 5).2 16).2 32).2 1099511627776).1 = a4 at *
  generalize strL (textS (textS (natS s 5).2 16).2 32).1 = a3 at *
  generalize strL (textS (natS s 5).2 16).1 = a2 at *
  generalize (natS s 5).1 = a1 at *
  obtain ⟨D, hD⟩ : ∃ D : Deed, D = ⟨a1, a2, a3, a4, a5, n6.1⟩ := ⟨_, rfl⟩
  have hEV : ((((((EV noDeed).setIfInBounds 0 (.int .i64 a1)).setIfInBounds 1 (.string a2)).setIfInBounds 2 (.string a3)).setIfInBounds 3 (.int .i64 a4)).setIfInBounds 4 (.int .i64 a5)).setIfInBounds 5 (.int .i64 n6.1) = EV D := by rw [hD]; rfl
  rw [← hD] at hrd
  have Hrd := Lib.hid hrd; clear hrd
  clear hD
  have hne : ¬ EV noDeed = #[] := fun e => by have := congrArg Array.size e; rw [EV_size] at this; simp at this
  have hl2 := row_lt T.row1
  have hr2 := T.row1
  clear h hlt
  have HH := Lib.hid hr2
  go_wp2_with fail
  have T := T.new (EV D) 41
  refine (Does.at1 (dryD g n6.2) T.swap).mono ?_; rintro e w8 ⟨rfl, T⟩
  clear hne HH
  have hr8 := T.row2
  have hs8 := row_lt hr8
  have hr1 := T.row1
  have hs1 := row_lt hr1
  have hz : w6.heap.size + 1 ≤ w8.heap.size := by have := T.size; omega
  cases hdr : n6.2.dry
  · go_wp2_with fail
    refine (Ans.at (good4_any D) T).mono ?_; rintro e w9 ⟨rfl, T⟩
    cases hgd : goodB D
    · have hget : getD s = (noDeed, dryS) := by unfold getD; rw [Hrd.out, if_pos (.inr hgd)]
      go_wp2_with fail
      refine (Does.at1 (stopD g n6.2) T).mono ?_; rintro e w10 ⟨rfl, T⟩
      have hr8 := T.row2
      have hs8 := row_lt hr8
      go_wp2
      exact ret_row (EV noDeed) Try.underlying41 rfl (by kernel_rfl) rfl rfl rfl (EV_size _) (row_setRow_same _ _ _ _ hr8) ⟨by rw [hget], by rw [hget]; exact (T.rot2.setRow (EV noDeed)).drop.swap.drop⟩
    · have hget : getD s = rawDeed s := by unfold getD; rw [Hrd.out, if_neg (by simp [hdr, hgd])]
      have hr8 := T.row2
      have hs8 := row_lt hr8
      have hr1 := T.row1
      go_wp2
      exact ret_row (EV D) Try.underlying41 rfl (by kernel_rfl) rfl rfl rfl (EV_size _) (row_setRow_same _ _ _ _ hr8) ⟨by rw [hget, Hrd.out], by rw [hget, Hrd.out]; exact (T.rot2.setRow (EV D)).drop.swap.drop⟩
  · have hget : getD s = (noDeed, dryS) := by unfold getD; rw [Hrd.out, if_pos (.inl hdr)]
    go_wp2_with fail
    refine (Does.at1 (stopD g n6.2) T).mono ?_; rintro e w10 ⟨rfl, T⟩
    have hr8 := T.row2
    have hs8 := row_lt hr8
    go_wp2
    exact ret_row (EV noDeed) Try.underlying41 rfl (by kernel_rfl) rfl rfl rfl (EV_size _) (row_setRow_same _ _ _ _ hr8) ⟨by rw [hget], by rw [hget]; exact (T.rot2.setRow (EV noDeed)).drop.swap.drop⟩
end Go.Proofs.Ytnjnafmonijlnaa
