import Derived.Test.YtnjnafmonijlnaaDeedE
namespace Go.Proofs.Ytnjnafmonijlnaa
open Go.RowKit
set_option linter.unusedVariables false
attribute [local go_sem] row_alloc row_drew row_drewN row_ext row_setCell row_setRow size_ext setRow_alloc setRow_drew loadOf storeOf piece_lit loadVal_at storeVal_at allOne_lit EV_size EV_one EV_piece EV_0 EV_1 EV_2 EV_3 EV_4 EV_5
attribute [local go_sem high] cell_alloc frozen_alloc setCell_alloc cell_ext frozen_ext
attribute [local go_sem ↓] load_deed0 store_deed0
attribute [local go_sem] load_deed store_deed

attribute [local go_sem high] run_eql_deed
attribute [local go_sem] zero_deed



def greatB (d : Deed) : Bool := decide (200 < (d.key.size : Int) + d.val.size)
set_option maxHeartbeats 1000000 in
theorem great_any (d : Deed) (hk : d.key.size ≤ 140737488351232) (hv : d.val.size ≤ 140737488351232) : Ans Try.prog 26 #[.agg (EV d)] (.bool (greatB d)) := by
  intro w
  go_enter Try.func26, Try.ntmps26
  go_wp2
  go_ret
  exact ⟨rfl, (Below.refl _ _).alloc (Nat.le_refl _) _⟩
def putA : Deed := ⟨2, ⟨#[97]⟩, ByteArray.empty, 0, 0, 0⟩
def listA : Deed := ⟨5, ByteArray.empty, ByteArray.empty, 0, 0, 0⟩
def getA : Deed := ⟨1, ⟨#[97]⟩, ByteArray.empty, 0, 0, 0⟩
theorem preB_empty (s : ByteArray) : preB s ByteArray.empty = true := by
  unfold preB
  simp
set_option maxHeartbeats 1000000 in
theorem alive4 : Ans Try.prog 25 #[] (.bool true) := by
  intro w
  have m1 : (⟨#[97]⟩ : ByteArray).size ≤ maxLen := by unfold maxLen; decide
  have m0 : ByteArray.empty.size ≤ maxLen := by unfold maxLen; decide
  have c1 := clash_any putA listA m1 m0
  have c2 := clash_any getA getA m1 m1
  have c3 := good4_any noDeed
  rw [show clashB putA listA = true by simp [clashB, putA, listA, touchB, aboutB, writes, preB_empty]] at c1
  rw [show clashB getA getA = false by simp [clashB, getA, touchB, writes]] at c2
  rw [show goodB noDeed = true by rfl] at c3
  have C1 := Lib.hid c1; have C2 := Lib.hid c2; have C3 := Lib.hid c3
  clear c1 c2 c3 m1 m0
  go_enter Try.func25, Try.ntmps25
  go_wp2_with fail
  refine (Ans.call C1.out _).mono ?_
  rintro e w1 ⟨rfl, hb1⟩
  go_wp2_with fail
  refine (Ans.call C2.out _).mono ?_
  rintro e w2 ⟨rfl, hb2⟩
  go_wp2_with fail
  refine (Ans.call C3.out _).mono ?_
  rintro e w3 ⟨rfl, hb3⟩
  go_wp2_with fail
  go_ret
  exact ⟨rfl, hb1.trans ((hb2.mono hb1.size).trans (hb3.mono (Nat.le_trans hb1.size hb2.size)))⟩
set_option maxHeartbeats 1000000 in
theorem law_good (d : Deed) (hk : d.key.size ≤ 140737488351232) (hv : d.val.size ≤ 140737488351232) : Ans Try.prog 8 #[.agg (EV d)] (.bool true) := by
  intro w
  have c1 := great_any d hk hv
  have C2 := Lib.hid (good4_any d); have C3 := Lib.hid (rgood4_any d); have C4 := Lib.hid (writes_any d); have C5 := Lib.hid (rwrites_any d)
  have hg : ∀ b : Bool, (b == b) = true := by simp
  have T := (St.start w).new (EV d) 41
  generalize goodB d = gb at *
  generalize writes d = wb at *
  cases hgr : greatB d
  all_goals rw [hgr] at c1
  all_goals have C1 := Lib.hid c1
  all_goals clear c1 hk hv hgr
  · go_enter Try.func8, Try.ntmps8
    go_wp2_with fail
    refine (Ans.call alive4 _).mono ?_
    rintro e w1 ⟨rfl, hb⟩
    replace T := T.call hb; clear hb
    have k := T.2; simp only [Knows] at k
    go_wp2_with fail
    refine wp_region_st (by kernel_rfl) (by kernel_rfl) ?_
    repeat (go_big_quiet_step (first | (go_at_call 26; exact C1.out.quiet) | (go_at_call 27; exact C2.out.quiet) | (go_at_call 28; exact C3.out.quiet) | (go_at_call 29; exact C4.out.quiet) | (go_at_call 30; exact C5.out.quiet)))
    refine wpQuiet_nil ?_
    rintro _ ⟨x9, rfl⟩
    go_wp2_with fail
    go_ret
    exact ⟨rfl, (T.ext x9).below⟩
  · go_enter Try.func8, Try.ntmps8
    go_wp2_with fail
    refine (Ans.call alive4 _).mono ?_
    rintro e w1 ⟨rfl, hb⟩
    replace T := T.call hb; clear hb
    have k := T.2; simp only [Knows] at k
    go_wp2_with fail
    refine wp_region_st (by kernel_rfl) (by kernel_rfl) ?_
    repeat (go_big_quiet_step (first | (go_at_call 26; exact C1.out.quiet)))
    refine wpQuiet_nil ?_
    rintro _ ⟨x9, rfl⟩
    go_wp2_with fail
    go_ret
    exact ⟨rfl, (T.ext x9).below⟩
end Go.Proofs.Ytnjnafmonijlnaa
