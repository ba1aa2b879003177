/- Layer 4: the laws of a deed's bytes, walked. -/
import Derived.Test.YtnjnafmonijlnaaGetLaw
import Derived.Test.YtnjnafmonijlnaaDeedF
import Derived.Test.YtnjnafmonijlnaaOpenDeed
namespace Go.Proofs.Ytnjnafmonijlnaa
open Go.RowKit
set_option linter.unusedVariables false
attribute [local go_sem] row_alloc row_drew row_drewN row_ext row_setCell row_setRow size_ext setRow_alloc setRow_drew loadOf storeOf piece_lit loadVal_at storeVal_at allOne_lit EV_size EV_one EV_piece EV_0 EV_1 EV_2 EV_3 EV_4 EV_5
attribute [local go_sem high] cell_alloc frozen_alloc setCell_alloc cell_ext frozen_ext
attribute [local go_sem ↓] load_deed0 store_deed0
attribute [local go_sem] load_deed store_deed
attribute [local go_sem high] run_eql_deed
attribute [local go_sem] zero_deed
theorem fromS {w W : World} {F : Nat → Prop} {L : List Res} (T : Sts w F W L) (l : List UInt8) : Calls Try.prog 33 #[.string (strL l)] W fun e W' => e = .returned (.pointer (some ⟨W.heap.size, 0, none⟩)) ∧ Sts w F W' (srcR W.heap.size ⟨l, false⟩ :: L) :=
  (from_any W l).mono fun e W' ⟨he, hr, hb, _⟩ => ⟨he, T.found hb (Nat.le_refl _) hr⟩
set_option maxHeartbeats 1000000 in
theorem law_gets (b : ByteArray) (hb : b.size ≤ 140737488351232) : Ans Try.prog 12 #[.string b] (.bool true) := by
  refine Ans.of_sts fun w => ?_
  have T := Sts.start0 w
  by_cases hz : 200 < b.size
  · go_enter Try.func12, Try.ntmps12
    go_wp2_with fail
    refine (Ans.at alive4 T).mono ?_; clear T; rintro e w1 ⟨rfl, T⟩
    go_wp2
    go_ret
    exact ⟨rfl, T⟩
  · obtain ⟨l, rfl⟩ : ∃ l, b = strL l := ⟨b.data.toList, (strL_self b).symm⟩
    have hzl := strL_size l
    have inv := @getD_inv ⟨l, false⟩
    have dry := @getD_dry ⟨l, false⟩
    go_enter Try.func12, Try.ntmps12
    go_wp2_with fail
    refine (Ans.at alive4 T).mono ?_; clear T; rintro e w1 ⟨rfl, T⟩
    have HI := Lib.hid inv; have HD := Lib.hid dry; have HZ := Lib.hid hzl
    clear inv dry hzl
    go_wp2_with fail
    refine (fromS T l).mono ?_; clear T; rintro e w2 ⟨rfl, T⟩
    generalize w1.heap.size = g at *
    go_wp2_with fail
    refine (Does.at1 (getR g _) T).mono ?_; clear T; rintro e w3 ⟨rfl, T⟩
    obtain ⟨d, s', hds⟩ : ∃ d s', getD ⟨l, false⟩ = (d, s') := ⟨_, _, rfl⟩
    have HI := HI.out; have HD := HD.out
    rw [hds] at T HI HD ⊢
    simp only at T HI HD ⊢
    cases hdr : s'.dry
    · obtain ⟨-, h2, h3, h4⟩ := HI hdr
      have hl2 : l.length = (deedB d).length + s'.left.length := by rw [← List.length_append, ← h2]
      have hcut : (strL l).extract 0 (deedB d).length = strL (deedB d) := by
        rw [strL_take, h2, List.take_left]
      have C1 := Lib.hid (rgood4_any d); have C2 := Lib.hid (refDeedBytes d 48 h3 (by omega))
      rw [h4] at C1
      have T := T.new (EV d) 41
      have hsz : (strL l).size = (deedB d).length + s'.left.length := by rw [strL_size]; exact hl2
      clear h2 h3 h4 HD HI hl2
      have hle : s'.left.length ≤ (strL l).size := by omega
      have hle2 : (strL l).size ≤ 200 := by omega
      have hsub : (strL l).size - s'.left.length = (deedB d).length := by omega
      have HSZ := Lib.hid hsz; clear hsz
      have HSUB := Lib.hid hsub; clear hsub
      have HCUT := Lib.hid hcut; clear hcut
      generalize strL l = B at *
      go_wp2_with fail
      refine (Does.at1 (dryD g _) T.swap).mono ?_; clear T; rintro e w4 ⟨rfl, T⟩
      have hr := T.row1
      have hlt := row_lt hr
      go_wp2_with fail
      refine (Ans.at C1.out T).mono ?_; clear T hr hlt; rintro e w5 ⟨rfl, T⟩
      have hr := T.row1
      have hlt := row_lt hr
      go_wp2_with fail
      refine (Ans.at C2.out T).mono ?_; clear T hr hlt; rintro e w6 ⟨rfl, T⟩
      go_wp2_with fail
      refine (Does.at1 (leftD g _) T).mono ?_; clear T; rintro e w7 ⟨rfl, T⟩
      go_wp2_with fail
      go_ret
      refine ⟨congrArg (fun b => Ending.returned (.bool b)) ?_, T.nil⟩
      rw [HSUB.out, HCUT.out]; simp
    · have hd := HD hdr
      injection hd with e1 e2
      subst e1; subst e2
      have T := T.new (EV noDeed) 41
      clear HD HI
      go_wp2_with fail
      refine (Does.at1 (dryD g _) T.swap).mono ?_; clear T; rintro e w4 ⟨rfl, T⟩
      have hr := T.row1
      have hlt := row_lt hr
      have he : eqE noDeed noDeed = true := by simp [eqE]
      go_wp2
      go_ret
      exact ⟨rfl, T.nil⟩
theorem eqE_refl (d : Deed) : eqE d d = true := by simp [eqE]
set_option maxHeartbeats 2000000 in
set_option maxRecDepth 4000 in
theorem law_bytes (d : Deed) (m : ByteArray) (hd : DeedFits d) (hm : m.size ≤ 140737488351232) :
    Ans Try.prog 13 #[.agg (EV d), .string m] (.bool true) := by
  refine Ans.of_sts fun w => ?_
  have T := (Sts.start0 w).new (EV d) 41
  have c1 := great_any d hd.key hd.val
  obtain ⟨f1, f2, f3, f4, hk, hv⟩ := hd
  unfold Fits at f1 f2 f3 f4
  by_cases hz : greatB d = true ∨ 100 < m.size
  · have C1 := Lib.hid c1; clear c1
    go_enter Try.func13, Try.ntmps13
    go_wp2_with fail
    refine (Ans.at alive4 T).mono ?_; clear T; rintro e w1 ⟨rfl, T⟩
    have hr := T.row
    have hlt := row_lt hr
    go_wp2_with fail
    refine (Ans.at C1.out T).mono ?_; clear T hr hlt; rintro e w2 ⟨rfl, T⟩
    cases hg : greatB d
    · have h100 : 100 < m.size := by simpa [hg] using hz
      clear hz
      go_wp2
      go_ret
      exact ⟨rfl, T.nil⟩
    · clear hz
      go_wp2
      go_ret
      exact ⟨rfl, T.nil⟩
  · obtain ⟨hg, hms⟩ : greatB d = false ∧ ¬ 100 < m.size := by simp at hz; exact ⟨by simpa using hz.1, by omega⟩
    rw [hg] at c1
    have C1 := Lib.hid c1; clear c1
    have hgd : d.key.size + d.val.size ≤ 200 := by simp [greatB] at hg; omega
    have hin : DeedIn d 200 := ⟨⟨f1.1, by have := f1.2; omega⟩, ⟨f2.1, by have := f2.2; omega⟩, ⟨f3.1, by have := f3.2; omega⟩, ⟨f4.1, by have := f4.2; omega⟩, hgd⟩
    have C2 := Lib.hid (refDeedBytes d 200 hin (by omega))
    have C3 := Lib.hid (rgood4_any d)
    have hlen := deedB_len hin (by omega)
    have hB : (strL (deedB d)).size = (deedB d).length := strL_size _
    have HG := Lib.hid (fun h0 => rawDeed_enc (d := d) (more := m.data.toList) (by omega) hin h0)
    clear hz hg hk hv hm f1 f2 f3 f4
    go_enter Try.func13, Try.ntmps13
    go_wp2_with fail
    refine (Ans.at alive4 T).mono ?_; clear T; rintro e w1 ⟨rfl, T⟩
    have hr := T.row
    have hlt := row_lt hr
    go_wp2_with fail
    refine (Ans.at C1.out T).mono ?_; clear T hr hlt; rintro e w2 ⟨rfl, T⟩
    have T := (T.new #[.slice none 0 0] 55)
    have hr := T.row1
    have hlt := row_lt hr
    have T := (((T.swap.vecNil 5 1).perm (by exact (List.Perm.cons _ (.swap ..)).trans (.swap ..)) : Sts w _ _ [rowR w2.heap.size #[.slice none 0 0], byR (.slice none 0 0) [], rowR w.heap.size (EV d)]))
    have T := snk_shut T
    go_wp2_with fail
    refine (Does.at1 (deedPutD w2.heap.size [] d 200 hin (by omega) (by simp)) T).mono ?_; clear T hr hlt; rintro e w3 ⟨rfl, T⟩
    rw [List.nil_append] at T
    generalize w2.heap.size = g at *
    have hr := T.row1
    have hlt := row_lt hr
    have happ : strL (deedB d) ++ m = strL (deedB d ++ m.data.toList) := strL_add _ _
    have hsz : (strL (deedB d)).size + m.size ≤ 9223372036854775807 := by omega
    have HAPP := Lib.hid happ; clear happ hB
    go_wp2_with fail
    refine wp_region_ext (by kernel_rfl) (by kernel_rfl) ?_
    repeat (go_big_quiet_step (first | (go_at_call 39; exact quiet_of_eq (sinkBytesQ (T.ext _))) | (go_at_call 36; exact C2.out.quiet)))
    refine wpQuiet_nil ?_
    rintro _ ⟨x9, rfl⟩
    have T := T.ext x9
    generalize ext w3 x9 = w4 at *
    clear hr hlt
    have hr := T.row1
    have hlt := row_lt hr
    have hc := row_cell hr
    by_cases k1 : d.kind < 0
    · go_wp2
      go_ret
      exact ⟨rfl, T.nil⟩
    by_cases k2 : d.ver < 0
    · go_wp2
      go_ret
      exact ⟨rfl, T.nil⟩
    by_cases k3 : d.ses < 0
    · go_wp2
      go_ret
      exact ⟨rfl, T.nil⟩
    by_cases k4 : d.num < 0
    · go_wp2
      go_ret
      exact ⟨rfl, T.nil⟩
    have hgot := HG.out ⟨by omega, by omega, by omega, by omega⟩
    clear HG
    have hgt : getD ⟨deedB d ++ m.data.toList, false⟩ = if goodB d = true then (d, ⟨m.data.toList, false⟩) else (noDeed, dryS) := by
      unfold getD
      rcases hgot with h | ⟨h, h2⟩
      · rw [h]; simp only [Bool.false_eq_true, false_or]
        cases hgd : goodB d <;> simp
      · rw [h, if_pos (.inl rfl), if_neg]
        intro hgd
        simp only [goodB, decide_eq_true_eq] at hgd
        obtain ⟨_, a1, _, a2, _, a3, a4, _, a5, a6⟩ := hgd
        refine h2 ⟨?_, a3, a4, a5, a1, a2⟩
        unfold Kinds at a6; omega
    have HGT := Lib.hid hgt; clear hgt hgot
    have m0 : m.data.toList.length = m.size := rfl
    have M0 := Lib.hid m0; clear m0
    go_wp2_with fail
    refine (Does.at1 (sinkBytesD g _) T).mono ?_; clear T hr hlt hc; rintro e w5 ⟨rfl, T⟩
    have happ := HAPP.out
    go_wp2_with fail
    refine (fromS T _).mono ?_; clear T; rintro e w6 ⟨rfl, T⟩
    clear happ HAPP hsz
    generalize w5.heap.size = g2 at *
    go_wp2_with fail
    refine (Does.at1 (getR g2 _) T).mono ?_; clear T; rintro e w7 ⟨rfl, T⟩
    rw [HGT.out] at T ⊢
    cases hgd : goodB d
    · rw [hgd] at T C3
      simp only [Bool.false_eq_true, if_false] at T ⊢
      have T := T.new (EV noDeed) 41
      have hr := T.row3
      have hlt := row_lt hr
      go_wp2_with fail
      refine (Ans.at C3.out T).mono ?_; clear T hr hlt; rintro e w8 ⟨rfl, T⟩
      have hr := T.row
      have hlt := row_lt hr
      have he : eqE noDeed noDeed = true := by simp [eqE]
      go_wp2_with fail
      refine (Does.at1 (dryD g2 _) T.swap).mono ?_; clear T hr hlt; rintro e w9 ⟨rfl, T⟩
      go_wp2
      go_ret
      exact ⟨rfl, T.nil⟩
    · rw [hgd] at T C3
      simp only [if_true] at T ⊢
      have T := T.new (EV d) 41
      have hr := T.row3
      have hlt := row_lt hr
      go_wp2_with fail
      refine (Ans.at C3.out T).mono ?_; clear T hr hlt; rintro e w8 ⟨rfl, T⟩
      have hr := T.row
      have hlt := row_lt hr
      have hr3 := T.row3
      have he := eqE_refl d
      go_wp2_with fail
      refine (Does.at1 (leftD g2 _) T.swap).mono ?_; clear T hr hlt hr3; rintro e w9 ⟨rfl, T⟩
      have M0 := M0.out
      go_wp2_with fail
      refine (Does.at1 (dryD g2 _) T).mono ?_; clear T; rintro e w10 ⟨rfl, T⟩
      go_wp2
      go_ret
      exact ⟨rfl, T.nil⟩
end Go.Proofs.Ytnjnafmonijlnaa
