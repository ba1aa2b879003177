/- Layer 5: the law of a call's bytes, walked. -/
import Derived.Test.YtnjnafmonijlnaaCallL
import Derived.Test.YtnjnafmonijlnaaOCall
namespace Go.Proofs.Ytnjnafmonijlnaa
open Go.RowKit
set_option linter.unusedVariables false
attribute [local go_sem] row_alloc row_drew row_drewN row_ext row_setCell row_setRow size_ext setRow_alloc setRow_drew loadOf storeOf piece_lit loadVal_at storeVal_at allOne_lit buildOf buildRes_some
attribute [local go_sem high] cell_alloc frozen_alloc setCell_alloc cell_ext frozen_ext
attribute [local go_sem ↓] TDeed_ld0 TDeed_st0 TDeed_fd0 TDeed_bd0
attribute [local go_sem] TDeed_size TDeed_one TDeed_piece TDeed_c0 TDeed_c1 TDeed_c2 TDeed_c3 TDeed_c4 TDeed_c5 TDeed_set_kind TDeed_set_key TDeed_set_val TDeed_set_ver TDeed_set_ses TDeed_set_num TDeed_ld TDeed_st TDeed_f_kind TDeed_f_key TDeed_f_val TDeed_f_ver TDeed_f_ses TDeed_f_num TDeed_bd TDeed_fl TDeed_fl_kind TDeed_fl_key TDeed_fl_val TDeed_fl_ver TDeed_fl_ses TDeed_fl_num
attribute [local go_sem high] TDeed_eql TDeed_neq
attribute [local go_sem ↓] index_deps0 load_deps0 store_deps0
attribute [local go_sem] DV_piece DV_size DV_one index_deps load_deps store_deps
attribute [local go_sem high] TDeps_eql TDeps_neq
attribute [local go_sem ↓] TCall_ld0 TCall_st0 TCall_fd0 TCall_bd0
attribute [local go_sem] TCall_size TCall_one TCall_piece TCall_c0 TCall_c1 TCall_c2 TCall_c3 TCall_c4 TCall_c5 TCall_c6 TCall_c7 TCall_c8 TCall_c9 TCall_c10 TCall_c11 TCall_c12 TCall_c13 TCall_p_deed TCall_put_deed TCall_p_deps TCall_put_deps TCall_set_seq TCall_ld TCall_st TCall_f_deed TCall_f_deps TCall_f_seq TCall_bd TCall_fl TCall_fl_deed TCall_fl_deps TCall_fl_seq
attribute [local go_sem high] TCall_eql TCall_neq
theorem fromB {w W : World} {F : Nat → Prop} {L : List Res} (T : Sts w F W L) (b : ByteArray) : Calls Try.prog 33 #[.string b] W fun e W' => e = .returned (.pointer (some ⟨W.heap.size, 0, none⟩)) ∧ Sts w F W' (srcR W.heap.size ⟨b.data.toList, false⟩ :: L) := by
  have := fromS T b.data.toList
  rw [strL_self] at this
  exact this
theorem callIn_of {c : Call} (h : CallFits c) {N : Nat} (hz : c.deed.key.size + c.deed.val.size ≤ N) : CallIn c N := by
  obtain ⟨⟨f1, f2, f3, f4, hk, hv⟩, h2, h3⟩ := h
  unfold Fits at *
  exact ⟨⟨by omega, by omega, by omega, by omega, hz⟩, fun i hi => by have := h2 i hi; omega, by omega⟩
set_option maxHeartbeats 4000000 in
set_option maxRecDepth 4000 in
theorem law_cbytes (c : Call) (m : ByteArray) (hf : CallFits c) (hm : m.size ≤ 140737488351232) : Ans Try.prog 14 #[.agg (CV c), .string m] (.bool true) := by
  refine Ans.of_sts fun w => ?_
  have T := (Sts.start0 w).new (CV c) 60
  have hk := hf.deed.key
  have hv := hf.deed.val
  by_cases hz : 200 < c.deed.key.size + c.deed.val.size
  · clear hf
    go_enter Try.func14, Try.ntmps14
    go_wp2_with fail
    refine (Ans.at alive5 T).mono ?_; clear T; rintro e w1 ⟨rfl, T⟩
    have hr := row_cell T.row
    have hz2 : (200 : Int) < (c.deed.key.size : Int) + (c.deed.val.size : Int) := by omega
    go_wp2
    go_ret
    exact ⟨rfl, T.nil⟩
  by_cases hms : 100 < m.size
  · clear hf
    go_enter Try.func14, Try.ntmps14
    go_wp2_with fail
    refine (Ans.at alive5 T).mono ?_; clear T; rintro e w1 ⟨rfl, T⟩
    have hr := row_cell T.row
    go_wp2
    go_ret
    exact ⟨rfl, T.nil⟩
  have hin : CallIn c 200 := callIn_of hf (by omega)
  have hlen := callB_len hin (by omega)
  have hB : (strL (callB c)).size = (callB c).length := strL_size _
  have happ : strL (callB c) ++ m = strL (callB c ++ m.data.toList) := strL_add _ _
  have hsz : (strL (callB c)).size + m.size ≤ 9223372036854775807 := by omega
  have HAPP := Lib.hid happ; clear happ hB
  have C2 := Lib.hid (refCallBytes c 200 hin (by omega))
  have c3 := rgoodC_any c 7
  have HG := Lib.hid (fun hg => getC_enc (c := c) (by omega) hin hg m.data.toList)
  have HI := Lib.hid (@getC_inv ⟨m.data.toList, false⟩)
  have HD := Lib.hid (@getC_dry ⟨m.data.toList, false⟩)
  have m0 : m.data.toList.length = m.size := rfl
  have M0 := Lib.hid m0; clear m0
  have hself : m = strL m.data.toList := (strL_self m).symm
  have HS := Lib.hid hself; clear hself
  clear hf
  go_enter Try.func14, Try.ntmps14
  go_wp2_with fail
  refine (Ans.at alive5 T).mono ?_; clear T; rintro e w1 ⟨rfl, T⟩
  have hr := T.row
  have hc := row_cell hr
  have hlt := row_lt hr
  have T := (T.new #[.slice none 0 0] 55)
  have T := (((T.swap.vecNil 5 1).perm (by exact (List.Perm.cons _ (.swap ..)).trans (.swap ..)) : Sts w _ _ [rowR w1.heap.size #[.slice none 0 0], byR (.slice none 0 0) [], rowR w.heap.size (CV c)]))
  have T := snk_shut T
  go_wp2_with fail
  refine (Does.at1 (callPutD w1.heap.size [] c 200 hin (by omega) (by simp)) T).mono ?_; clear T hr hlt hc; rintro e w3 ⟨rfl, T⟩
  rw [List.nil_append] at T
  generalize w1.heap.size = g at *
  go_wp2_with fail
  refine (Does.at1 (sinkBytesD g _) T).mono ?_; clear T; rintro e w5 ⟨rfl, T⟩
  have happ := HAPP.out
  go_wp2_with fail
  refine (fromS T _).mono ?_; clear T; rintro e w6 ⟨rfl, T⟩
  clear happ HAPP hsz
  generalize w5.heap.size = g2 at *
  go_wp2_with fail
  refine (Does.at1 (callGetD g2 _) T).mono ?_; clear T; rintro e w7 ⟨rfl, T⟩
  obtain ⟨x, s1, hx⟩ : ∃ x s1, getC ⟨callB c ++ m.data.toList, false⟩ = (x, s1) := ⟨_, _, rfl⟩
  have HG := HG.out
  rw [hx] at T HG ⊢
  simp only at T ⊢
  have T := T.new (CV x) 60
  -- rows: x, source, sink, c
  cases hgc : goodC c 7
  · rw [hgc] at c3 HG
    have C3 := Lib.hid c3; clear c3 hgc HG hx
    have hr3 := T.row3
    have hr0 := T.row
    have hlt := row_lt hr3
    have TS := T.rot2
    go_wp2_with fail
    refine wp_region_ext (by kernel_rfl) (by kernel_rfl) ?_
    repeat (go_big_quiet_step (first | (go_at_call 39; exact quiet_of_eq (sinkBytesQ (TS.ext _))) | (go_at_call 42; exact C2.out.quiet) | (go_at_call 43; exact C3.out.quiet)))
    refine wpQuiet_nil ?_
    rintro _ ⟨x9, rfl⟩
    have T := T.ext x9
    have T := T.drop.drop.drop.drop
    generalize ext _ x9 = w8 at *
    clear hr3 hr0 hlt TS C3
    go_wp2_with fail
    refine (fromB T m).mono ?_; clear T; rintro e w9 ⟨rfl, T⟩
    clear C2 hin hlen hk hv hz
    have HI := HI.out; have HD := HD.out
    generalize w8.heap.size = g3 at *
    go_wp2_with fail
    refine (Does.at1 (callGetD g3 _) T).mono ?_; clear T; rintro e w10 ⟨rfl, T⟩
    obtain ⟨y, s2, hy⟩ : ∃ y s2, getC ⟨m.data.toList, false⟩ = (y, s2) := ⟨_, _, rfl⟩
    rw [hy] at T HI HD ⊢
    simp only at T HI HD ⊢
    have T := T.new (CV y) 60
    cases hdr : s2.dry
    · obtain ⟨-, h2, h3, h4⟩ := HI hdr
      have C1 := Lib.hid (rgood4_any y.deed); have C2 := Lib.hid (refCallBytes y 48 h3 (by omega)); have C3 := Lib.hid (rgoodC_any y 7)
      rw [h4] at C3
      have hgd : goodB y.deed = true := by
        simp only [goodC, Bool.and_eq_true] at h4; exact h4.1.1.1
      rw [hgd] at C1
      have hl2 : m.size = (callB y).length + s2.left.length := by rw [← List.length_append, ← h2]; rfl
      have hle : s2.left.length ≤ m.size := by omega
      have hsub : m.size - s2.left.length = (callB y).length := by omega
      have hcut : m.extract 0 (callB y).length = strL (callB y) := by
        have e := strL_take m.data.toList (callB y).length
        rw [strL_self] at e
        rw [e, h2, List.take_left]
      have HSUB := Lib.hid hsub; have HCUT := Lib.hid hcut
      clear h2 h3 h4 HD HI hl2 hsub hcut hgd hy HS M0
      go_wp2_with fail
      refine (Does.at1 (dryD g3 _) T.swap).mono ?_; clear T; rintro e w11 ⟨rfl, T⟩
      have hr := T.row1
      have hlt := row_lt hr
      go_wp2_with fail
      refine (Ans.at C1.out T).mono ?_; clear T hr hlt; rintro e w12 ⟨rfl, T⟩
      have hr := T.row1
      have hlt := row_lt hr
      go_wp2_with fail
      refine (Ans.at C3.out T).mono ?_; clear T hr hlt; rintro e w13 ⟨rfl, T⟩
      have hr := T.row1
      have hlt := row_lt hr
      go_wp2_with fail
      refine (Ans.at C2.out T).mono ?_; clear T hr hlt; rintro e w14 ⟨rfl, T⟩
      go_wp2_with fail
      refine (Does.at1 (leftD g3 _) T).mono ?_; clear T; rintro e w15 ⟨rfl, T⟩
      go_wp2_with fail
      go_ret
      exact ⟨congrArg (fun b => Ending.returned (.bool b)) (by rw [HSUB.out, HCUT.out]; simp), T.nil⟩
    · have hd := HD hdr
      subst hd
      clear HD HI hy
      go_wp2_with fail
      refine (Does.at1 (dryD g3 _) T.swap).mono ?_; clear T; rintro e w11 ⟨rfl, T⟩
      have hr := T.row1
      have hlt := row_lt hr
      have he := eqA_refl (CV noCall)
      go_wp2
      go_ret
      exact ⟨rfl, T.nil⟩
  · rw [hgc] at c3 HG
    have C3 := Lib.hid c3; clear c3 hgc
    obtain ⟨c', h1, h2⟩ := HG rfl
    injection h1 with e1 e2
    subst e1; subst e2
    clear HG hx
    rw [h2] at T ⊢
    have hr3 := T.row3
    have hr0 := T.row
    have hlt := row_lt hr3
    have hlt0 := row_lt hr0
    have TS := T.rot2
    have hsrc := T.row1
    have he := eqA_refl (CV c)
    have M0 := M0.out
    go_wp2_with fail
    refine wp_region_ext (by kernel_rfl) (by kernel_rfl) ?_
    repeat (go_big_quiet_step (first | (go_at_call 39; exact quiet_of_eq (sinkBytesQ (TS.ext _))) | (go_at_call 42; exact C2.out.quiet) | (go_at_call 43; exact C3.out.quiet) | (go_at_call 37; exact quiet_of_eq (left_any (T.ext _).row1)) | (go_at_call 35; exact quiet_of_eq (dry_any (T.ext _).row1))))
    refine wpQuiet_nil ?_
    rintro _ ⟨x9, rfl⟩
    have T := T.ext x9
    have T := T.drop.drop.drop.drop
    generalize ext _ x9 = w8 at *
    clear hr3 hr0 hlt TS C3 hlt0 hsrc he M0
    go_wp2_with fail
    refine (fromB T m).mono ?_; clear T; rintro e w9 ⟨rfl, T⟩
    clear C2 hin hlen hk hv hz
    have HI := HI.out; have HD := HD.out
    generalize w8.heap.size = g3 at *
    go_wp2_with fail
    refine (Does.at1 (callGetD g3 _) T).mono ?_; clear T; rintro e w10 ⟨rfl, T⟩
    obtain ⟨y, s2, hy⟩ : ∃ y s2, getC ⟨m.data.toList, false⟩ = (y, s2) := ⟨_, _, rfl⟩
    rw [hy] at T HI HD ⊢
    simp only at T HI HD ⊢
    have T := T.new (CV y) 60
    cases hdr : s2.dry
    · obtain ⟨-, h2, h3, h4⟩ := HI hdr
      have C1 := Lib.hid (rgood4_any y.deed); have C2 := Lib.hid (refCallBytes y 48 h3 (by omega)); have C3 := Lib.hid (rgoodC_any y 7)
      rw [h4] at C3
      have hgd : goodB y.deed = true := by
        simp only [goodC, Bool.and_eq_true] at h4; exact h4.1.1.1
      rw [hgd] at C1
      have hl2 : m.size = (callB y).length + s2.left.length := by rw [← List.length_append, ← h2]; rfl
      have hle : s2.left.length ≤ m.size := by omega
      have hsub : m.size - s2.left.length = (callB y).length := by omega
      have hcut : m.extract 0 (callB y).length = strL (callB y) := by
        have e := strL_take m.data.toList (callB y).length
        rw [strL_self] at e
        rw [e, h2, List.take_left]
      have HSUB := Lib.hid hsub; have HCUT := Lib.hid hcut
      clear h2 h3 h4 HD HI hl2 hsub hcut hgd hy HS M0
      go_wp2_with fail
      refine (Does.at1 (dryD g3 _) T.swap).mono ?_; clear T; rintro e w11 ⟨rfl, T⟩
      have hr := T.row1
      have hlt := row_lt hr
      go_wp2_with fail
      refine (Ans.at C1.out T).mono ?_; clear T hr hlt; rintro e w12 ⟨rfl, T⟩
      have hr := T.row1
      have hlt := row_lt hr
      go_wp2_with fail
      refine (Ans.at C3.out T).mono ?_; clear T hr hlt; rintro e w13 ⟨rfl, T⟩
      have hr := T.row1
      have hlt := row_lt hr
      go_wp2_with fail
      refine (Ans.at C2.out T).mono ?_; clear T hr hlt; rintro e w14 ⟨rfl, T⟩
      go_wp2_with fail
      refine (Does.at1 (leftD g3 _) T).mono ?_; clear T; rintro e w15 ⟨rfl, T⟩
      go_wp2_with fail
      go_ret
      exact ⟨congrArg (fun b => Ending.returned (.bool b)) (by rw [HSUB.out, HCUT.out]; simp), T.nil⟩
    · have hd := HD hdr
      subst hd
      clear HD HI hy
      go_wp2_with fail
      refine (Does.at1 (dryD g3 _) T.swap).mono ?_; clear T; rintro e w11 ⟨rfl, T⟩
      have hr := T.row1
      have hlt := row_lt hr
      have he := eqA_refl (CV noCall)
      go_wp2
      go_ret
      exact ⟨rfl, T.nil⟩
end Go.Proofs.Ytnjnafmonijlnaa
