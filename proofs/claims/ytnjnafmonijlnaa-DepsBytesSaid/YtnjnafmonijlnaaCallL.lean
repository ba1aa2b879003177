/- Layer 5: the law of a call's bytes. -/
import Derived.Test.YtnjnafmonijlnaaCallB
import Derived.Test.YtnjnafmonijlnaaDeedL
import Derived.Test.YtnjnafmonijlnaaDepsB
namespace Go.Proofs.Ytnjnafmonijlnaa
open Go.RowKit
set_option linter.unusedVariables false
attribute [local go_sem] row_alloc row_drew row_drewN row_ext row_setCell row_setRow size_ext setRow_alloc setRow_drew loadOf storeOf piece_lit loadVal_at storeVal_at allOne_lit buildOf buildRes_some
attribute [local go_sem high] cell_alloc frozen_alloc setCell_alloc cell_ext frozen_ext
attribute [local go_sem ↓] TDeed_ld0 TDeed_st0 TDeed_fd0 TDeed_bd0
attribute [local go_sem] TDeed_size TDeed_one TDeed_piece TDeed_c0 TDeed_c1 TDeed_c2 TDeed_c3 TDeed_c4 TDeed_c5 TDeed_set_kind TDeed_set_key TDeed_set_val TDeed_set_ver TDeed_set_ses TDeed_set_num TDeed_ld TDeed_st TDeed_f_kind TDeed_f_key TDeed_f_val TDeed_f_ver TDeed_f_ses TDeed_f_num TDeed_bd TDeed_fl TDeed_fl_kind TDeed_fl_key TDeed_fl_val TDeed_fl_ver TDeed_fl_ses TDeed_fl_num
attribute [local go_sem high] TDeed_eql TDeed_neq
attribute [local go_sem ↓] index_deps0 load_deps0 store_deps0
attribute [local go_sem] DV_piece DV_size DV_one index_deps load_deps store_deps
attribute [local go_sem high] TDeps_eql TDeps_neq
attribute [local go_sem ↓] TCall_ld0 TCall_st0 TCall_fd0 TCall_bd0
attribute [local go_sem] TCall_size TCall_one TCall_piece TCall_c0 TCall_c1 TCall_c2 TCall_c3 TCall_c4 TCall_c5 TCall_c6 TCall_c7 TCall_c8 TCall_c9 TCall_c10 TCall_c11 TCall_c12 TCall_c13 TCall_p_deed TCall_put_deed TCall_p_deps TCall_put_deps TCall_set_seq TCall_ld TCall_st TCall_f_deed TCall_f_deps TCall_f_seq TCall_bd TCall_fl TCall_fl_deed TCall_fl_deps TCall_fl_seq
attribute [local go_sem high] TCall_eql TCall_neq
set_option maxHeartbeats 1000000 in
theorem refCallBytes (c : Call) (N : Nat) (h : CallIn c N) (hN : N ≤ 100000) : Ans Try.prog 42 #[.agg (CV c)] (.string (strL (callB c))) := by
  refine Ans.of_sts fun w => ?_
  have T := (Sts.start0 w).new (CV c) 60
  have C1 := Lib.hid (refDeedBytes c.deed N h.deed (by omega))
  have hl1 := deedB_len h.deed (by omega)
  have hr := T.row
  go_enter Try.func42, Try.ntmps42
  go_wp2_with fail
  refine (Ans.at C1.out T).mono ?_; clear T hr; rintro e w1 ⟨rfl, T⟩
  go_wp2
  go_loopw [3, 4] (fun s i wr => ∃ k : Nat, k ≤ 7 ∧ i = .int .i64 k ∧ s = .string (strL (deedB c.deed ++ encs ((depsL c.deps).take k))) ∧ Sts w (fun _ => False) wr [rowR w.heap.size (CV c)]) (fun _ i _ => 7 - (intOf i).toNat)
  case atStart => exact ⟨0, by omega, rfl, by simp [encs], T⟩
  case round =>
    clear T
    obtain ⟨k, hk, rfl, rfl, T⟩ := hrel
    have hl2 := encs_len (ns := (depsL c.deps).take k) fun n hn => (depsL_in h n (List.mem_of_mem_take hn)).2
    have hl3 : ((depsL c.deps).take k).length ≤ 7 := by rw [List.length_take]; have : (depsL c.deps).length = 7 := rfl; omega
    by_cases hlt7 : k < 7
    · have hd := h.deps k hlt7
      have hsn : (depsL c.deps).take (k + 1) = (depsL c.deps).take k ++ [c.deps k] := by
        match k, hlt7 with
        | 0, _ => rfl
        | 1, _ => rfl
        | 2, _ => rfl
        | 3, _ => rfl
        | 4, _ => rfl
        | 5, _ => rfl
        | 6, _ => rfl
      have hc := row_cell T.row (6 + k)
      rw [TCall_deps c k hlt7] at hc
      have C2 := Lib.hid (refNat (c.deps k) hd.2)
      have hl4 := enc_len9 (n := (c.deps k).toNat) (by omega)
      have hz : (strL (deedB c.deed ++ encs ((depsL c.deps).take k))).size + (strL (enc (c.deps k).toNat)).size ≤ 9223372036854775807 := by
        rw [strL_size, strL_size, List.length_append]; omega
      have happ := strL_app (deedB c.deed ++ encs ((depsL c.deps).take k)) (enc (c.deps k).toNat)
      rw [List.append_assoc, ← encs_snoc, ← hsn] at happ
      have HA := Lib.hid happ; clear happ hsn
      generalize strL (deedB c.deed ++ encs ((depsL c.deps).take k)) = B at *
      generalize strL (enc (c.deps k).toNat) = B2 at *
      go_wp2_with fail
      refine (Ans.at C2.out T).mono ?_; clear T hc; rintro e w2 ⟨rfl, T⟩
      go_wp2
      go_roundw
      case rel => exact ⟨k + 1, by omega, by go_num, by rw [HA.out], T⟩
      case measure => simp [intOf]; omega
    · obtain rfl : k = 7 := by omega
      have hr := row_cell T.row
      have C2 := Lib.hid (refNat c.seq h.seq.2)
      have hl4 := enc_len9 (n := c.seq.toNat) (by have := h.seq; omega)
      have hz : (strL (deedB c.deed ++ encs ((depsL c.deps).take 7))).size + (strL (enc c.seq.toNat)).size ≤ 9223372036854775807 := by
        rw [strL_size, strL_size, List.length_append]; omega
      have happ : strL (deedB c.deed ++ encs ((depsL c.deps).take 7)) ++ strL (enc c.seq.toNat) = strL (callB c) := by rw [strL_app]; rfl
      have HA := Lib.hid happ; clear happ
      generalize strL (deedB c.deed ++ encs ((depsL c.deps).take 7)) = B at *
      generalize strL (enc c.seq.toNat) = B2 at *
      go_wp2_with fail
      refine (Ans.at C2.out T).mono ?_; clear T hr; rintro e w2 ⟨rfl, T⟩
      go_wp2
      go_ret
      exact ⟨congrArg (fun s => Ending.returned (.string s)) (by rw [← HA.out]), T.nil⟩
def goodC (c : Call) (n : Int) : Bool := goodB c.deed && goodD c.deps n && decide (0 ≤ c.seq) && decide (c.seq ≤ 1099511627776)
set_option maxHeartbeats 1000000 in
theorem rgoodC_any (c : Call) (n : Int) : Ans Try.prog 43 #[.agg (CV c), .int .i64 n] (.bool (goodC c n)) := by
  refine Ans.of_sts fun w => ?_
  have T := (Sts.start0 w).new (CV c) 60
  have c1 := rgood4_any c.deed
  have c2 := rgood_any c.deps n
  have hr := T.row
  have hg : goodC c n = (goodB c.deed && goodD c.deps n && decide (0 ≤ c.seq) && decide (c.seq ≤ 1099511627776)) := rfl
  cases h1 : goodB c.deed
  · rw [h1] at c1 hg
    have C1 := Lib.hid c1; have HG := Lib.hid hg; clear c1 c2 hg h1
    go_enter Try.func43, Try.ntmps43
    go_wp2_with fail
    refine (Ans.at C1.out T).mono ?_; clear T hr; rintro e w1 ⟨rfl, T⟩
    go_wp2
    go_ret
    exact ⟨by rw [HG.out]; rfl, T.nil⟩
  · rw [h1] at c1 hg
    cases h2 : goodD c.deps n
    · rw [h2] at c2 hg
      have C1 := Lib.hid c1; have C2 := Lib.hid c2; have HG := Lib.hid hg; clear c1 c2 hg h1 h2
      go_enter Try.func43, Try.ntmps43
      go_wp2_with fail
      refine (Ans.at C1.out T).mono ?_; clear T hr; rintro e w1 ⟨rfl, T⟩
      have hr := T.row
      go_wp2_with fail
      refine (Ans.at C2.out T).mono ?_; clear T hr; rintro e w2 ⟨rfl, T⟩
      go_wp2
      go_ret
      exact ⟨by rw [HG.out]; rfl, T.nil⟩
    · rw [h2] at c2 hg
      have C1 := Lib.hid c1; have C2 := Lib.hid c2; have HG := Lib.hid hg; clear c1 c2 hg h1 h2
      by_cases h3 : 0 ≤ c.seq
      · go_enter Try.func43, Try.ntmps43
        go_wp2_with fail
        refine (Ans.at C1.out T).mono ?_; clear T hr; rintro e w1 ⟨rfl, T⟩
        have hr := T.row
        go_wp2_with fail
        refine (Ans.at C2.out T).mono ?_; clear T hr; rintro e w2 ⟨rfl, T⟩
        have hr := row_cell T.row
        go_wp2
        all_goals go_ret
        all_goals exact ⟨by rw [HG.out]; simp_all, T.nil⟩
      · go_enter Try.func43, Try.ntmps43
        go_wp2_with fail
        refine (Ans.at C1.out T).mono ?_; clear T hr; rintro e w1 ⟨rfl, T⟩
        have hr := T.row
        go_wp2_with fail
        refine (Ans.at C2.out T).mono ?_; clear T hr; rintro e w2 ⟨rfl, T⟩
        have hr := row_cell T.row
        go_wp2
        go_ret
        exact ⟨by rw [HG.out]; simp; omega, T.nil⟩
/-! the plain laws -/
theorem natsS_inv (s : Src) (m : Nat) (hm : m < 128 ^ 9) : ∀ k, (natsS k s m).2.dry = false → (k = 0 ∨ s.dry = false) ∧ s.left = encs ((natsS k s m).1.map Int.ofNat) ++ (natsS k s m).2.left ∧ ∀ v ∈ (natsS k s m).1, v ≤ m
  | 0, h => ⟨.inl rfl, by simp [natsS, encs], by simp [natsS]⟩
  | k + 1, h => by
    obtain ⟨a1, a2, a3, a4⟩ := natS_inv (s := (natsS k s m).2) (most := m) h
    obtain ⟨b1, b2, b3⟩ := natsS_inv s m hm k a1
    refine ⟨.inr ?_, ?_, ?_⟩
    · rcases b1 with rfl | b1
      · exact a1
      · exact b1
    · simp only [natsS, List.map_append, List.map_cons, List.map_nil, encs_snoc]
      rw [b2, a2]; simp
    · intro v hv
      simp only [natsS, List.mem_append, List.mem_singleton] at hv
      rcases hv with hv | rfl
      · exact b3 v hv
      · exact a3
theorem encs_cons (n : Int) (ns : List Int) : encs (n :: ns) = enc n.toNat ++ encs ns := by simp [encs]
theorem natsS_enc (m : Nat) (hm : m < 128 ^ 9) (ns : List Int) (rest : List UInt8) (h : ∀ n ∈ ns, 0 ≤ n ∧ n ≤ m) : ∀ k, k ≤ ns.length → natsS k ⟨encs ns ++ rest, false⟩ m = ((ns.take k).map Int.toNat, ⟨encs (ns.drop k) ++ rest, false⟩)
  | 0, _ => by simp [natsS]
  | k + 1, hk => by
    have h2 := h ns[k] (List.getElem_mem (by omega))
    rw [natsS, natsS_enc m hm ns rest h k (by omega)]
    simp only
    rw [List.drop_eq_getElem_cons (i := k) (by omega), encs_cons, List.append_assoc, natS_enc (by omega), if_pos (by omega)]
    rw [List.take_succ_eq_append_getElem (show k < ns.length by omega)]
    simp only [List.map_append, List.map_cons, List.map_nil]
theorem goodD_of {d : Nat → Int} {n : Int} (h : goodD d n = true) : ∀ i, i < 7 → 0 ≤ d i ∧ d i ≤ 64 ∧ (n ≤ i → d i = 0) := fun i hi => by
  have := List.all_eq_true.1 h i (by simp [hi])
  simp only [goodAt, decide_eq_true_eq] at this
  exact this
theorem rawDeed_good {d : Deed} {more : List UInt8} {N : Nat} (hN : N ≤ 1000000) (h : DeedIn d N) (hg : goodB d = true) : getD ⟨deedB d ++ more, false⟩ = (d, ⟨more, false⟩) := by
  have hg2 := hg
  simp only [goodB, decide_eq_true_eq] at hg2
  obtain ⟨a0, a1, b0, a2, _, a3, a4, c0, a5, a6⟩ := hg2
  have hk : 0 ≤ d.kind ∧ d.kind ≤ 5 := by unfold Kinds at a6; omega
  unfold getD
  rcases rawDeed_enc (more := more) hN h ⟨hk.1, c0, a0, b0⟩ with h1 | ⟨_, h2⟩
  · rw [h1, if_neg (by simp [hg])]
  · exact absurd ⟨hk.2, a3, a4, a5, a1, a2⟩ h2
theorem CV_eq {a b : Call} (h1 : a.deed = b.deed) (h2 : ∀ i, i < 7 → a.deps i = b.deps i) (h3 : a.seq = b.seq) : CV a = CV b := (TCall_ext a b).2 ⟨by rw [h1], DV_congr h2, h3⟩
/-- What was written is read. -/
theorem getC_enc {c : Call} {N : Nat} (hN : N ≤ 100000) (h : CallIn c N) (hg : goodC c 7 = true) (more : List UInt8) : ∃ c', getC ⟨callB c ++ more, false⟩ = (c', ⟨more, false⟩) ∧ CV c' = CV c := by
  simp only [goodC, Bool.and_eq_true, decide_eq_true_eq] at hg
  obtain ⟨⟨⟨g1, g2⟩, g3⟩, g4⟩ := hg
  have hd := goodD_of g2
  have hn : ∀ n ∈ depsL c.deps, 0 ≤ n ∧ n ≤ (64 : Nat) := by
    intro n hn
    simp only [depsL, List.mem_cons, List.not_mem_nil, or_false] at hn
    rcases hn with rfl | rfl | rfl | rfl | rfl | rfl | rfl
    · exact ⟨(hd 0 (by omega)).1, (hd 0 (by omega)).2.1⟩
    · exact ⟨(hd 1 (by omega)).1, (hd 1 (by omega)).2.1⟩
    · exact ⟨(hd 2 (by omega)).1, (hd 2 (by omega)).2.1⟩
    · exact ⟨(hd 3 (by omega)).1, (hd 3 (by omega)).2.1⟩
    · exact ⟨(hd 4 (by omega)).1, (hd 4 (by omega)).2.1⟩
    · exact ⟨(hd 5 (by omega)).1, (hd 5 (by omega)).2.1⟩
    · exact ⟨(hd 6 (by omega)).1, (hd 6 (by omega)).2.1⟩
  have e1 : getD ⟨callB c ++ more, false⟩ = (c.deed, ⟨encs (depsL c.deps) ++ (enc c.seq.toNat ++ more), false⟩) := by
    have := rawDeed_good (more := encs (depsL c.deps) ++ (enc c.seq.toNat ++ more)) (by omega) h.deed g1
    rw [← this]; simp [callB]
  have e2 := natsS_enc 64 (by decide) (depsL c.deps) (enc c.seq.toNat ++ more) hn 7 (Nat.le_refl 7)
  have e3 : natsS 7 ⟨encs (depsL c.deps) ++ (enc c.seq.toNat ++ more), false⟩ 64 = ((depsL c.deps).map Int.toNat, ⟨enc c.seq.toNat ++ more, false⟩) := by rw [e2]; simp [depsL, encs]
  have e4 : natS ⟨enc c.seq.toNat ++ more, false⟩ 1099511627776 = (c.seq.toNat, ⟨more, false⟩) := by rw [natS_enc (by rw [show (128 : Nat) ^ 9 = 9223372036854775808 by decide]; omega), if_pos (by omega)]
  have e5 : rawCall ⟨callB c ++ more, false⟩ = (⟨c.deed, ofL ((depsL c.deps).map Int.toNat), c.seq.toNat⟩, ⟨more, false⟩) := by
    unfold rawCall
    simp only [e1, e3, e4]
  refine ⟨⟨c.deed, ofL ((depsL c.deps).map Int.toNat), c.seq.toNat⟩, by unfold getC; rw [e5, if_neg (by simp)], CV_eq rfl ?_ (by simp; omega)⟩
  intro i hi
  have := (hd i hi).1
  match i, hi with
  | 0, _ => simp [ofL, depsL]; omega
  | 1, _ => simp [ofL, depsL]; omega
  | 2, _ => simp [ofL, depsL]; omega
  | 3, _ => simp [ofL, depsL]; omega
  | 4, _ => simp [ofL, depsL]; omega
  | 5, _ => simp [ofL, depsL]; omega
  | 6, _ => simp [ofL, depsL]; omega
theorem getC_dry {s : Src} (h : (getC s).2.dry = true) : (getC s).1 = noCall := by
  unfold getC at h ⊢
  split at h
  · rename_i hc; rw [if_pos hc]
  · rename_i hc; exact absurd h hc
/-- What is read was written so, and can be. -/
theorem getC_inv {s : Src} (h : (getC s).2.dry = false) : s.dry = false ∧ s.left = callB (getC s).1 ++ (getC s).2.left ∧ CallIn (getC s).1 48 ∧ goodC (getC s).1 7 = true := by
  have h0 : (rawCall s).2.dry = false := by
    unfold getC at h
    split at h
    · rename_i hc; rw [hc] at h; cases h
    · exact h
  have hg : getC s = rawCall s := by unfold getC; rw [if_neg (by simp [h0])]
  rw [hg]
  obtain ⟨l, hl⟩ : ∃ l, l = (natsS 7 (getD s).2 64).1 := ⟨_, rfl⟩
  have hlen := natsS_len (getD s).2 64 7
  unfold rawCall at h0 ⊢
  simp only at h0 ⊢
  obtain ⟨a1, a2, a3, a4⟩ := natS_inv h0
  obtain ⟨b1, b2, b3⟩ := natsS_inv (getD s).2 64 (by decide) 7 a1
  have b1 : (getD s).2.dry = false := by rcases b1 with h | h; · omega
                                         · exact h
  obtain ⟨c1, c2, c3, c4⟩ := getD_inv b1
  rw [← hl] at hlen b2 b3 ⊢
  have p9 : (128 : Nat) ^ 9 = 9223372036854775808 := by decide
  have hof : ∀ i, i < 7 → 0 ≤ ofL l i ∧ ofL l i ≤ 64 := by
    intro i hi
    unfold ofL
    rw [List.getD_eq_getElem?_getD, List.getElem?_eq_getElem (by omega)]
    have := b3 l[i] (List.getElem_mem (by omega))
    simp only [Option.getD_some]; omega
  have hdl : depsL (ofL l) = l.map Int.ofNat := by
    match l, hlen with
    | [_, _, _, _, _, _, _], _ => rfl
  refine ⟨c1, ?_, ⟨c3, fun i hi => ?_, ?_⟩, ?_⟩
  · rw [c2, b2, a2]; simp [callB, hdl]
  · have := hof i hi; show _ ≤ ofL l i ∧ ofL l i < _; omega
  · simp only; omega
  · simp only [goodC, c4, Bool.true_and, Bool.and_eq_true, decide_eq_true_eq]
    refine ⟨⟨goodD_yes fun i hi => ?_, by omega⟩, by omega⟩
    have := hof i hi
    refine ⟨this.1, this.2, fun h7 => by omega⟩
end Go.Proofs.Ytnjnafmonijlnaa
