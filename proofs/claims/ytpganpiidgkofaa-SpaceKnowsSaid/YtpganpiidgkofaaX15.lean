/- Several texts in one. -/
import Derived.Test.YtpganpiidgkofaaX14
import Derived.Test.YtpganpiidgkofaaX5
import Derived.Test.YtpganpiidgkofaaX3
import Derived.Test.YtpganpiidgkofaaX2
import Derived.Test.YtpganpiidgkofaaX13
/- Layer 5: the law of a call's bytes. -/
namespace Go.Proofs.Ytpganpiidgkofaa
open Go.RowKit
set_option linter.unusedVariables false
attribute [local go_sem] row_alloc row_drew row_drewN row_ext row_setCell row_setRow size_ext setRow_alloc setRow_drew loadOf storeOf piece_lit loadVal_at storeVal_at allOne_lit buildOf buildRes_some
attribute [local go_sem high] cell_alloc frozen_alloc setCell_alloc cell_ext frozen_ext cell_setRow frozen_setRow
attribute [local go_sem ↓] TDeed_ld0 TDeed_st0 TDeed_fd0 TDeed_bd0
attribute [local go_sem] TDeed_size TDeed_one TDeed_piece TDeed_c0 TDeed_c1 TDeed_c2 TDeed_c3 TDeed_c4 TDeed_c5 TDeed_set_kind TDeed_set_key TDeed_set_val TDeed_set_ver TDeed_set_ses TDeed_set_num TDeed_ld TDeed_st TDeed_f_kind TDeed_f_key TDeed_f_val TDeed_f_ver TDeed_f_ses TDeed_f_num TDeed_bd TDeed_fl TDeed_fl_kind TDeed_fl_key TDeed_fl_val TDeed_fl_ver TDeed_fl_ses TDeed_fl_num
attribute [local go_sem high] TDeed_eql TDeed_neq
attribute [local go_sem ↓] index_deps0 load_deps0 store_deps0
attribute [local go_sem] DV_piece DV_size DV_one index_deps load_deps store_deps
attribute [local go_sem high] TDeps_eql TDeps_neq
attribute [local go_sem ↓] TCall_ld0 TCall_st0 TCall_fd0 TCall_bd0
attribute [local go_sem] TCall_size TCall_one TCall_piece TCall_c0 TCall_c1 TCall_c2 TCall_c3 TCall_c4 TCall_c5 TCall_c6 TCall_c7 TCall_c8 TCall_c9 TCall_c10 TCall_c11 TCall_c12 TCall_c13 TCall_p_deed TCall_put_deed TCall_p_deps TCall_put_deps TCall_set_seq TCall_ld TCall_st TCall_f_deed TCall_f_deps TCall_f_seq TCall_bd TCall_fl TCall_fl_deed TCall_fl_deps TCall_fl_seq
attribute [local go_sem high] TCall_eql TCall_neq
set_option maxHeartbeats 1000000 in
theorem refCallBytes (c : Call) (N : Nat) (h : CallIn c N) (hN : N ≤ 100000) : Ans Try.prog 66 #[.agg (CV c)] (.string (strL (callB c))) := by
  refine Ans.of_sts fun w => ?_
  have T := (Sts.start0 w).new (CV c) 37
  have C1 := Lib.hid (refDeedBytes c.deed N h.deed (by omega))
  have hl1 := deedB_len h.deed (by omega)
  have hr := T.row
  go_enter Try.func66, Try.ntmps66
  go_wp2_with fail
  refine (Ans.at C1.out T).mono ?_; clear T hr; rintro e w1 ⟨rfl, T⟩
  go_wp2
  go_loopw [3, 4] (fun s i wr => ∃ k : Nat, k ≤ 7 ∧ i = .int .i64 k ∧ s = .string (strL (deedB c.deed ++ encs ((depsL c.deps).take k))) ∧ Sts w (fun _ => False) wr [rowR w.heap.size (CV c)]) (fun _ i _ => 7 - (intOf i).toNat)
  case atStart => exact ⟨0, by omega, rfl, by simp [encs], T⟩
  case round =>
    clear T
    obtain ⟨k, hk, rfl, rfl, T⟩ := hrel
    have hl2 := encs_len (ns := (depsL c.deps).take k) fun n hn => (depsL_in h n (List.mem_of_mem_take hn)).2
    have hl3 : ((depsL c.deps).take k).length ≤ 7 := by rw [List.length_take]; have : (depsL c.deps).length = 7 := rfl; omega
    by_cases hlt7 : k < 7
    · have hd := h.deps k hlt7
      have hsn : (depsL c.deps).take (k + 1) = (depsL c.deps).take k ++ [c.deps k] := by
        match k, hlt7 with
        | 0, _ => rfl
        | 1, _ => rfl
        | 2, _ => rfl
        | 3, _ => rfl
        | 4, _ => rfl
        | 5, _ => rfl
        | 6, _ => rfl
      have hc := row_cell T.row (6 + k)
      rw [TCall_deps c k hlt7] at hc
      have C2 := Lib.hid (refNat (c.deps k) hd.2)
      have hl4 := enc_len9 (n := (c.deps k).toNat) (by omega)
      have hz : (strL (deedB c.deed ++ encs ((depsL c.deps).take k))).size + (strL (enc (c.deps k).toNat)).size ≤ 9223372036854775807 := by
        rw [strL_size, strL_size, List.length_append]; omega
      have happ := strL_app (deedB c.deed ++ encs ((depsL c.deps).take k)) (enc (c.deps k).toNat)
      rw [List.append_assoc, ← encs_snoc, ← hsn] at happ
      have HA := Lib.hid happ; clear happ hsn
      generalize strL (deedB c.deed ++ encs ((depsL c.deps).take k)) = B at *
      generalize strL (enc (c.deps k).toNat) = B2 at *
      go_wp2_with fail
      refine (Ans.at C2.out T).mono ?_; clear T hc; rintro e w2 ⟨rfl, T⟩
      go_wp2
      go_roundw
      case rel => exact ⟨k + 1, by omega, by go_num, by rw [HA.out], T⟩
      case measure => simp [intOf]; omega
    · obtain rfl : k = 7 := by omega
      have hr := row_cell T.row
      have C2 := Lib.hid (refNat c.seq h.seq.2)
      have hl4 := enc_len9 (n := c.seq.toNat) (by have := h.seq; omega)
      have hz : (strL (deedB c.deed ++ encs ((depsL c.deps).take 7))).size + (strL (enc c.seq.toNat)).size ≤ 9223372036854775807 := by
        rw [strL_size, strL_size, List.length_append]; omega
      have happ : strL (deedB c.deed ++ encs ((depsL c.deps).take 7)) ++ strL (enc c.seq.toNat) = strL (callB c) := by rw [strL_app]; rfl
      have HA := Lib.hid happ; clear happ
      generalize strL (deedB c.deed ++ encs ((depsL c.deps).take 7)) = B at *
      generalize strL (enc c.seq.toNat) = B2 at *
      go_wp2_with fail
      refine (Ans.at C2.out T).mono ?_; clear T hr; rintro e w2 ⟨rfl, T⟩
      go_wp2
      go_ret
      exact ⟨congrArg (fun s => Ending.returned (.string s)) (by rw [← HA.out]), T.nil⟩
/-! the plain laws -/
theorem natsS_inv (s : Src) (m : Nat) (hm : m < 128 ^ 9) : ∀ k, (natsS k s m).2.dry = false → (k = 0 ∨ s.dry = false) ∧ s.left = encs ((natsS k s m).1.map Int.ofNat) ++ (natsS k s m).2.left ∧ ∀ v ∈ (natsS k s m).1, v ≤ m
  | 0, h => ⟨.inl rfl, by simp [natsS, encs], by simp [natsS]⟩
  | k + 1, h => by
    obtain ⟨a1, a2, a3, a4⟩ := natS_inv (s := (natsS k s m).2) (most := m) h
    obtain ⟨b1, b2, b3⟩ := natsS_inv s m hm k a1
    refine ⟨.inr ?_, ?_, ?_⟩
    · rcases b1 with rfl | b1
      · exact a1
      · exact b1
    · simp only [natsS, List.map_append, List.map_cons, List.map_nil, encs_snoc]
      rw [b2, a2]; simp
    · intro v hv
      simp only [natsS, List.mem_append, List.mem_singleton] at hv
      rcases hv with hv | rfl
      · exact b3 v hv
      · exact a3
theorem encs_cons (n : Int) (ns : List Int) : encs (n :: ns) = enc n.toNat ++ encs ns := by simp [encs]
theorem natsS_enc (m : Nat) (hm : m < 128 ^ 9) (ns : List Int) (rest : List UInt8) (h : ∀ n ∈ ns, 0 ≤ n ∧ n ≤ m) : ∀ k, k ≤ ns.length → natsS k ⟨encs ns ++ rest, false⟩ m = ((ns.take k).map Int.toNat, ⟨encs (ns.drop k) ++ rest, false⟩)
  | 0, _ => by simp [natsS]
  | k + 1, hk => by
    have h2 := h ns[k] (List.getElem_mem (by omega))
    rw [natsS, natsS_enc m hm ns rest h k (by omega)]
    simp only
    rw [List.drop_eq_getElem_cons (i := k) (by omega), encs_cons, List.append_assoc, natS_enc (by omega), if_pos (by omega)]
    rw [List.take_succ_eq_append_getElem (show k < ns.length by omega)]
    simp only [List.map_append, List.map_cons, List.map_nil]
theorem goodD_of {d : Nat → Int} {n : Int} (h : goodD d n = true) : ∀ i, i < 7 → 0 ≤ d i ∧ d i ≤ 64 ∧ (n ≤ i → d i = 0) := fun i hi => by
  have := List.all_eq_true.1 h i (by simp [hi])
  simp only [goodAt, decide_eq_true_eq] at this
  exact this
theorem rawDeed_good {d : Deed} {more : List UInt8} {N : Nat} (hN : N ≤ 1000000) (h : DeedIn d N) (hg : goodB d = true) : getD ⟨deedB d ++ more, false⟩ = (d, ⟨more, false⟩) := by
  have hg2 := hg
  simp only [goodB, decide_eq_true_eq] at hg2
  obtain ⟨a0, a1, b0, a2, _, a3, a4, c0, a5, a6⟩ := hg2
  have hk : 0 ≤ d.kind ∧ d.kind ≤ 5 := by unfold Kinds at a6; omega
  unfold getD
  rcases rawDeed_enc (more := more) hN h ⟨hk.1, c0, a0, b0⟩ with h1 | ⟨_, h2⟩
  · rw [h1, if_neg (by simp [hg])]
  · exact absurd ⟨hk.2, a3, a4, a5, a1, a2⟩ h2
theorem CV_eq {a b : Call} (h1 : a.deed = b.deed) (h2 : ∀ i, i < 7 → a.deps i = b.deps i) (h3 : a.seq = b.seq) : CV a = CV b := (TCall_ext a b).2 ⟨by rw [h1], DV_congr h2, h3⟩
/-- What was written is read. -/
theorem getC_enc {c : Call} {N : Nat} (hN : N ≤ 100000) (h : CallIn c N) (hg : goodC c 7 = true) (more : List UInt8) : ∃ c', getC ⟨callB c ++ more, false⟩ = (c', ⟨more, false⟩) ∧ CV c' = CV c := by
  simp only [goodC, Bool.and_eq_true, decide_eq_true_eq] at hg
  obtain ⟨⟨⟨g1, g2⟩, g3⟩, g4⟩ := hg
  have hd := goodD_of g2
  have hn : ∀ n ∈ depsL c.deps, 0 ≤ n ∧ n ≤ (64 : Nat) := by
    intro n hn
    simp only [depsL, List.mem_cons, List.not_mem_nil, or_false] at hn
    rcases hn with rfl | rfl | rfl | rfl | rfl | rfl | rfl
    · exact ⟨(hd 0 (by omega)).1, (hd 0 (by omega)).2.1⟩
    · exact ⟨(hd 1 (by omega)).1, (hd 1 (by omega)).2.1⟩
    · exact ⟨(hd 2 (by omega)).1, (hd 2 (by omega)).2.1⟩
    · exact ⟨(hd 3 (by omega)).1, (hd 3 (by omega)).2.1⟩
    · exact ⟨(hd 4 (by omega)).1, (hd 4 (by omega)).2.1⟩
    · exact ⟨(hd 5 (by omega)).1, (hd 5 (by omega)).2.1⟩
    · exact ⟨(hd 6 (by omega)).1, (hd 6 (by omega)).2.1⟩
  have e1 : getD ⟨callB c ++ more, false⟩ = (c.deed, ⟨encs (depsL c.deps) ++ (enc c.seq.toNat ++ more), false⟩) := by
    have := rawDeed_good (more := encs (depsL c.deps) ++ (enc c.seq.toNat ++ more)) (by omega) h.deed g1
    rw [← this]; simp [callB]
  have e2 := natsS_enc 64 (by decide) (depsL c.deps) (enc c.seq.toNat ++ more) hn 7 (Nat.le_refl 7)
  have e3 : natsS 7 ⟨encs (depsL c.deps) ++ (enc c.seq.toNat ++ more), false⟩ 64 = ((depsL c.deps).map Int.toNat, ⟨enc c.seq.toNat ++ more, false⟩) := by rw [e2]; simp [depsL, encs]
  have e4 : natS ⟨enc c.seq.toNat ++ more, false⟩ 1099511627776 = (c.seq.toNat, ⟨more, false⟩) := by rw [natS_enc (by rw [show (128 : Nat) ^ 9 = 9223372036854775808 by decide]; omega), if_pos (by omega)]
  have e5 : rawCall ⟨callB c ++ more, false⟩ = (⟨c.deed, ofL ((depsL c.deps).map Int.toNat), c.seq.toNat⟩, ⟨more, false⟩) := by
    unfold rawCall
    simp only [e1, e3, e4]
  refine ⟨⟨c.deed, ofL ((depsL c.deps).map Int.toNat), c.seq.toNat⟩, by unfold getC; rw [e5, if_neg (by simp)], CV_eq rfl ?_ (by simp; omega)⟩
  intro i hi
  have := (hd i hi).1
  match i, hi with
  | 0, _ => simp [ofL, depsL]; omega
  | 1, _ => simp [ofL, depsL]; omega
  | 2, _ => simp [ofL, depsL]; omega
  | 3, _ => simp [ofL, depsL]; omega
  | 4, _ => simp [ofL, depsL]; omega
  | 5, _ => simp [ofL, depsL]; omega
  | 6, _ => simp [ofL, depsL]; omega
theorem getC_dry {s : Src} (h : (getC s).2.dry = true) : (getC s).1 = noCall := by
  unfold getC at h ⊢
  split at h
  · rename_i hc; rw [if_pos hc]
  · rename_i hc; exact absurd h hc
/-- What is read was written so, and can be. -/
theorem getC_inv {s : Src} (h : (getC s).2.dry = false) : s.dry = false ∧ s.left = callB (getC s).1 ++ (getC s).2.left ∧ CallIn (getC s).1 48 ∧ goodC (getC s).1 7 = true := by
  have h0 : (rawCall s).2.dry = false := by
    unfold getC at h
    split at h
    · rename_i hc; rw [hc] at h; cases h
    · exact h
  have hg : getC s = rawCall s := by unfold getC; rw [if_neg (by simp [h0])]
  rw [hg]
  obtain ⟨l, hl⟩ : ∃ l, l = (natsS 7 (getD s).2 64).1 := ⟨_, rfl⟩
  have hlen := natsS_len (getD s).2 64 7
  unfold rawCall at h0 ⊢
  simp only at h0 ⊢
  obtain ⟨a1, a2, a3, a4⟩ := natS_inv h0
  obtain ⟨b1, b2, b3⟩ := natsS_inv (getD s).2 64 (by decide) 7 a1
  have b1 : (getD s).2.dry = false := by rcases b1 with h | h; · omega
                                         · exact h
  obtain ⟨c1, c2, c3, c4⟩ := getD_inv b1
  rw [← hl] at hlen b2 b3 ⊢
  have p9 : (128 : Nat) ^ 9 = 9223372036854775808 := by decide
  have hof : ∀ i, i < 7 → 0 ≤ ofL l i ∧ ofL l i ≤ 64 := by
    intro i hi
    unfold ofL
    rw [List.getD_eq_getElem?_getD, List.getElem?_eq_getElem (by omega)]
    have := b3 l[i] (List.getElem_mem (by omega))
    simp only [Option.getD_some]; omega
  have hdl : depsL (ofL l) = l.map Int.ofNat := by
    match l, hlen with
    | [_, _, _, _, _, _, _], _ => rfl
  refine ⟨c1, ?_, ⟨c3, fun i hi => ?_, ?_⟩, ?_⟩
  · rw [c2, b2, a2]; simp [callB, hdl]
  · have := hof i hi; show _ ≤ ofL l i ∧ ofL l i < _; omega
  · simp only; omega
  · simp only [goodC, c4, Bool.true_and, Bool.and_eq_true, decide_eq_true_eq]
    refine ⟨⟨goodD_yes fun i hi => ?_, by omega⟩, by omega⟩
    have := hof i hi
    refine ⟨this.1, this.2, fun h7 => by omega⟩
end Go.Proofs.Ytpganpiidgkofaa
/- Layers 2, 3, 5: items, ballots, calls: whether they can be, their bytes. -/
namespace Go.Proofs.Ytpganpiidgkofaa
open Go.RowKit
set_option linter.unusedVariables false
attribute [local go_sem] row_alloc row_drew row_drewN row_ext row_setCell row_setRow size_ext setRow_alloc setRow_drew loadOf storeOf piece_lit loadVal_at storeVal_at allOne_lit buildOf buildRes_some
attribute [local go_sem high] cell_alloc frozen_alloc setCell_alloc cell_ext frozen_ext cell_setRow frozen_setRow
attribute [local go_sem ↓] TDeed_ld0 TDeed_st0 TDeed_fd0 TDeed_bd0
attribute [local go_sem] TDeed_size TDeed_one TDeed_piece TDeed_c0 TDeed_c1 TDeed_c2 TDeed_c3 TDeed_c4 TDeed_c5 TDeed_set_kind TDeed_set_key TDeed_set_val TDeed_set_ver TDeed_set_ses TDeed_set_num TDeed_ld TDeed_st TDeed_f_kind TDeed_f_key TDeed_f_val TDeed_f_ver TDeed_f_ses TDeed_f_num TDeed_bd TDeed_fl TDeed_fl_kind TDeed_fl_key TDeed_fl_val TDeed_fl_ver TDeed_fl_ses TDeed_fl_num
attribute [local go_sem high] TDeed_eql TDeed_neq
attribute [local go_sem ↓] index_deps0 load_deps0 store_deps0
attribute [local go_sem] DV_piece DV_size DV_one index_deps load_deps store_deps
attribute [local go_sem high] TDeps_eql TDeps_neq
attribute [local go_sem ↓] TCall_ld0 TCall_st0 TCall_fd0 TCall_bd0
attribute [local go_sem] TCall_size TCall_one TCall_piece TCall_c0 TCall_c1 TCall_c2 TCall_c3 TCall_c4 TCall_c5 TCall_c6 TCall_c7 TCall_c8 TCall_c9 TCall_c10 TCall_c11 TCall_c12 TCall_c13 TCall_p_deed TCall_put_deed TCall_p_deps TCall_put_deps TCall_set_seq TCall_ld TCall_st TCall_f_deed TCall_f_deps TCall_f_seq TCall_bd TCall_fl TCall_fl_deed TCall_fl_deps TCall_fl_seq
attribute [local go_sem high] TCall_eql TCall_neq
attribute [local go_sem ↓] TItem_ld0 TItem_st0 TItem_fd0 TItem_bd0
attribute [local go_sem] TItem_size TItem_one TItem_piece TItem_c0 TItem_c1 TItem_set_rep TItem_set_num TItem_ld TItem_st TItem_f_rep TItem_f_num TItem_bd TItem_fl TItem_fl_rep TItem_fl_num
attribute [local go_sem high] TItem_eql TItem_neq
attribute [local go_sem ↓] TBallot_ld0 TBallot_st0 TBallot_fd0 TBallot_bd0
attribute [local go_sem] TBallot_size TBallot_one TBallot_piece TBallot_c0 TBallot_c1 TBallot_set_round TBallot_set_rep TBallot_ld TBallot_st TBallot_f_round TBallot_f_rep TBallot_bd TBallot_fl TBallot_fl_round TBallot_fl_rep
attribute [local go_sem high] TBallot_eql TBallot_neq
/-! bytes -/
def In64 (n : Int) : Prop := -9223372036854775808 ≤ n ∧ n < 9223372036854775808
theorem two_in {a b : Int} (ha : In64 a) (hb : In64 b) : ∀ n ∈ [a, b], -9223372036854775808 ≤ n ∧ n < 9223372036854775808 := by
  intro n hn; simp at hn; rcases hn with rfl | rfl
  · exact ha
  · exact hb
set_option maxHeartbeats 1000000 in
theorem itemPutD (g : Nat) (l : List UInt8) (x : Item) (h1 : In64 x.rep) (h2 : In64 x.num) (hb : l.length ≤ 1000000) :
    Does Try.prog 88 #[.pointer (some ⟨g, 0, none⟩), .agg (IV x)] [snkR g l] (.tuple #[]) [snkR g (l ++ encs [x.rep, x.num])] := by
  intro W G hS
  have T := ((Sts.start hS).new (IV x) 42).new #[.int .i64 x.rep, .int .i64 x.num] 3
  clear hS
  simp only [World.size_alloc] at T
  go_enter Try.func88, Try.ntmps88
  go_wp2_with fail
  refine (Does.at2 (sinkNatD g l (W.heap.size + 1) 0 2 _ [x.rep, x.num] ?_ (two_in h1 h2) (by simp; omega)) T.rot2.swap2.swap2).mono ?_; clear T
  · intro j hj
    match j, hj with
    | 0, _ => rfl
    | 1, _ => rfl
  rintro e w1 ⟨rfl, T⟩
  go_wp2
  go_end0
  exact ⟨rfl, T.swap.drop.swap.drop⟩
set_option maxHeartbeats 1000000 in
theorem balPutD (g : Nat) (l : List UInt8) (x : Ballot) (h1 : In64 x.round) (h2 : In64 x.rep) (hb : l.length ≤ 1000000) :
    Does Try.prog 89 #[.pointer (some ⟨g, 0, none⟩), .agg (BV x)] [snkR g l] (.tuple #[]) [snkR g (l ++ encs [x.round, x.rep])] := by
  intro W G hS
  have T := ((Sts.start hS).new (BV x) 31).new #[.int .i64 x.round, .int .i64 x.rep] 3
  clear hS
  simp only [World.size_alloc] at T
  go_enter Try.func89, Try.ntmps89
  go_wp2_with fail
  refine (Does.at2 (sinkNatD g l (W.heap.size + 1) 0 2 _ [x.round, x.rep] ?_ (two_in h1 h2) (by simp; omega)) T.rot2.swap2.swap2).mono ?_; clear T
  · intro j hj
    match j, hj with
    | 0, _ => rfl
    | 1, _ => rfl
  rintro e w1 ⟨rfl, T⟩
  go_wp2
  go_end0
  exact ⟨rfl, T.swap.drop.swap.drop⟩
def bitB (b : Bool) : List UInt8 := [if b then 1 else 0]
set_option maxHeartbeats 1000000 in
theorem sinkBitD (g : Nat) (l : List UInt8) (b : Bool) (hb : l.length ≤ 1000000) :
    Does Try.prog 91 #[.pointer (some ⟨g, 0, none⟩), .bool b] [snkR g l] (.tuple #[]) [snkR g (l ++ bitB b)] := by
  intro W G hS
  cases b
  · have T := (Sts.start hS).new #[.int .i64 0] 3
    clear hS
    go_enter Try.func91, Try.ntmps91
    go_wp2_with fail
    refine (Does.at2 (sinkNatD g l W.heap.size 0 1 _ [0] (by intro j hj; simp at hj; subst hj; rfl) (by simp) (by simp; omega)) T.swap).mono ?_; clear T
    rintro e w1 ⟨rfl, T⟩
    go_wp2
    go_end0
    rw [show encs [(0 : Int)] = bitB false by show enc 0 ++ [] = _; rw [enc_small (by omega)]; rfl] at T
    exact ⟨rfl, T.swap.drop⟩
  · have T := (Sts.start hS).new #[.int .i64 1] 3
    clear hS
    go_enter Try.func91, Try.ntmps91
    go_wp2_with fail
    refine (Does.at2 (sinkNatD g l W.heap.size 0 1 _ [1] (by intro j hj; simp at hj; subst hj; rfl) (by simp) (by simp; omega)) T.swap).mono ?_; clear T
    rintro e w1 ⟨rfl, T⟩
    go_wp2
    go_end0
    rw [show encs [(1 : Int)] = bitB true by show enc 1 ++ [] = _; rw [enc_small (by omega)]; rfl] at T
    exact ⟨rfl, T.swap.drop⟩
def getI (s : Src) : Item × Src := (⟨(natS s 6).1, (natS (natS s 6).2 64).1⟩, (natS (natS s 6).2 64).2)
def getBal (s : Src) : Ballot × Src := (⟨(natS s 1099511627776).1, (natS (natS s 1099511627776).2 6).1⟩, (natS (natS s 1099511627776).2 6).2)
set_option maxHeartbeats 1000000 in
theorem itemGetD (g : Nat) (s : Src) : Does Try.prog 80 #[.pointer (some ⟨g, 0, none⟩)] [srcR g s] (.agg (IV (getI s).1)) [srcR g (getI s).2] := by
  intro W G h
  have T := (Sts.start h).new (IV noItem) 42
  clear h
  go_enter Try.func80, Try.ntmps80
  go_wp2_with fail
  refine (Does.at1 (natD g s 6 (by omega)) T.swap).mono ?_; clear T; rintro e w1 ⟨rfl, T⟩
  go_wp2_with fail
  refine (Does.at1 (natD g _ 64 (by omega)) T).mono ?_; clear T; rintro e w2 ⟨rfl, T⟩
  have hr := T.row1
  have hlt := row_lt hr
  have hI : getI s = (⟨(natS s 6).1, (natS (natS s 6).2 64).1⟩, (natS (natS s 6).2 64).2) := rfl
  have HI := Lib.hid hI; clear hI
  go_wp2
  exact TItem_ret _ rfl rfl rfl (row_setRow_same _ _ _ _ hr) ⟨by rw [HI.out], by rw [HI.out]; exact (T.swap.setRow _).swap.swap.drop⟩
set_option maxHeartbeats 1000000 in
theorem balGetD (g : Nat) (s : Src) : Does Try.prog 81 #[.pointer (some ⟨g, 0, none⟩)] [srcR g s] (.agg (BV (getBal s).1)) [srcR g (getBal s).2] := by
  intro W G h
  have T := (Sts.start h).new (BV noBallot) 31
  clear h
  go_enter Try.func81, Try.ntmps81
  go_wp2_with fail
  refine (Does.at1 (natD g s 1099511627776 (by omega)) T.swap).mono ?_; clear T; rintro e w1 ⟨rfl, T⟩
  go_wp2_with fail
  refine (Does.at1 (natD g _ 6 (by omega)) T).mono ?_; clear T; rintro e w2 ⟨rfl, T⟩
  have hr := T.row1
  have hlt := row_lt hr
  have hI : getBal s = (⟨(natS s 1099511627776).1, (natS (natS s 1099511627776).2 6).1⟩, (natS (natS s 1099511627776).2 6).2) := rfl
  have HI := Lib.hid hI; clear hI
  go_wp2
  exact TBallot_ret _ rfl rfl rfl (row_setRow_same _ _ _ _ hr) ⟨by rw [HI.out], by rw [HI.out]; exact (T.swap.setRow _).swap.swap.drop⟩
set_option maxHeartbeats 1000000 in
theorem bitD (g : Nat) (s : Src) : Does Try.prog 83 #[.pointer (some ⟨g, 0, none⟩)] [srcR g s] (.bool ((natS s 1).1 == 1)) [srcR g (natS s 1).2] := by
  intro W G h
  have T := Sts.start h
  clear h
  go_enter Try.func83, Try.ntmps83
  go_wp2_with fail
  refine (Does.at1 (natD g s 1 (by omega)) T).mono ?_; clear T; rintro e w1 ⟨rfl, T⟩
  go_wp2
  go_ret
  refine ⟨congrArg (fun b => Ending.returned (.bool b)) ?_, T⟩
  rw [Bool.eq_iff_iff]; simp; omega
set_option maxHeartbeats 1000000 in
theorem overQ {w W : World} {F : Nat → Prop} {R : List Res} {g : Nat} {s : Src} (T : Sts w F W (srcR g s :: R)) : Calls Try.prog 85 #[.pointer (some ⟨g, 0, none⟩)] W fun e W' => e = .returned (.bool (!s.dry && s.left.isEmpty)) ∧ W = W' := by
  have hc := row_cell T.row
  unfold SV at hc
  clear T
  have he : ((strL s.left).toList == []) = s.left.isEmpty := by
    rw [Bool.eq_iff_iff, beq_iff_eq, ByteArray.toList_eq, List.isEmpty_iff]; exact Iff.rfl
  have he2 : (strL s.left).toList.isEmpty = s.left.isEmpty := by
    rw [Bool.eq_iff_iff, List.isEmpty_iff, ByteArray.toList_eq, List.isEmpty_iff]; exact Iff.rfl
  generalize strL s.left = B at *
  cases hd : s.dry
  · rw [hd] at hc
    go_enter Try.func85, Try.ntmps85
    go_wp2
    go_ret
    exact ⟨rfl, rfl⟩
  · rw [hd] at hc
    go_enter Try.func85, Try.ntmps85
    go_wp2
    go_ret
    exact ⟨rfl, rfl⟩
end Go.Proofs.Ytpganpiidgkofaa
/- Layer 6: the plain law of a sum, bit by bit. No program stands here. -/
namespace Go.Proofs.Ytpganpiidgkofaa
set_option linter.unusedVariables false
def crcP : Nat := 3988292384
def crc1 (c : Nat) : Nat := if c % 2 = 1 then (c / 2) ^^^ crcP else c / 2
def crcN : Nat → Nat → Nat
  | 0, c => c
  | k + 1, c => crc1 (crcN k c)
def crcB (c b : Nat) : Nat := crcN 8 (c ^^^ b)
def crcL (c : Nat) (l : List UInt8) : Nat := l.foldl (fun c b => crcB c b.toNat) c
def crc (l : List UInt8) : Nat := 4294967295 - crcL 4294967295 l
theorem crc1_lt {c : Nat} (h : c < 4294967296) : crc1 c < 4294967296 := by
  unfold crc1
  split
  · exact Nat.xor_lt_two_pow (n := 32) (by omega) (by unfold crcP; omega)
  · omega
theorem crcN_lt {c : Nat} (h : c < 4294967296) : ∀ k, crcN k c < 4294967296
  | 0 => h
  | k + 1 => crc1_lt (crcN_lt h k)
theorem crcB_lt {c b : Nat} (h : c < 4294967296) (hb : b < 256) : crcB c b < 4294967296 := crcN_lt (Nat.xor_lt_two_pow (n := 32) (by omega) (by omega)) 8
theorem crcL_lt : ∀ {l : List UInt8} {c : Nat}, c < 4294967296 → crcL c l < 4294967296
  | [], _, h => h
  | b :: l, c, h => crcL_lt (l := l) (crcB_lt h b.toNat_lt)
theorem crcL_app (c : Nat) (l m : List UInt8) : crcL c (l ++ m) = crcL (crcL c l) m := by simp [crcL]
theorem crcL_snoc (c : Nat) (l : List UInt8) (b : UInt8) : crcL c (l ++ [b]) = crcB (crcL c l) b.toNat := by simp [crcL]
/-- The document's step for bit k of b. -/
def ref1 (c b k : Nat) : Nat := if b / 2 ^ k % 2 ≠ c % 2 then (c / 2) ^^^ crcP else c / 2
def refN (c b : Nat) : Nat → Nat
  | 0 => c
  | k + 1 => ref1 (refN c b k) b k
theorem xor_half (a b : Nat) : (a ^^^ b) / 2 = a / 2 ^^^ b / 2 := by
  have := Nat.shiftRight_xor_distrib (a := a) (b := b) (i := 1)
  simpa [Nat.shiftRight_eq_div_pow] using this
theorem xor_odd (a b : Nat) : (a ^^^ b) % 2 = (a + b) % 2 := by
  have h := Nat.xor_mod_two_pow (a := a) (b := b) (n := 1)
  simp only [Nat.pow_one] at h
  rw [h]
  rcases Nat.mod_two_eq_zero_or_one a with ha | ha <;> rcases Nat.mod_two_eq_zero_or_one b with hb | hb <;> rw [ha, hb] <;> simp <;> omega
theorem crc_ref (c b : Nat) : ∀ k, crcN k (c ^^^ b) = refN c b k ^^^ b / 2 ^ k
  | 0 => by simp [crcN, refN]
  | k + 1 => by
    rw [crcN, crc_ref c b k, refN]
    generalize refN c b k = e
    have hx : b / 2 ^ (k + 1) = b / 2 ^ k / 2 := by rw [Nat.pow_succ, Nat.div_div_eq_div_mul]
    rw [hx]
    generalize hy : b / 2 ^ k = x
    unfold crc1 ref1
    rw [hy, xor_half, xor_odd]
    by_cases h : x % 2 ≠ e % 2
    · rw [if_pos (by omega), if_pos h, Nat.xor_assoc, Nat.xor_comm (x / 2), ← Nat.xor_assoc]
    · rw [if_neg (by omega), if_neg h]
theorem crcB_ref {c b : Nat} (hb : b < 256) : crcB c b = refN c b 8 := by
  unfold crcB
  rw [crc_ref, show b / 2 ^ 8 = 0 by omega, Nat.xor_zero]
theorem refN_lt {c b : Nat} (h : c < 4294967296) : ∀ k, refN c b k < 4294967296
  | 0 => h
  | k + 1 => by
    have := refN_lt (b := b) h k
    rw [refN]; unfold ref1
    split
    · exact Nat.xor_lt_two_pow (n := 32) (by omega) (by unfold crcP; omega)
    · omega
theorem crc_lt (l : List UInt8) : crc l < 4294967296 := by unfold crc; omega
def fourB (c : Nat) : List UInt8 := [UInt8.ofNat c, UInt8.ofNat (c / 256), UInt8.ofNat (c / 65536), UInt8.ofNat (c / 16777216)]
/-- A text with its length, and its sum, ahead. -/
def sealB (l : List UInt8) (n : List UInt8) : List UInt8 := n ++ fourB (crc (n ++ l)) ++ l
end Go.Proofs.Ytpganpiidgkofaa
/- Layer 6: sums, texts sealed. -/
namespace Go.Proofs.Ytpganpiidgkofaa
open Go.RowKit
set_option linter.unusedVariables false
attribute [local go_sem] row_alloc row_drew row_drewN row_ext row_setCell row_setRow size_ext setRow_alloc setRow_drew loadOf storeOf piece_lit loadVal_at storeVal_at allOne_lit buildOf buildRes_some
attribute [local go_sem high] cell_alloc frozen_alloc setCell_alloc cell_ext frozen_ext cell_setRow frozen_setRow
theorem and_one (c : Nat) (h : c < 4294967296) : bits .and .u32 (c : Int) 1 = ((c % 2 : Nat) : Int) := by
  have := u32_and_nat c 1 h (by omega)
  rw [show ((1 : Nat) : Int) = 1 from rfl] at this
  rw [this, Nat.and_one_is_mod]
theorem xor_poly (c : Nat) (h : c < 4294967296) : bits .xor .u32 ((c : Int) / 2) 3988292384 = ((c / 2 ^^^ crcP : Nat) : Int) := by
  have := u32_xor_nat (c / 2) crcP (by omega) (by unfold crcP; omega)
  rw [← this]; rfl
set_option maxHeartbeats 1000000 in
theorem step_any (c b : Nat) (hc : c < 4294967296) (hb : b < 256) : Ans Try.prog 123 #[.int .u32 c, .int .u8 b] (.int .u32 (crcB c b)) := by
  intro w
  have hx := u32_xor_nat c b hc (by omega)
  go_enter Try.func123, Try.ntmps123
  go_wp2
  go_loop [0, 9] (fun u i => ∃ k : Nat, k ≤ 8 ∧ i = .int .i64 k ∧ u = .int .u32 (crcN k (c ^^^ b))) (fun _ i => 8 - (intOf i).toNat)
  case atStart => exact ⟨0, by omega, rfl, rfl⟩
  case round =>
    obtain ⟨k, hk, rfl, rfl⟩ := hrel
    clear hx
    by_cases hk8 : k < 8
    · have hlt := crcN_lt (c := c ^^^ b) (Nat.xor_lt_two_pow (n := 32) (by omega) (by omega)) k
      have hs : crcN (k + 1) (c ^^^ b) = crc1 (crcN k (c ^^^ b)) := rfl
      have HS := Lib.hid hs; clear hs
      generalize crcN k (c ^^^ b) = e at *
      have h1 := and_one e hlt
      have h2 := xor_poly e hlt
      by_cases ho : e % 2 = 1
      · have hc1 : crc1 e = e / 2 ^^^ crcP := by unfold crc1; rw [if_pos ho]
        rw [ho] at h1
        have HC := Lib.hid hc1; clear hc1 ho
        generalize e / 2 ^^^ crcP = e2 at *
        go_wp2
        go_round
        case rel => exact ⟨k + 1, by omega, by go_num, by rw [HS.out, HC.out]⟩
        case measure => simp [intOf]; omega
      · have ho0 : e % 2 = 0 := by omega
        have hc1 : crc1 e = e / 2 := by unfold crc1; rw [if_neg ho]
        rw [ho0] at h1
        have HC := Lib.hid hc1; clear hc1 ho ho0
        go_wp2
        go_round
        case rel => exact ⟨k + 1, by omega, by go_num, by rw [HS.out, HC.out]; first | rfl | simp⟩
        case measure => simp [intOf]; omega
    · obtain rfl : k = 8 := by omega
      go_wp2
      go_ret
      exact ⟨rfl, Below.refl _ _⟩
theorem conv_four (W : World) (a b c d : UInt8) : (convert 98 9 (.slice (some ⟨W.heap.size, 0, none⟩) 4 4)).run Try.prog (W.alloc (.cells #[.int .u8 (a.toNat : Int), .int .u8 (b.toNat : Int), .int .u8 (c.toNat : Int), .int .u8 (d.toNat : Int)] 5)) = .ok (.string (strL [a, b, c, d])) (W.alloc (.cells #[.int .u8 (a.toNat : Int), .int .u8 (b.toNat : Int), .int .u8 (c.toNat : Int), .int .u8 (d.toNat : Int)] 5)) := by
  refine run_convert_bytes_back _ _ _ _ ⟨W.heap.size, 0, none⟩ 4 [a, b, c, d] Try.underlying98 Try.underlying5 Try.underlying9 fun j hj => ?_
  have hadd : (⟨W.heap.size, 0, none⟩ : Addr).add j = ⟨W.heap.size, j, none⟩ := by unfold Addr.add; split <;> simp_all
  rw [hadd, cell_alloc, if_pos rfl]
  match j, hj with
  | 0, _ => rfl
  | 1, _ => rfl
  | 2, _ => rfl
  | 3, _ => rfl
theorem byte_of (n : Nat) : IntKind.u8.wrap (n : Int) = ((UInt8.ofNat n).toNat : Int) := by
  rw [UInt8.toNat_ofNat', IntKind.wrap_u8]; omega
set_option maxHeartbeats 1000000 in
theorem four_any (c : Nat) (hc : c < 4294967296) : Ans Try.prog 107 #[.int .u32 c] (.string (strL (fourB c))) := by
  intro w
  have h0 := byte_of c
  have h1 := byte_of (c / 256)
  have h2 := byte_of (c / 65536)
  have h3 := byte_of (c / 16777216)
  have e1 : ((c / 256 : Nat) : Int) = (c : Int) / 256 := by omega
  have e2 : ((c / 65536 : Nat) : Int) = (c : Int) / 65536 := by omega
  have e3 : ((c / 16777216 : Nat) : Int) = (c : Int) / 16777216 := by omega
  rw [e1] at h1; rw [e2] at h2; rw [e3] at h3
  clear e1 e2 e3
  unfold fourB
  generalize UInt8.ofNat c = x0 at *
  generalize UInt8.ofNat (c / 256) = x1 at *
  generalize UInt8.ofNat (c / 65536) = x2 at *
  generalize UInt8.ofNat (c / 16777216) = x3 at *
  have hcv := conv_four w x0 x1 x2 x3
  generalize strL [x0, x1, x2, x3] = B at *
  go_enter Try.func107, Try.ntmps107
  go_wp2
  go_ret
  exact ⟨rfl, (Below.refl _ _).alloc (Nat.le_refl _) _⟩
/-- texts in a row -/
def textsV (l : List (List UInt8)) : Array Value := (l.map fun t => Value.string (strL t)).toArray
theorem textsV_get (l : List (List UInt8)) (k : Nat) (hk : k < l.length) : (textsV l)[k]? = some (.string (strL l[k])) := by
  simp [textsV, hk]
theorem not_u32 (c : Nat) (h : c < 4294967296) : (4294967295 - (c : Int)) = ((4294967295 - c : Nat) : Int) := by omega
theorem not_bits (c : Nat) (h : c < 4294967296) : bits .xor .u32 IntKind.u32.max (c : Int) = ((4294967295 - c : Nat) : Int) := by
  have e : IntKind.u32.max = ((4294967295 : Nat) : Int) := rfl
  rw [e, u32_xor_nat _ _ (by omega) h]
  congr 1
  have h1 : (BitVec.allOnes 32 ^^^ BitVec.ofNat 32 c).toNat = 4294967295 ^^^ c := by
    rw [BitVec.toNat_xor]; simp [BitVec.toNat_ofNat, Nat.mod_eq_of_lt h]
  rw [← h1, BitVec.allOnes_xor, BitVec.toNat_not]
  simp [Nat.mod_eq_of_lt h]
set_option maxHeartbeats 2000000 in
theorem sumD (h : Nat) (l : List (List UInt8)) (c : Nat) (hl : l.length ≤ 1000) (hz : ∀ t ∈ l, t.length ≤ 1000000000) : Does Try.prog 108 #[.slice (some ⟨h, 0, none⟩) l.length c] [rowR h (textsV l)] (.int .u32 (crc l.flatten)) [rowR h (textsV l)] := by
  intro W G hS
  have T := Sts.start hS
  clear hS
  go_enter Try.func108, Try.ntmps108
  go_wp2
  go_loopw [3, 9] (fun u i wr => ∃ k : Nat, k ≤ l.length ∧ i = .int .i64 k ∧ u = .int .u32 (crcL 4294967295 (l.take k).flatten) ∧ Sts W G wr [rowR h (textsV l)]) (fun _ i _ => l.length - (intOf i).toNat)
  case atStart => exact ⟨0, by omega, rfl, rfl, T⟩
  case round =>
    clear T
    obtain ⟨k, hk, rfl, rfl, T⟩ := hrel
    by_cases hkl : k < l.length
    · have hc := row_cell T.row k
      rw [textsV_get l k hkl] at hc
      have htz := hz l[k] (List.getElem_mem hkl)
      have hsn : (l.take (k + 1)).flatten = (l.take k).flatten ++ l[k] := by rw [List.take_succ_eq_append_getElem hkl, List.flatten_append, List.flatten_cons, List.flatten_nil, List.append_nil]
      have HSN := Lib.hid hsn; clear hsn
      have hc0 : crcL 4294967295 (l.take k).flatten < 4294967296 := crcL_lt (by omega)
      have happ : crcL 4294967295 ((l.take k).flatten ++ l[k]) = crcL (crcL 4294967295 (l.take k).flatten) l[k] := crcL_app _ _ _
      have HAPP := Lib.hid happ; clear happ
      generalize crcL 4294967295 (l.take k).flatten = c0 at *
      generalize l[k] = t at *
      have hsz := strL_size t
      have hget : ∀ j (hj : j < (strL t).size) (hj' : j < t.length), (strL t)[j]'hj = t[j]'hj' := fun j hj _ => rfl
      have HSZ := Lib.hid hsz
      have htz2 : (strL t).size ≤ 1000000000 := by rw [hsz]; exact htz
      clear hsz
      go_wp2
      go_loopw [3, 15] (fun u i wr => ∃ j : Nat, j ≤ t.length ∧ i = .int .i64 j ∧ u = .int .u32 (crcL c0 (t.take j)) ∧ Sts W G wr [rowR h (textsV l)]) (fun _ i _ => t.length - (intOf i).toNat)
      case atStart => exact ⟨0, by omega, rfl, rfl, T⟩
      case round =>
        clear T hc
        obtain ⟨j, hj, rfl, rfl, T⟩ := hrel
        have hc1 : crcL c0 (t.take j) < 4294967296 := crcL_lt hc0
        by_cases hjl : j < t.length
        · have hjl2 : j < (strL t).size := by rw [HSZ.out]; exact hjl
          have hg1 := hget j hjl2 hjl
          have hsn : t.take (j + 1) = t.take j ++ [t[j]'hjl] := List.take_succ_eq_append_getElem hjl
          have hcs : crcL c0 (t.take (j + 1)) = crcB (crcL c0 (t.take j)) (t[j]'hjl).toNat := by rw [hsn, crcL_snoc]
          have HCS := Lib.hid hcs; clear hcs hsn
          have hb := (t[j]'hjl).toNat_lt
          have C := Lib.hid (step_any (crcL c0 (t.take j)) (t[j]'hjl).toNat hc1 hb)
          generalize crcL c0 (t.take j) = c1 at *
          clear hget
          generalize t[j]'hjl = x at *
          generalize strL t = B at *
          go_wp2_with fail
          refine (Ans.at C.out T).mono ?_; clear T; rintro e w1 ⟨rfl, T⟩
          go_wp2
          go_roundw
          case rel => exact ⟨j + 1, by omega, by go_num, by rw [HCS.out], T⟩
          case measure => simp [intOf]; omega
        · obtain rfl : j = t.length := by omega
          have hjl2 : ¬ t.length < (strL t).size := by rw [HSZ.out]; omega
          rw [List.take_length]
          clear hget
          have hsz3 := HSZ.out
          clear hjl2
          go_wp2
          go_roundw
          case rel => exact ⟨k + 1, by omega, by go_num, by rw [HSN.out, HAPP.out], T⟩
          case measure => simp [intOf]; omega
    · obtain rfl : k = l.length := by omega
      rw [List.take_length]
      have hlt : crcL 4294967295 l.flatten < 4294967296 := crcL_lt (by omega)
      have hn := not_bits _ hlt
      have hsg : IntKind.u32.signed = false := rfl
      have hcr : crc l.flatten = 4294967295 - crcL 4294967295 l.flatten := rfl
      have HC := Lib.hid hcr; clear hcr
      generalize crcL 4294967295 l.flatten = c0 at *
      go_wp2
      go_ret
      exact ⟨by rw [HC.out]; first | rfl | exact congrArg Ending.returned (by simp [hn]), T⟩
theorem bit_eq {x e k : Nat} (h : x / 2 ^ k % 2 = e % 2) : (((x : Int) / 2 ^ k % 2) != ((e : Int) % 2)) = false := by
  have : (x : Int) / 2 ^ k % 2 = ((x / 2 ^ k % 2 : Nat) : Int) := by simp
  rw [this, h]; simp
theorem bit_ne {x e k : Nat} (h : ¬ x / 2 ^ k % 2 = e % 2) : (((x : Int) / 2 ^ k % 2) != ((e : Int) % 2)) = true := by
  have h1 : (x : Int) / 2 ^ k % 2 = ((x / 2 ^ k % 2 : Nat) : Int) := by simp
  have h2 : (e : Int) % 2 = ((e % 2 : Nat) : Int) := by simp
  rw [h1, h2, bne_iff_ne]
  omega
theorem xor_poly2 (c : Nat) (h : c < 4294967296) : bits .xor .u32 (c : Int) 3988292384 = ((c ^^^ crcP : Nat) : Int) := by
  have := u32_xor_nat c crcP h (by unfold crcP; omega)
  rw [← this]; rfl
set_option maxHeartbeats 4000000 in
theorem rsum_any (t : List UInt8) (hz : t.length ≤ 1000000000) : Ans Try.prog 98 #[.string (strL t)] (.int .u32 (crc t)) := by
  intro w
  have hsz := strL_size t
  have hget : ∀ j (hj : j < (strL t).size) (hj' : j < t.length), (strL t)[j]'hj = t[j]'hj' := fun j hj _ => rfl
  have HSZ := Lib.hid hsz
  have htz2 : (strL t).size ≤ 1000000000 := by rw [hsz]; exact hz
  clear hsz
  go_enter Try.func98, Try.ntmps98
  go_wp2
  go_loop [3, 4] (fun u i => ∃ j : Nat, j ≤ t.length ∧ i = .int .i64 j ∧ u = .int .u32 (crcL 4294967295 (t.take j))) (fun _ i => t.length - (intOf i).toNat)
  case atStart => exact ⟨0, by omega, rfl, rfl⟩
  case round =>
    obtain ⟨j, hj, rfl, rfl⟩ := hrel
    have hc1 : crcL 4294967295 (t.take j) < 4294967296 := crcL_lt (by omega)
    by_cases hjl : j < t.length
    · have hjl2 : j < (strL t).size := by rw [HSZ.out]; exact hjl
      have hg1 := hget j hjl2 hjl
      have hsn : t.take (j + 1) = t.take j ++ [t[j]'hjl] := List.take_succ_eq_append_getElem hjl
      have hcs : crcL 4294967295 (t.take (j + 1)) = refN (crcL 4294967295 (t.take j)) (t[j]'hjl).toNat 8 := by rw [hsn, crcL_snoc, crcB_ref (t[j]'hjl).toNat_lt]
      have HCS := Lib.hid hcs; clear hcs hsn
      have hb := (t[j]'hjl).toNat_lt
      generalize crcL 4294967295 (t.take j) = c1 at *
      clear hget
      generalize t[j]'hjl = x at *
      generalize strL t = B at *
      go_wp2
      go_loop [3, 5] (fun u i => ∃ k : Nat, k ≤ 8 ∧ i = .int .i64 k ∧ u = .int .u32 (refN c1 x.toNat k)) (fun _ i => 8 - (intOf i).toNat)
      case atStart => exact ⟨0, by omega, rfl, rfl⟩
      case round =>
        obtain ⟨k, hk, rfl, rfl⟩ := hrel
        by_cases hk8 : k < 8
        · have hrl := refN_lt (b := x.toNat) hc1 k
          have hrs : refN c1 x.toNat (k + 1) = ref1 (refN c1 x.toNat k) x.toNat k := rfl
          have HRS := Lib.hid hrs; clear hrs
          generalize refN c1 x.toNat k = e at *
          have hxp := xor_poly e hrl
          have hr1 : ref1 e x.toNat k = if x.toNat / 2 ^ k % 2 ≠ e % 2 then (e / 2) ^^^ crcP else e / 2 := rfl
          by_cases hne : x.toNat / 2 ^ k % 2 = e % 2
          · rw [if_neg (by simp [hne])] at hr1
            have hnx : ∃ k' : Nat, k' ≤ 8 ∧ Value.int .i64 ((k : Int) + 1) = .int .i64 k' ∧ Value.int .u32 ((e : Int) / 2) = .int .u32 (refN c1 x.toNat k') := ⟨k + 1, by omega, by go_num, by rw [HRS.out, hr1]; simp⟩
            have HNX := Lib.hid hnx; clear hnx hr1 HRS
            have hk2 : k = 0 ∨ k = 1 ∨ k = 2 ∨ k = 3 ∨ k = 4 ∨ k = 5 ∨ k = 6 ∨ k = 7 := by omega
            rcases hk2 with rfl | rfl | rfl | rfl | rfl | rfl | rfl | rfl
            all_goals
              have q1 := bit_eq hne
              simp only [Int.reducePow, Int.ediv_one] at q1
              clear hne
              go_wp2
              go_round
              case rel => simpa using HNX.out
              case measure => simp [intOf]
          · rw [if_pos (by simpa using hne)] at hr1
            have hnx : ∃ k' : Nat, k' ≤ 8 ∧ Value.int .i64 ((k : Int) + 1) = .int .i64 k' ∧ Value.int .u32 ((e / 2 ^^^ crcP : Nat) : Int) = .int .u32 (refN c1 x.toNat k') := ⟨k + 1, by omega, by go_num, by rw [HRS.out, hr1]⟩
            have HNX := Lib.hid hnx; clear hnx hr1 HRS
            have q2 : IntKind.u64.wrap (k : Int) = k := IntWalk.u64_in _ (by omega)
            have hk2 : k = 0 ∨ k = 1 ∨ k = 2 ∨ k = 3 ∨ k = 4 ∨ k = 5 ∨ k = 6 ∨ k = 7 := by omega
            generalize e / 2 ^^^ crcP = e2 at *
            rcases hk2 with rfl | rfl | rfl | rfl | rfl | rfl | rfl | rfl
            all_goals
              have q1 := bit_ne hne
              simp only [Int.reducePow, Int.ediv_one] at q1
              clear hne q2
              go_wp2
              go_round
              case rel => simpa using HNX.out
              case measure => simp [intOf]
        · obtain rfl : k = 8 := by omega
          go_wp2
          go_round
          case rel => exact ⟨j + 1, by omega, by go_num, by rw [HCS.out]⟩
          case measure => simp [intOf]; omega
    · obtain rfl : j = t.length := by omega
      rw [List.take_length] at hc1 ⊢
      have hsz3 := HSZ.out
      have hcr : crc t = 4294967295 - crcL 4294967295 t := rfl
      have HC := Lib.hid hcr; clear hcr
      have hn := not_u32 _ hc1
      generalize crcL 4294967295 t = c0 at *
      clear hget HSZ
      generalize strL t = B at *
      go_wp2
      go_ret
      exact ⟨by rw [HC.out]; first | rfl | (congr 2), Below.refl _ _⟩
end Go.Proofs.Ytpganpiidgkofaa
