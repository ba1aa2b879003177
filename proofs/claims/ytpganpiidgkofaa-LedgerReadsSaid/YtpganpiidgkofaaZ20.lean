/- Several texts in one. -/
import Derived.Test.YtpganpiidgkofaaZ7
import Derived.Test.YtpganpiidgkofaaZ19
import Derived.Test.YtpganpiidgkofaaZ9
import Derived.Test.YtpganpiidgkofaaZ10
/- Layer 5: a call's bytes, written and read. -/
namespace Go.Proofs.Ytpganpiidgkofaa
open Go.RowKit
set_option linter.unusedVariables false
attribute [local go_sem] row_alloc row_drew row_drewN row_ext row_setCell row_setRow size_ext setRow_alloc setRow_drew loadOf storeOf piece_lit loadVal_at storeVal_at allOne_lit buildOf buildRes_some
attribute [local go_sem high] cell_alloc frozen_alloc setCell_alloc cell_ext frozen_ext cell_setRow frozen_setRow
attribute [local go_sem ↓] TDeed_ld0 TDeed_st0 TDeed_fd0 TDeed_bd0
attribute [local go_sem] TDeed_size TDeed_one TDeed_piece TDeed_c0 TDeed_c1 TDeed_c2 TDeed_c3 TDeed_c4 TDeed_c5 TDeed_set_kind TDeed_set_key TDeed_set_val TDeed_set_ver TDeed_set_ses TDeed_set_num TDeed_ld TDeed_st TDeed_f_kind TDeed_f_key TDeed_f_val TDeed_f_ver TDeed_f_ses TDeed_f_num TDeed_bd TDeed_fl TDeed_fl_kind TDeed_fl_key TDeed_fl_val TDeed_fl_ver TDeed_fl_ses TDeed_fl_num
attribute [local go_sem high] TDeed_eql TDeed_neq
attribute [local go_sem ↓] index_deps0 load_deps0 store_deps0
attribute [local go_sem] DV_piece DV_size DV_one index_deps load_deps store_deps
attribute [local go_sem high] TDeps_eql TDeps_neq
attribute [local go_sem ↓] TCall_ld0 TCall_st0 TCall_fd0 TCall_bd0
attribute [local go_sem] TCall_size TCall_one TCall_piece TCall_c0 TCall_c1 TCall_c2 TCall_c3 TCall_c4 TCall_c5 TCall_c6 TCall_c7 TCall_c8 TCall_c9 TCall_c10 TCall_c11 TCall_c12 TCall_c13 TCall_p_deed TCall_put_deed TCall_p_deps TCall_put_deps TCall_set_seq TCall_ld TCall_st TCall_f_deed TCall_f_deps TCall_f_seq TCall_bd TCall_fl TCall_fl_deed TCall_fl_deps TCall_fl_seq
attribute [local go_sem high] TCall_eql TCall_neq
def depsL (d : Nat → Int) : List Int := [d 0, d 1, d 2, d 3, d 4, d 5, d 6]
def callB (c : Call) : List UInt8 := deedB c.deed ++ encs (depsL c.deps) ++ enc c.seq.toNat
structure CallIn (c : Call) (N : Nat) : Prop where
  deed : DeedIn c.deed N
  deps : ∀ i, i < 7 → -9223372036854775808 ≤ c.deps i ∧ c.deps i < 9223372036854775808
  seq : -9223372036854775808 ≤ c.seq ∧ c.seq < 9223372036854775808
theorem depsL_in {c : Call} {N : Nat} (h : CallIn c N) : ∀ n ∈ depsL c.deps, -9223372036854775808 ≤ n ∧ n < 9223372036854775808 := by
  intro n hn
  simp only [depsL, List.mem_cons, List.not_mem_nil, or_false] at hn
  rcases hn with rfl | rfl | rfl | rfl | rfl | rfl | rfl <;> exact h.deps _ (by omega)
theorem callB_len {c : Call} {N : Nat} (h : CallIn c N) (hN : N ≤ 1000000) : (callB c).length ≤ N + 126 := by
  have h1 := deedB_len h.deed hN
  have h2 := encs_len (ns := depsL c.deps) fun n hn => (depsL_in h n hn).2
  have h3 := enc_len9 (n := c.seq.toNat) (by have := h.seq; omega)
  have h4 : (depsL c.deps).length = 7 := rfl
  simp only [callB, List.length_append] at *
  omega
set_option maxHeartbeats 1000000 in
theorem callPutD (g : Nat) (l : List UInt8) (c : Call) (N : Nat) (h : CallIn c N) (hN : N ≤ 1000000) (hb : l.length ≤ 100000) :
    Does Try.prog 92 #[.pointer (some ⟨g, 0, none⟩), .agg (CV c)] [snkR g l] (.tuple #[]) [snkR g (l ++ callB c)] := by
  intro W G hS
  have T := (Sts.start hS).new (CV c) 37
  clear hS
  have h1 := deedB_len h.deed hN
  have h2 := encs_len (ns := depsL c.deps) fun n hn => (depsL_in h n hn).2
  have h4 : (depsL c.deps).length = 7 := rfl
  have hr := T.row
  go_enter Try.func92, Try.ntmps92
  go_wp2_with fail
  refine (Does.at1 (deedPutD g l c.deed N h.deed hN (by omega)) T.swap).mono ?_; clear T hr; rintro e w1 ⟨rfl, T⟩
  go_wp2_with fail
  refine (Does.at2 (sinkNatD g _ W.heap.size 6 7 (CV c) (depsL c.deps) ?_ (depsL_in h) (by simp; omega)) T).mono ?_; clear T
  · intro j hj
    match j, hj with
    | 0, _ => rfl
    | 1, _ => rfl
    | 2, _ => rfl
    | 3, _ => rfl
    | 4, _ => rfl
    | 5, _ => rfl
    | 6, _ => rfl
  rintro e w2 ⟨rfl, T⟩
  have hc := row_cell T.row1
  have T := T.new #[.int .i64 c.seq] 3
  go_wp2_with fail
  refine (Does.at2 (sinkNatD g _ w2.heap.size 0 1 _ [c.seq] (by intro j hj; simp at hj; subst hj; rfl) (by simpa using h.seq) (by simp; omega)) T.swap).mono ?_; clear T hc
  rintro e w3 ⟨rfl, T⟩
  go_wp2
  go_end0
  refine ⟨rfl, ?_⟩
  have := T.swap.drop.swap.drop
  simpa [encs, callB, txt] using this
def natsS : Nat → Src → Nat → List Nat × Src
  | 0, s, _ => ([], s)
  | k + 1, s, m => ((natsS k s m).1 ++ [(natS (natsS k s m).2 m).1], (natS (natsS k s m).2 m).2)
theorem natsS_len (s : Src) (m : Nat) : ∀ k, (natsS k s m).1.length = k
  | 0 => rfl
  | k + 1 => by simp [natsS, natsS_len s m k]
def ofL (l : List Nat) : Nat → Int := fun i => (l.getD i 0 : Nat)
theorem ofL_snoc (l : List Nat) (v : Nat) : ofL (l ++ [v]) = upd (ofL l) l.length v := by
  funext i
  unfold ofL upd
  by_cases h : i = l.length
  · subst h; simp
  · rw [if_neg h]
    by_cases h2 : i < l.length
    · simp [List.getElem?_append_left h2]
    · have h3 : l.length ≤ i := by omega
      simp [List.getElem?_append_right h3, List.getElem?_eq_none h3, List.getElem?_eq_none (l := [v]) (i := i - l.length) (by simp; omega)]
def rawCall (s : Src) : Call × Src :=
  let d := getD s
  let ds := natsS 7 d.2 64
  let q := natS ds.2 1099511627776
  (⟨d.1, ofL ds.1, q.1⟩, q.2)
def getC (s : Src) : Call × Src := if (rawCall s).2.dry = true then (noCall, (rawCall s).2) else rawCall s
set_option maxHeartbeats 2000000 in
theorem callGetD (g : Nat) (s : Src) : Does Try.prog 84 #[.pointer (some ⟨g, 0, none⟩)] [srcR g s] (.agg (CV (getC s).1)) [srcR g (getC s).2] := by
  intro W G h
  have T := (Sts.start h).new (CV noCall) 37
  have hlt := row_lt (sat_row_get h)
  clear h
  go_enter Try.func84, Try.ntmps84
  go_wp2_with fail
  refine (Does.at1 (getR g s) T.swap).mono ?_; clear T; rintro e w1 ⟨rfl, T⟩
  obtain ⟨d, s1, hd⟩ : ∃ d s1, getD s = (d, s1) := ⟨_, _, rfl⟩
  have hrc : rawCall s = (⟨d, ofL (natsS 7 s1 64).1, (natS (natsS 7 s1 64).2 1099511627776).1⟩, (natS (natsS 7 s1 64).2 1099511627776).2) := by unfold rawCall; rw [hd]
  rw [hd] at T ⊢
  simp only at T ⊢
  have HRC := Lib.hid hrc; clear hrc hd
  have T := T.new (CV ⟨d, fun _ => 0, 0⟩) 37
  go_wp2
  go_loopw [8] (fun i wr => ∃ k : Nat, k ≤ 7 ∧ i = .int .i64 k ∧ Sts W G wr [rowR w1.heap.size (CV ⟨d, ofL (natsS k s1 64).1, 0⟩), srcR g (natsS k s1 64).2, rowR W.heap.size (CV noCall)]) (fun i _ => 7 - (intOf i).toNat)
  case atStart => exact ⟨0, by omega, rfl, T⟩
  case round =>
    clear T
    obtain ⟨k, hk, rfl, T⟩ := hrel
    by_cases hlt7 : k < 7
    · have hsn := ofL_snoc (natsS k s1 64).1 (natS (natsS k s1 64).2 64).1
      rw [natsS_len] at hsn
      have hsd := TCall_setdeps ⟨d, ofL (natsS k s1 64).1, 0⟩ k hlt7 (natS (natsS k s1 64).2 64).1
      simp only at hsd
      rw [← hsn] at hsd
      have HSD := Lib.hid hsd; clear hsd hsn
      go_wp2_with fail
      refine (Does.at1 (natD g _ 64 (by omega)) T.swap).mono ?_; clear T; rintro e w2 ⟨rfl, T⟩
      have hr := T.row1
      have hlt := row_lt hr
      have hc := row_cell hr (6 + k)
      have hcd := TCall_deps ⟨d, ofL (natsS k s1 64).1, 0⟩ k hlt7
      rw [hcd] at hc
      have hf := row_frozen hr (6 + k)
      clear hr hcd
      have T := T.swap.setCell (6 + k) (.int .i64 (natS (natsS k s1 64).2 64).1)
      rw [HSD.out] at T
      have HT := Lib.hid T; clear T HSD
      have hns : natsS (k + 1) s1 64 = ((natsS k s1 64).1 ++ [(natS (natsS k s1 64).2 64).1], (natS (natsS k s1 64).2 64).2) := rfl
      generalize natS (natsS k s1 64).2 64 = nk at *
      have HNS := Lib.hid hns; clear hns
      go_wp2
      go_roundw
      case rel => exact ⟨k + 1, by omega, by go_num, by rw [HNS.out]; exact HT.out⟩
      case measure => simp [intOf]; omega
    · obtain rfl : k = 7 := by omega
      clear hk hlt7
      obtain ⟨ds, s2, hds⟩ : ∃ ds s2, natsS 7 s1 64 = (ds, s2) := ⟨_, _, rfl⟩
      have hrc := HRC.out
      rw [hds] at T hrc
      simp only at T hrc
      have HRC := Lib.hid hrc; clear hrc
      go_wp2_with fail
      refine (Does.at1 (natD g _ 1099511627776 (by omega)) T.swap).mono ?_; clear T; rintro e w2 ⟨rfl, T⟩
      obtain ⟨sq, s3, hsq⟩ : ∃ sq s3, natS s2 1099511627776 = (sq, s3) := ⟨_, _, rfl⟩
      have hrc := HRC.out
      rw [hsq] at T hrc ⊢
      simp only at T hrc ⊢
      have HRC := Lib.hid hrc; clear hrc hsq hds
      have hr := T.row1
      have hlt := row_lt hr
      have hc := row_cell hr
      have hf := row_frozen hr
      have T := T.swap.setCell 13 (.int .i64 sq)
      rw [TCall_set_seq] at T
      go_wp2_with fail
      refine (Does.at1 (dryD g _) T.swap).mono ?_; clear T hr hlt hc hf; rintro e w4 ⟨rfl, T⟩
      have hr2 := T.row2
      have hs2 := row_lt hr2
      have hr1 := T.row1
      have hne : w1.heap.size ≠ W.heap.size := T.drop.ne
      cases hdr : s3.dry
      · have hget : getC s = (⟨d, ofL ds, sq⟩, s3) := by unfold getC; rw [HRC.out, if_neg (by simp [hdr])]
        have HG := Lib.hid hget; clear hget
        go_wp2
        exact TCall_ret _ rfl rfl rfl (row_setRow_same _ _ _ _ hr2) ⟨by rw [HG.out], by rw [HG.out]; exact (T.rot2.setRow _).drop.swap.drop⟩
      · have hget : getC s = (noCall, s3) := by unfold getC; rw [HRC.out, if_pos hdr]
        have HG := Lib.hid hget; clear hget
        go_wp2
        exact TCall_ret _ rfl rfl rfl (row_setRow_same _ _ _ _ hr2) ⟨by rw [HG.out], by rw [HG.out]; exact (T.rot2.setRow _).drop.swap.drop⟩
end Go.Proofs.Ytpganpiidgkofaa
/- Layer 5: the law of a call's bytes. -/
namespace Go.Proofs.Ytpganpiidgkofaa
open Go.RowKit
set_option linter.unusedVariables false
attribute [local go_sem] row_alloc row_drew row_drewN row_ext row_setCell row_setRow size_ext setRow_alloc setRow_drew loadOf storeOf piece_lit loadVal_at storeVal_at allOne_lit buildOf buildRes_some
attribute [local go_sem high] cell_alloc frozen_alloc setCell_alloc cell_ext frozen_ext cell_setRow frozen_setRow
attribute [local go_sem ↓] TDeed_ld0 TDeed_st0 TDeed_fd0 TDeed_bd0
attribute [local go_sem] TDeed_size TDeed_one TDeed_piece TDeed_c0 TDeed_c1 TDeed_c2 TDeed_c3 TDeed_c4 TDeed_c5 TDeed_set_kind TDeed_set_key TDeed_set_val TDeed_set_ver TDeed_set_ses TDeed_set_num TDeed_ld TDeed_st TDeed_f_kind TDeed_f_key TDeed_f_val TDeed_f_ver TDeed_f_ses TDeed_f_num TDeed_bd TDeed_fl TDeed_fl_kind TDeed_fl_key TDeed_fl_val TDeed_fl_ver TDeed_fl_ses TDeed_fl_num
attribute [local go_sem high] TDeed_eql TDeed_neq
attribute [local go_sem ↓] index_deps0 load_deps0 store_deps0
attribute [local go_sem] DV_piece DV_size DV_one index_deps load_deps store_deps
attribute [local go_sem high] TDeps_eql TDeps_neq
attribute [local go_sem ↓] TCall_ld0 TCall_st0 TCall_fd0 TCall_bd0
attribute [local go_sem] TCall_size TCall_one TCall_piece TCall_c0 TCall_c1 TCall_c2 TCall_c3 TCall_c4 TCall_c5 TCall_c6 TCall_c7 TCall_c8 TCall_c9 TCall_c10 TCall_c11 TCall_c12 TCall_c13 TCall_p_deed TCall_put_deed TCall_p_deps TCall_put_deps TCall_set_seq TCall_ld TCall_st TCall_f_deed TCall_f_deps TCall_f_seq TCall_bd TCall_fl TCall_fl_deed TCall_fl_deps TCall_fl_seq
attribute [local go_sem high] TCall_eql TCall_neq
set_option maxHeartbeats 1000000 in
theorem refCallBytes (c : Call) (N : Nat) (h : CallIn c N) (hN : N ≤ 100000) : Ans Try.prog 66 #[.agg (CV c)] (.string (strL (callB c))) := by
  refine Ans.of_sts fun w => ?_
  have T := (Sts.start0 w).new (CV c) 37
  have C1 := Lib.hid (refDeedBytes c.deed N h.deed (by omega))
  have hl1 := deedB_len h.deed (by omega)
  have hr := T.row
  go_enter Try.func66, Try.ntmps66
  go_wp2_with fail
  refine (Ans.at C1.out T).mono ?_; clear T hr; rintro e w1 ⟨rfl, T⟩
  go_wp2
  go_loopw [3, 4] (fun s i wr => ∃ k : Nat, k ≤ 7 ∧ i = .int .i64 k ∧ s = .string (strL (deedB c.deed ++ encs ((depsL c.deps).take k))) ∧ Sts w (fun _ => False) wr [rowR w.heap.size (CV c)]) (fun _ i _ => 7 - (intOf i).toNat)
  case atStart => exact ⟨0, by omega, rfl, by simp [encs], T⟩
  case round =>
    clear T
    obtain ⟨k, hk, rfl, rfl, T⟩ := hrel
    have hl2 := encs_len (ns := (depsL c.deps).take k) fun n hn => (depsL_in h n (List.mem_of_mem_take hn)).2
    have hl3 : ((depsL c.deps).take k).length ≤ 7 := by rw [List.length_take]; have : (depsL c.deps).length = 7 := rfl; omega
    by_cases hlt7 : k < 7
    · have hd := h.deps k hlt7
      have hsn : (depsL c.deps).take (k + 1) = (depsL c.deps).take k ++ [c.deps k] := by
        match k, hlt7 with
        | 0, _ => rfl
        | 1, _ => rfl
        | 2, _ => rfl
        | 3, _ => rfl
        | 4, _ => rfl
        | 5, _ => rfl
        | 6, _ => rfl
      have hc := row_cell T.row (6 + k)
      rw [TCall_deps c k hlt7] at hc
      have C2 := Lib.hid (refNat (c.deps k) hd.2)
      have hl4 := enc_len9 (n := (c.deps k).toNat) (by omega)
      have hz : (strL (deedB c.deed ++ encs ((depsL c.deps).take k))).size + (strL (enc (c.deps k).toNat)).size ≤ 9223372036854775807 := by
        rw [strL_size, strL_size, List.length_append]; omega
      have happ := strL_app (deedB c.deed ++ encs ((depsL c.deps).take k)) (enc (c.deps k).toNat)
      rw [List.append_assoc, ← encs_snoc, ← hsn] at happ
      have HA := Lib.hid happ; clear happ hsn
      generalize strL (deedB c.deed ++ encs ((depsL c.deps).take k)) = B at *
      generalize strL (enc (c.deps k).toNat) = B2 at *
      go_wp2_with fail
      refine (Ans.at C2.out T).mono ?_; clear T hc; rintro e w2 ⟨rfl, T⟩
      go_wp2
      go_roundw
      case rel => exact ⟨k + 1, by omega, by go_num, by rw [HA.out], T⟩
      case measure => simp [intOf]; omega
    · obtain rfl : k = 7 := by omega
      have hr := row_cell T.row
      have C2 := Lib.hid (refNat c.seq h.seq.2)
      have hl4 := enc_len9 (n := c.seq.toNat) (by have := h.seq; omega)
      have hz : (strL (deedB c.deed ++ encs ((depsL c.deps).take 7))).size + (strL (enc c.seq.toNat)).size ≤ 9223372036854775807 := by
        rw [strL_size, strL_size, List.length_append]; omega
      have happ : strL (deedB c.deed ++ encs ((depsL c.deps).take 7)) ++ strL (enc c.seq.toNat) = strL (callB c) := by rw [strL_app]; rfl
      have HA := Lib.hid happ; clear happ
      generalize strL (deedB c.deed ++ encs ((depsL c.deps).take 7)) = B at *
      generalize strL (enc c.seq.toNat) = B2 at *
      go_wp2_with fail
      refine (Ans.at C2.out T).mono ?_; clear T hr; rintro e w2 ⟨rfl, T⟩
      go_wp2
      go_ret
      exact ⟨congrArg (fun s => Ending.returned (.string s)) (by rw [← HA.out]), T.nil⟩
/-! the plain laws -/
theorem natsS_inv (s : Src) (m : Nat) (hm : m < 128 ^ 9) : ∀ k, (natsS k s m).2.dry = false → (k = 0 ∨ s.dry = false) ∧ s.left = encs ((natsS k s m).1.map Int.ofNat) ++ (natsS k s m).2.left ∧ ∀ v ∈ (natsS k s m).1, v ≤ m
  | 0, h => ⟨.inl rfl, by simp [natsS, encs], by simp [natsS]⟩
  | k + 1, h => by
    obtain ⟨a1, a2, a3, a4⟩ := natS_inv (s := (natsS k s m).2) (most := m) h
    obtain ⟨b1, b2, b3⟩ := natsS_inv s m hm k a1
    refine ⟨.inr ?_, ?_, ?_⟩
    · rcases b1 with rfl | b1
      · exact a1
      · exact b1
    · simp only [natsS, List.map_append, List.map_cons, List.map_nil, encs_snoc]
      rw [b2, a2]; simp
    · intro v hv
      simp only [natsS, List.mem_append, List.mem_singleton] at hv
      rcases hv with hv | rfl
      · exact b3 v hv
      · exact a3
theorem encs_cons (n : Int) (ns : List Int) : encs (n :: ns) = enc n.toNat ++ encs ns := by simp [encs]
theorem natsS_enc (m : Nat) (hm : m < 128 ^ 9) (ns : List Int) (rest : List UInt8) (h : ∀ n ∈ ns, 0 ≤ n ∧ n ≤ m) : ∀ k, k ≤ ns.length → natsS k ⟨encs ns ++ rest, false⟩ m = ((ns.take k).map Int.toNat, ⟨encs (ns.drop k) ++ rest, false⟩)
  | 0, _ => by simp [natsS]
  | k + 1, hk => by
    have h2 := h ns[k] (List.getElem_mem (by omega))
    rw [natsS, natsS_enc m hm ns rest h k (by omega)]
    simp only
    rw [List.drop_eq_getElem_cons (i := k) (by omega), encs_cons, List.append_assoc, natS_enc (by omega), if_pos (by omega)]
    rw [List.take_succ_eq_append_getElem (show k < ns.length by omega)]
    simp only [List.map_append, List.map_cons, List.map_nil]
theorem goodD_of {d : Nat → Int} {n : Int} (h : goodD d n = true) : ∀ i, i < 7 → 0 ≤ d i ∧ d i ≤ 64 ∧ (n ≤ i → d i = 0) := fun i hi => by
  have := List.all_eq_true.1 h i (by simp [hi])
  simp only [goodAt, decide_eq_true_eq] at this
  exact this
theorem rawDeed_good {d : Deed} {more : List UInt8} {N : Nat} (hN : N ≤ 1000000) (h : DeedIn d N) (hg : goodB d = true) : getD ⟨deedB d ++ more, false⟩ = (d, ⟨more, false⟩) := by
  have hg2 := hg
  simp only [goodB, decide_eq_true_eq] at hg2
  obtain ⟨a0, a1, b0, a2, _, a3, a4, c0, a5, a6⟩ := hg2
  have hk : 0 ≤ d.kind ∧ d.kind ≤ 5 := by unfold Kinds at a6; omega
  unfold getD
  rcases rawDeed_enc (more := more) hN h ⟨hk.1, c0, a0, b0⟩ with h1 | ⟨_, h2⟩
  · rw [h1, if_neg (by simp [hg])]
  · exact absurd ⟨hk.2, a3, a4, a5, a1, a2⟩ h2
theorem CV_eq {a b : Call} (h1 : a.deed = b.deed) (h2 : ∀ i, i < 7 → a.deps i = b.deps i) (h3 : a.seq = b.seq) : CV a = CV b := (TCall_ext a b).2 ⟨by rw [h1], DV_congr h2, h3⟩
/-- What was written is read. -/
theorem getC_enc {c : Call} {N : Nat} (hN : N ≤ 100000) (h : CallIn c N) (hg : goodC c 7 = true) (more : List UInt8) : ∃ c', getC ⟨callB c ++ more, false⟩ = (c', ⟨more, false⟩) ∧ CV c' = CV c := by
  simp only [goodC, Bool.and_eq_true, decide_eq_true_eq] at hg
  obtain ⟨⟨⟨g1, g2⟩, g3⟩, g4⟩ := hg
  have hd := goodD_of g2
  have hn : ∀ n ∈ depsL c.deps, 0 ≤ n ∧ n ≤ (64 : Nat) := by
    intro n hn
    simp only [depsL, List.mem_cons, List.not_mem_nil, or_false] at hn
    rcases hn with rfl | rfl | rfl | rfl | rfl | rfl | rfl
    · exact ⟨(hd 0 (by omega)).1, (hd 0 (by omega)).2.1⟩
    · exact ⟨(hd 1 (by omega)).1, (hd 1 (by omega)).2.1⟩
    · exact ⟨(hd 2 (by omega)).1, (hd 2 (by omega)).2.1⟩
    · exact ⟨(hd 3 (by omega)).1, (hd 3 (by omega)).2.1⟩
    · exact ⟨(hd 4 (by omega)).1, (hd 4 (by omega)).2.1⟩
    · exact ⟨(hd 5 (by omega)).1, (hd 5 (by omega)).2.1⟩
    · exact ⟨(hd 6 (by omega)).1, (hd 6 (by omega)).2.1⟩
  have e1 : getD ⟨callB c ++ more, false⟩ = (c.deed, ⟨encs (depsL c.deps) ++ (enc c.seq.toNat ++ more), false⟩) := by
    have := rawDeed_good (more := encs (depsL c.deps) ++ (enc c.seq.toNat ++ more)) (by omega) h.deed g1
    rw [← this]; simp [callB]
  have e2 := natsS_enc 64 (by decide) (depsL c.deps) (enc c.seq.toNat ++ more) hn 7 (Nat.le_refl 7)
  have e3 : natsS 7 ⟨encs (depsL c.deps) ++ (enc c.seq.toNat ++ more), false⟩ 64 = ((depsL c.deps).map Int.toNat, ⟨enc c.seq.toNat ++ more, false⟩) := by rw [e2]; simp [depsL, encs]
  have e4 : natS ⟨enc c.seq.toNat ++ more, false⟩ 1099511627776 = (c.seq.toNat, ⟨more, false⟩) := by rw [natS_enc (by rw [show (128 : Nat) ^ 9 = 9223372036854775808 by decide]; omega), if_pos (by omega)]
  have e5 : rawCall ⟨callB c ++ more, false⟩ = (⟨c.deed, ofL ((depsL c.deps).map Int.toNat), c.seq.toNat⟩, ⟨more, false⟩) := by
    unfold rawCall
    simp only [e1, e3, e4]
  refine ⟨⟨c.deed, ofL ((depsL c.deps).map Int.toNat), c.seq.toNat⟩, by unfold getC; rw [e5, if_neg (by simp)], CV_eq rfl ?_ (by simp; omega)⟩
  intro i hi
  have := (hd i hi).1
  match i, hi with
  | 0, _ => simp [ofL, depsL]; omega
  | 1, _ => simp [ofL, depsL]; omega
  | 2, _ => simp [ofL, depsL]; omega
  | 3, _ => simp [ofL, depsL]; omega
  | 4, _ => simp [ofL, depsL]; omega
  | 5, _ => simp [ofL, depsL]; omega
  | 6, _ => simp [ofL, depsL]; omega
theorem getC_dry {s : Src} (h : (getC s).2.dry = true) : (getC s).1 = noCall := by
  unfold getC at h ⊢
  split at h
  · rename_i hc; rw [if_pos hc]
  · rename_i hc; exact absurd h hc
/-- What is read was written so, and can be. -/
theorem getC_inv {s : Src} (h : (getC s).2.dry = false) : s.dry = false ∧ s.left = callB (getC s).1 ++ (getC s).2.left ∧ CallIn (getC s).1 48 ∧ goodC (getC s).1 7 = true := by
  have h0 : (rawCall s).2.dry = false := by
    unfold getC at h
    split at h
    · rename_i hc; rw [hc] at h; cases h
    · exact h
  have hg : getC s = rawCall s := by unfold getC; rw [if_neg (by simp [h0])]
  rw [hg]
  obtain ⟨l, hl⟩ : ∃ l, l = (natsS 7 (getD s).2 64).1 := ⟨_, rfl⟩
  have hlen := natsS_len (getD s).2 64 7
  unfold rawCall at h0 ⊢
  simp only at h0 ⊢
  obtain ⟨a1, a2, a3, a4⟩ := natS_inv h0
  obtain ⟨b1, b2, b3⟩ := natsS_inv (getD s).2 64 (by decide) 7 a1
  have b1 : (getD s).2.dry = false := by rcases b1 with h | h; · omega
                                         · exact h
  obtain ⟨c1, c2, c3, c4⟩ := getD_inv b1
  rw [← hl] at hlen b2 b3 ⊢
  have p9 : (128 : Nat) ^ 9 = 9223372036854775808 := by decide
  have hof : ∀ i, i < 7 → 0 ≤ ofL l i ∧ ofL l i ≤ 64 := by
    intro i hi
    unfold ofL
    rw [List.getD_eq_getElem?_getD, List.getElem?_eq_getElem (by omega)]
    have := b3 l[i] (List.getElem_mem (by omega))
    simp only [Option.getD_some]; omega
  have hdl : depsL (ofL l) = l.map Int.ofNat := by
    match l, hlen with
    | [_, _, _, _, _, _, _], _ => rfl
  refine ⟨c1, ?_, ⟨c3, fun i hi => ?_, ?_⟩, ?_⟩
  · rw [c2, b2, a2]; simp [callB, hdl]
  · have := hof i hi; show _ ≤ ofL l i ∧ ofL l i < _; omega
  · simp only; omega
  · simp only [goodC, c4, Bool.true_and, Bool.and_eq_true, decide_eq_true_eq]
    refine ⟨⟨goodD_yes fun i hi => ?_, by omega⟩, by omega⟩
    have := hof i hi
    refine ⟨this.1, this.2, fun h7 => by omega⟩
end Go.Proofs.Ytpganpiidgkofaa
