/- Layer 5: a call's bytes, written and read. -/
import Derived.Test.YtnjnafmonijlnaaTCall
import Derived.Test.YtnjnafmonijlnaaGetLaw
import Derived.Test.YtnjnafmonijlnaaDepsD
namespace Go.Proofs.Ytnjnafmonijlnaa
open Go.RowKit
set_option linter.unusedVariables false
attribute [local go_sem] row_alloc row_drew row_drewN row_ext row_setCell row_setRow size_ext setRow_alloc setRow_drew loadOf storeOf piece_lit loadVal_at storeVal_at allOne_lit buildOf buildRes_some
attribute [local go_sem high] cell_alloc frozen_alloc setCell_alloc cell_ext frozen_ext
attribute [local go_sem ↓] TDeed_ld0 TDeed_st0 TDeed_fd0 TDeed_bd0
attribute [local go_sem] TDeed_size TDeed_one TDeed_piece TDeed_c0 TDeed_c1 TDeed_c2 TDeed_c3 TDeed_c4 TDeed_c5 TDeed_set_kind TDeed_set_key TDeed_set_val TDeed_set_ver TDeed_set_ses TDeed_set_num TDeed_ld TDeed_st TDeed_f_kind TDeed_f_key TDeed_f_val TDeed_f_ver TDeed_f_ses TDeed_f_num TDeed_bd TDeed_fl TDeed_fl_kind TDeed_fl_key TDeed_fl_val TDeed_fl_ver TDeed_fl_ses TDeed_fl_num
attribute [local go_sem high] TDeed_eql TDeed_neq
attribute [local go_sem ↓] index_deps0 load_deps0 store_deps0
attribute [local go_sem] DV_piece DV_size DV_one index_deps load_deps store_deps
attribute [local go_sem high] TDeps_eql TDeps_neq
attribute [local go_sem ↓] TCall_ld0 TCall_st0 TCall_fd0 TCall_bd0
attribute [local go_sem] TCall_size TCall_one TCall_piece TCall_c0 TCall_c1 TCall_c2 TCall_c3 TCall_c4 TCall_c5 TCall_c6 TCall_c7 TCall_c8 TCall_c9 TCall_c10 TCall_c11 TCall_c12 TCall_c13 TCall_p_deed TCall_put_deed TCall_p_deps TCall_put_deps TCall_set_seq TCall_ld TCall_st TCall_f_deed TCall_f_deps TCall_f_seq TCall_bd TCall_fl TCall_fl_deed TCall_fl_deps TCall_fl_seq
attribute [local go_sem high] TCall_eql TCall_neq
def depsL (d : Nat → Int) : List Int := [d 0, d 1, d 2, d 3, d 4, d 5, d 6]
def callB (c : Call) : List UInt8 := deedB c.deed ++ encs (depsL c.deps) ++ enc c.seq.toNat
structure CallIn (c : Call) (N : Nat) : Prop where
  deed : DeedIn c.deed N
  deps : ∀ i, i < 7 → -9223372036854775808 ≤ c.deps i ∧ c.deps i < 9223372036854775808
  seq : -9223372036854775808 ≤ c.seq ∧ c.seq < 9223372036854775808
theorem depsL_in {c : Call} {N : Nat} (h : CallIn c N) : ∀ n ∈ depsL c.deps, -9223372036854775808 ≤ n ∧ n < 9223372036854775808 := by
  intro n hn
  simp only [depsL, List.mem_cons, List.not_mem_nil, or_false] at hn
  rcases hn with rfl | rfl | rfl | rfl | rfl | rfl | rfl <;> exact h.deps _ (by omega)
theorem callB_len {c : Call} {N : Nat} (h : CallIn c N) (hN : N ≤ 1000000) : (callB c).length ≤ N + 126 := by
  have h1 := deedB_len h.deed hN
  have h2 := encs_len (ns := depsL c.deps) fun n hn => (depsL_in h n hn).2
  have h3 := enc_len9 (n := c.seq.toNat) (by have := h.seq; omega)
  have h4 : (depsL c.deps).length = 7 := rfl
  simp only [callB, List.length_append] at *
  omega
set_option maxHeartbeats 1000000 in
theorem callPutD (g : Nat) (l : List UInt8) (c : Call) (N : Nat) (h : CallIn c N) (hN : N ≤ 1000000) (hb : l.length ≤ 100000) :
    Does Try.prog 40 #[.pointer (some ⟨g, 0, none⟩), .agg (CV c)] [snkR g l] (.tuple #[]) [snkR g (l ++ callB c)] := by
  intro W G hS
  have T := (Sts.start hS).new (CV c) 60
  clear hS
  have h1 := deedB_len h.deed hN
  have h2 := encs_len (ns := depsL c.deps) fun n hn => (depsL_in h n hn).2
  have h4 : (depsL c.deps).length = 7 := rfl
  have hr := T.row
  go_enter Try.func40, Try.ntmps40
  go_wp2_with fail
  refine (Does.at1 (deedPutD g l c.deed N h.deed hN (by omega)) T.swap).mono ?_; clear T hr; rintro e w1 ⟨rfl, T⟩
  go_wp2_with fail
  refine (Does.at2 (sinkNatD g _ W.heap.size 6 7 (CV c) (depsL c.deps) ?_ (depsL_in h) (by simp; omega)) T).mono ?_; clear T
  · intro j hj
    match j, hj with
    | 0, _ => rfl
    | 1, _ => rfl
    | 2, _ => rfl
    | 3, _ => rfl
    | 4, _ => rfl
    | 5, _ => rfl
    | 6, _ => rfl
  rintro e w2 ⟨rfl, T⟩
  have hc := row_cell T.row1
  have T := T.new #[.int .i64 c.seq] 3
  go_wp2_with fail
  refine (Does.at2 (sinkNatD g _ w2.heap.size 0 1 _ [c.seq] (by intro j hj; simp at hj; subst hj; rfl) (by simpa using h.seq) (by simp; omega)) T.swap).mono ?_; clear T hc
  rintro e w3 ⟨rfl, T⟩
  go_wp2
  go_end0
  refine ⟨rfl, ?_⟩
  have := T.swap.drop.swap.drop
  simpa [encs, callB, txt] using this
def natsS : Nat → Src → Nat → List Nat × Src
  | 0, s, _ => ([], s)
  | k + 1, s, m => ((natsS k s m).1 ++ [(natS (natsS k s m).2 m).1], (natS (natsS k s m).2 m).2)
theorem natsS_len (s : Src) (m : Nat) : ∀ k, (natsS k s m).1.length = k
  | 0 => rfl
  | k + 1 => by simp [natsS, natsS_len s m k]
def ofL (l : List Nat) : Nat → Int := fun i => (l.getD i 0 : Nat)
theorem ofL_snoc (l : List Nat) (v : Nat) : ofL (l ++ [v]) = upd (ofL l) l.length v := by
  funext i
  unfold ofL upd
  by_cases h : i = l.length
  · subst h; simp
  · rw [if_neg h]
    by_cases h2 : i < l.length
    · simp [List.getElem?_append_left h2]
    · have h3 : l.length ≤ i := by omega
      simp [List.getElem?_append_right h3, List.getElem?_eq_none h3, List.getElem?_eq_none (l := [v]) (i := i - l.length) (by simp; omega)]
def rawCall (s : Src) : Call × Src :=
  let d := getD s
  let ds := natsS 7 d.2 64
  let q := natS ds.2 1099511627776
  (⟨d.1, ofL ds.1, q.1⟩, q.2)
def getC (s : Src) : Call × Src := if (rawCall s).2.dry = true then (noCall, (rawCall s).2) else rawCall s
set_option maxHeartbeats 2000000 in
theorem callGetD (g : Nat) (s : Src) : Does Try.prog 41 #[.pointer (some ⟨g, 0, none⟩)] [srcR g s] (.agg (CV (getC s).1)) [srcR g (getC s).2] := by
  intro W G h
  have T := (Sts.start h).new (CV noCall) 60
  have hlt := row_lt (sat_row_get h)
  clear h
  go_enter Try.func41, Try.ntmps41
  go_wp2_with fail
  refine (Does.at1 (getR g s) T.swap).mono ?_; clear T; rintro e w1 ⟨rfl, T⟩
  obtain ⟨d, s1, hd⟩ : ∃ d s1, getD s = (d, s1) := ⟨_, _, rfl⟩
  have hrc : rawCall s = (⟨d, ofL (natsS 7 s1 64).1, (natS (natsS 7 s1 64).2 1099511627776).1⟩, (natS (natsS 7 s1 64).2 1099511627776).2) := by unfold rawCall; rw [hd]
  rw [hd] at T ⊢
  simp only at T ⊢
  have HRC := Lib.hid hrc; clear hrc hd
  have T := T.new (CV ⟨d, fun _ => 0, 0⟩) 60
  go_wp2
  go_loopw [8] (fun i wr => ∃ k : Nat, k ≤ 7 ∧ i = .int .i64 k ∧ Sts W G wr [rowR w1.heap.size (CV ⟨d, ofL (natsS k s1 64).1, 0⟩), srcR g (natsS k s1 64).2, rowR W.heap.size (CV noCall)]) (fun i _ => 7 - (intOf i).toNat)
  case atStart => exact ⟨0, by omega, rfl, T⟩
  case round =>
    clear T
    obtain ⟨k, hk, rfl, T⟩ := hrel
    by_cases hlt7 : k < 7
    · have hsn := ofL_snoc (natsS k s1 64).1 (natS (natsS k s1 64).2 64).1
      rw [natsS_len] at hsn
      have hsd := TCall_setdeps ⟨d, ofL (natsS k s1 64).1, 0⟩ k hlt7 (natS (natsS k s1 64).2 64).1
      simp only at hsd
      rw [← hsn] at hsd
      have HSD := Lib.hid hsd; clear hsd hsn
      go_wp2_with fail
      refine (Does.at1 (natD g _ 64 (by omega)) T.swap).mono ?_; clear T; rintro e w2 ⟨rfl, T⟩
      have hr := T.row1
      have hlt := row_lt hr
      have hc := row_cell hr (6 + k)
      have hcd := TCall_deps ⟨d, ofL (natsS k s1 64).1, 0⟩ k hlt7
      rw [hcd] at hc
      have hf := row_frozen hr (6 + k)
      clear hr hcd
      have T := T.swap.setCell (6 + k) (.int .i64 (natS (natsS k s1 64).2 64).1)
      rw [HSD.out] at T
      have HT := Lib.hid T; clear T HSD
      have hns : natsS (k + 1) s1 64 = ((natsS k s1 64).1 ++ [(natS (natsS k s1 64).2 64).1], (natS (natsS k s1 64).2 64).2) := rfl
      generalize natS (natsS k s1 64).2 64 = nk at *
      have HNS := Lib.hid hns; clear hns
      go_wp2
      go_roundw
      case rel => exact ⟨k + 1, by omega, by go_num, by rw [HNS.out]; exact HT.out⟩
      case measure => simp [intOf]; omega
    · obtain rfl : k = 7 := by omega
      clear hk hlt7
      obtain ⟨ds, s2, hds⟩ : ∃ ds s2, natsS 7 s1 64 = (ds, s2) := ⟨_, _, rfl⟩
      have hrc := HRC.out
      rw [hds] at T hrc
      simp only at T hrc
      have HRC := Lib.hid hrc; clear hrc
      go_wp2_with fail
      refine (Does.at1 (natD g _ 1099511627776 (by omega)) T.swap).mono ?_; clear T; rintro e w2 ⟨rfl, T⟩
      obtain ⟨sq, s3, hsq⟩ : ∃ sq s3, natS s2 1099511627776 = (sq, s3) := ⟨_, _, rfl⟩
      have hrc := HRC.out
      rw [hsq] at T hrc ⊢
      simp only at T hrc ⊢
      have HRC := Lib.hid hrc; clear hrc hsq hds
      have hr := T.row1
      have hlt := row_lt hr
      have hc := row_cell hr
      have hf := row_frozen hr
      have T := T.swap.setCell 13 (.int .i64 sq)
      rw [TCall_set_seq] at T
      go_wp2_with fail
      refine (Does.at1 (dryD g _) T.swap).mono ?_; clear T hr hlt hc hf; rintro e w4 ⟨rfl, T⟩
      have hr2 := T.row2
      have hs2 := row_lt hr2
      have hr1 := T.row1
      have hne : w1.heap.size ≠ W.heap.size := T.drop.ne
      cases hdr : s3.dry
      · have hget : getC s = (⟨d, ofL ds, sq⟩, s3) := by unfold getC; rw [HRC.out, if_neg (by simp [hdr])]
        have HG := Lib.hid hget; clear hget
        go_wp2
        exact TCall_ret _ rfl rfl rfl (row_setRow_same _ _ _ _ hr2) ⟨by rw [HG.out], by rw [HG.out]; exact (T.rot2.setRow _).drop.swap.drop⟩
      · have hget : getC s = (noCall, s3) := by unfold getC; rw [HRC.out, if_pos hdr]
        have HG := Lib.hid hget; clear hget
        go_wp2
        exact TCall_ret _ rfl rfl rfl (row_setRow_same _ _ _ _ hr2) ⟨by rw [HG.out], by rw [HG.out]; exact (T.rot2.setRow _).drop.swap.drop⟩
end Go.Proofs.Ytnjnafmonijlnaa
