/- Several texts in one. -/
import Derived.Test.YtpganpiidgkofaaZ23
import Derived.Test.YtpganpiidgkofaaZ13
import Derived.Test.YtpganpiidgkofaaZ30
/- Layer 6: the texts that stand sealed, one by one. -/
namespace Go.Proofs.Ytpganpiidgkofaa
open Go.RowKit Go.Shelf
set_option linter.unusedVariables false
attribute [local go_sem] Oper.semAt_some
attribute [local go_sem] row_alloc row_drew row_drewN row_ext row_setCell row_setRow size_ext setRow_alloc setRow_drew loadOf storeOf piece_lit loadVal_at storeVal_at allOne_lit buildOf buildRes_some
attribute [local go_sem high] cell_alloc frozen_alloc setCell_alloc cell_ext frozen_ext cell_setRow frozen_setRow
/-- Sealed texts, one behind the other, with how far each reaches. -/
def seals : Nat → Nat → List UInt8 → List (Nat × List UInt8)
  | 0, _, _ => []
  | f + 1, at', b => if (openS b).2 = 0 then [] else (at' + (openS b).2, (openS b).1) :: seals f (at' + (openS b).2) (b.drop (openS b).2)
def allS (b : List UInt8) : List (Nat × List UInt8) := seals b.length 0 b
theorem openS_le (b : List UInt8) : (openS b).2 ≤ b.length := by
  unfold openS
  dsimp only
  split
  · exact Nat.zero_le _
  · simp only []; omega
theorem drop_at {α : Type} {l : List α} {k : Nat} {x : α} {t : List α} (h : l.drop k = x :: t) : l[k]? = some x ∧ l.drop (k + 1) = t ∧ k < l.length := by
  have h1 : (l.drop k)[0]? = some x := by rw [h]; rfl
  rw [List.getElem?_drop] at h1
  refine ⟨h1, ?_, (List.getElem?_eq_some_iff.1 h1).1⟩
  have : (l.drop k).drop 1 = t := by rw [h]; rfl
  rw [List.drop_drop] at this
  exact this
set_option maxHeartbeats 2000000 in
theorem sealAllG (c : Nat) (b : List UInt8) (hb : b.length ≤ 1000000000) (W0 : World) (H : Nat → Prop) (hS : Sat W0 [rowR c #[.string (strL b)]] H) :
    Gives Try.prog 77 #[.pointer (some ⟨c, 0, none⟩)] (fun x : Nat × List UInt8 => #[.int .i64 x.1, .string (strL x.2)]) (fun A B => ∀ k, H k → B.heap[k]? = A.heap[k]?) (allS b) W0 := by
  intro l J Jx W hW hJ hJx hY h0
  have hS1 : Sat W [rowR c #[.string (strL b)]] H := hS.stay fun k hk => hW.block k (hS.lt k hk)
  have hab : ∀ k A B, J k A → Below A.heap.size A B → J k B := fun k A B h hb => hJ k A B none h ⟨hb.os, hb.tape, hb.output, hb.size, fun j hj _ => hb.block j hj⟩ (fun r e => by cases e)
  have hsb : ∀ A B, Sat A [rowR c #[.string (strL b)]] H → Below A.heap.size A B → Sat B [rowR c #[.string (strL b)]] H := fun A B h hb => h.stay fun j hj => hb.block j (h.lt j hj)
  have HSB := Lib.hid hsb; clear hsb
  have HAB := Lib.hid hab; have HJY := Lib.hid hY
  clear hS hab hJ hJx hW hY
  have hbz := strL_size b
  have HBZ := Lib.hid hbz; clear hbz
  refine callsIn_of_wp Try.func77 rfl trivial ?_ rfl
  simp only [Try.ntmps77, List.size_toArray, List.length_cons, List.length_nil, Nat.reduceAdd, Nat.reduceSub, Array.replicate_succ, Array.replicate_zero, List.push_toArray, List.append_toArray, List.nil_append, List.cons_append]
  gi_wp2
  gi_loopw [3] (fun i wr => ∃ at' k : Nat, at' ≤ b.length ∧ i = .int .i64 at' ∧ J k wr ∧ (∃ f, b.length - at' ≤ f ∧ (allS b).drop k = seals f at' (b.drop at')) ∧ k ≤ (allS b).length ∧ Sat wr [rowR c #[.string (strL b)]] H) (fun i _ => b.length - (intOf i).toNat)
  case atStart => exact ⟨0, 0, by omega, rfl, h0, ⟨b.length, by omega, by simp [allS]⟩, by omega, hS1⟩
  case round =>
    clear hS1 h0
    obtain ⟨at', k, hat, rfl, hJk, hdr, hk, hSk⟩ := hrel
    have hr := (Sts.start hSk).row
    have hc := row_cell hr 0
    have hlc := row_lt hr
    have hex : (strL b).extract at' b.length = strL (b.drop at') := strL_drop b at'
    have ho := open_any (b.drop at') (by rw [List.length_drop]; omega)
    have hle := openS_le (b.drop at')
    rw [List.length_drop] at hle
    have HEX := Lib.hid hex; have HO := Lib.hid ho; have HDR := Lib.hid hdr
    clear hex ho hdr hr
    have hbs : (strL b).size = b.length := HBZ.out
    gi_wp2_with fail
    rw [HEX.out]
    refine ⟨trivial, ?_⟩
    refine (callsIn_wide.2 (HO.out wr)).mono ?_
    rintro e w1 ⟨rfl, hb1⟩
    have hJ1 := HAB.out _ _ _ hJk hb1
    have hS1 := HSB.out _ _ hSk hb1
    clear hJk hSk hb1 hc hlc HO HEX
    obtain ⟨f, hf, hdr⟩ := HDR.out
    clear HDR
    generalize hn : (openS (b.drop at')).2 = n at *
    generalize ht : (openS (b.drop at')).1 = t at *
    by_cases h0 : n = 0
    · subst h0
      have hk2 : (allS b).length = k := by
        have h9 : seals f at' (b.drop at') = [] := by
          cases f with
          | zero => rfl
          | succ f => unfold seals; rw [if_pos hn]
        rw [h9, List.drop_eq_nil_iff] at hdr
        omega
      have hJ2 : J (allS b).length w1 := by rw [hk2]; exact hJ1
      have HJ2 := Lib.hid hJ2
      clear hJ2 hJ1 hS1 hdr hk2 hn ht HAB HSB HJY
      gi_wp2
      refine bodyPost_ret (results_none rfl _ _ _) rfl ?_
      exact ⟨⟨_, rfl⟩, .inl HJ2.out⟩
    · have hdr2 : (allS b).drop k = (at' + n, t) :: seals (f - 1) (at' + n) (b.drop (at' + n)) := by
        rw [hdr]
        obtain ⟨f, rfl⟩ : ∃ f', f = f' + 1 := ⟨f - 1, by omega⟩
        conv => lhs; unfold seals
        rw [if_neg (by rw [hn]; exact h0), hn, ht, List.drop_drop, Nat.add_sub_cancel]
      clear hdr
      obtain ⟨hx, hd1, hk1⟩ := drop_at hdr2
      have hY := HJY.out k _ w1 hx hJ1
      have h0b : ((n : Int) == 0) = false := by simp; omega
      have hat2 : ((at' + n : Nat) : Int) = (at' : Int) + n := by omega
      have H1 := Lib.hid hd1; have H2 := Lib.hid hS1; have H3 := Lib.hid hat2
      clear hdr2 hd1 hx hJ1 hS1 hn ht hat2
      dsimp only at hY
      rw [H3.out] at hY
      obtain ⟨fn, tmps, assign, body, hy, hR⟩ := hY
      gi_wp2
      refine hR.mono ?_
      rintro e W3 (⟨rfl, hJ5, hk5⟩ | ⟨rfl, hJx5⟩)
      · have hS5 : Sat W3 [rowR c #[.string (strL b)]] H := H2.out.stay fun j hj => hk5 j hj
        have H5 := Lib.hid hJ5; have H6 := Lib.hid hS5
        clear hJ5 hS5 hk5 hy hR
        gi_wp2
        go_roundw
        case rel => exact ⟨at' + n, k + 1, by omega, by rw [H3.out], H5.out, ⟨f - 1, by omega, H1.out⟩, by omega, H6.out⟩
        case measure => simp [intOf]; omega
      · have H5 := Lib.hid hJx5; clear hJx5 hy hR
        gi_wp2
        refine bodyPost_ret (results_none rfl _ _ _) rfl ?_
        exact ⟨⟨_, rfl⟩, .inr ⟨_, Nat.succ_pos _, by omega, H5.out⟩⟩
set_option maxHeartbeats 1000000 in
theorem sealAllS {w W : World} {F : Nat → Prop} {L : List Res} (T : Sts w F W L) (b : List UInt8) : Calls Try.prog 51 #[.string (strL b)] W fun e W' => e = .returned (.func (.func 77) #[] #[.pointer (some ⟨W.heap.size, 0, none⟩)]) ∧ Sts w F W' (rowR W.heap.size #[.string (strL b)] :: L) := by
  have T := T.new #[.string (strL b)] 9
  go_enter Try.func51, Try.ntmps51
  go_wp2
  go_ret
  exact ⟨rfl, T⟩
end Go.Proofs.Ytpganpiidgkofaa
/- Layer 9: a ledger is opened. -/
namespace Go.Proofs.Ytpganpiidgkofaa
open Go.RowKit Go.Shelf
set_option linter.unusedVariables false
set_option maxRecDepth 20000
attribute [local go_sem] Oper.semAt_some
attribute [local go_sem] row_alloc row_drew row_drewN row_ext row_setCell row_setRow size_ext setRow_alloc setRow_drew loadOf storeOf piece_lit loadVal_at storeVal_at allOne_lit buildOf buildRes_some
attribute [local go_sem high] cell_alloc frozen_alloc setCell_alloc cell_ext frozen_ext cell_setRow frozen_setRow
attribute [local go_sem ↓] TDeed_ld0 TDeed_st0 TDeed_fd0 TDeed_bd0
attribute [local go_sem] TDeed_size TDeed_one TDeed_piece TDeed_c0 TDeed_c1 TDeed_c2 TDeed_c3 TDeed_c4 TDeed_c5 TDeed_set_kind TDeed_set_key TDeed_set_val TDeed_set_ver TDeed_set_ses TDeed_set_num TDeed_ld TDeed_st TDeed_f_kind TDeed_f_key TDeed_f_val TDeed_f_ver TDeed_f_ses TDeed_f_num TDeed_bd TDeed_fl TDeed_fl_kind TDeed_fl_key TDeed_fl_val TDeed_fl_ver TDeed_fl_ses TDeed_fl_num
attribute [local go_sem high] TDeed_eql TDeed_neq
attribute [local go_sem ↓] index_deps0 load_deps0 store_deps0
attribute [local go_sem] DV_piece DV_size DV_one index_deps load_deps store_deps
attribute [local go_sem high] TDeps_eql TDeps_neq
attribute [local go_sem ↓] TCall_ld0 TCall_st0 TCall_fd0 TCall_bd0
attribute [local go_sem] TCall_size TCall_one TCall_piece TCall_c0 TCall_c1 TCall_c2 TCall_c3 TCall_c4 TCall_c5 TCall_c6 TCall_c7 TCall_c8 TCall_c9 TCall_c10 TCall_c11 TCall_c12 TCall_c13 TCall_p_deed TCall_put_deed TCall_p_deps TCall_put_deps TCall_set_seq TCall_ld TCall_st TCall_f_deed TCall_f_deps TCall_f_seq TCall_bd TCall_fl TCall_fl_deed TCall_fl_deps TCall_fl_seq
attribute [local go_sem high] TCall_eql TCall_neq
attribute [local go_sem ↓] TItem_ld0 TItem_st0 TItem_fd0 TItem_bd0
attribute [local go_sem] TItem_size TItem_one TItem_piece TItem_c0 TItem_c1 TItem_set_rep TItem_set_num TItem_ld TItem_st TItem_f_rep TItem_f_num TItem_bd TItem_fl TItem_fl_rep TItem_fl_num
attribute [local go_sem high] TItem_eql TItem_neq
attribute [local go_sem ↓] TBallot_ld0 TBallot_st0 TBallot_fd0 TBallot_bd0
attribute [local go_sem] TBallot_size TBallot_one TBallot_piece TBallot_c0 TBallot_c1 TBallot_set_round TBallot_set_rep TBallot_ld TBallot_st TBallot_f_round TBallot_f_rep TBallot_bd TBallot_fl TBallot_fl_round TBallot_fl_rep
attribute [local go_sem high] TBallot_eql TBallot_neq
attribute [local go_sem ↓] TInst_ld0 TInst_st0 TInst_fd0 TInst_bd0
attribute [local go_sem] TInst_size TInst_one TInst_piece TInst_c0 TInst_c1 TInst_c2 TInst_c3 TInst_c4 TInst_c5 TInst_c6 TInst_c7 TInst_c8 TInst_c9 TInst_c10 TInst_c11 TInst_c12 TInst_c13 TInst_c14 TInst_c15 TInst_c16 TInst_c17 TInst_c18 TInst_c19 TInst_p_prom TInst_put_prom TInst_p_vote TInst_put_vote TInst_set_status TInst_p_call TInst_put_call TInst_set_same TInst_ld TInst_st TInst_f_prom TInst_f_vote TInst_f_status TInst_f_call TInst_f_same TInst_bd TInst_fl TInst_fl_prom TInst_fl_vote TInst_fl_status TInst_fl_call TInst_fl_same
attribute [local go_sem high] TInst_eql TInst_neq
attribute [local go_sem] led_n led_p led_g
def sizeB (n : Int) : Bool := n == 3 || n == 5 || n == 7
theorem size_any (n : Int) : Ans Try.prog 48 #[.int .i64 n] (.bool (sizeB n)) := by
  intro W
  by_cases h3 : n = 3
  · subst h3
    go_enter Try.func48, Try.ntmps48
    go_wp2
    go_ret
    exact ⟨rfl, Below.refl _ _⟩
  · by_cases h5 : n = 5
    · subst h5
      go_enter Try.func48, Try.ntmps48
      go_wp2
      go_ret
      exact ⟨rfl, Below.refl _ _⟩
    · have e3 : (n == 3) = false := by simpa using h3
      have e5 : (n == 5) = false := by simpa using h5
      have e : sizeB n = (n == 7) := by unfold sizeB; rw [e3, e5]; rfl
      rw [e]
      clear h3 h5 e
      go_enter Try.func48, Try.ntmps48
      go_wp2
      go_ret
      exact ⟨rfl, Below.refl _ _⟩
/-- Is that text a record that can be? -/
noncomputable def okT (n : Int) (s : List UInt8) : Bool := !(readS ⟨s, false⟩).2.2.dry && (readS ⟨s, false⟩).2.2.left.isEmpty && goodI (readS ⟨s, false⟩).1 n && goodN (readS ⟨s, false⟩).2.1 n
noncomputable def mK (n : Int) (ts : List (Nat × List UInt8)) : RowsM := ts.foldl (fun m t => setM m (readS ⟨t.2, false⟩).1 (readS ⟨t.2, false⟩).2.1) ⟨n, fun _ => []⟩
def eK (ts : List (Nat × List UInt8)) : Nat := (ts.getLast?.map (·.1)).getD 0
/-- The records that stand on a plate. -/
noncomputable def goT (n : Int) (D : List UInt8) : List (Nat × List UInt8) := (allS D).takeWhile fun t => okT n t.2
theorem setM_n (m : RowsM) (x : Item) (t : Inst) : (setM m x t).n = m.n := by unfold setM; split <;> rfl
theorem foldSet_n (ts : List (Nat × List UInt8)) : ∀ m : RowsM, (ts.foldl (fun m t => setM m (readS ⟨t.2, false⟩).1 (readS ⟨t.2, false⟩).2.1) m).n = m.n := by
  induction ts with
  | nil => intro m; rfl
  | cons t ts ih => intro m; rw [List.foldl_cons, ih, setM_n]
theorem mK_n (n : Int) (ts : List (Nat × List UInt8)) : (mK n ts).n = n := foldSet_n ts _
theorem mK_snoc (n : Int) (ts : List (Nat × List UInt8)) (t : Nat × List UInt8) : mK n (ts ++ [t]) = setM (mK n ts) (readS ⟨t.2, false⟩).1 (readS ⟨t.2, false⟩).2.1 := by
  unfold mK; rw [List.foldl_append]; rfl
theorem eK_snoc (ts : List (Nat × List UInt8)) (t : Nat × List UInt8) : eK (ts ++ [t]) = t.1 := by simp [eK]
theorem take_snoc' {α : Type} {l : List α} {k : Nat} {x : α} (h : l[k]? = some x) : l.take (k + 1) = l.take k ++ [x] := by
  rw [List.take_add_one, h]; rfl
theorem takeWhile_all {α : Type} {p : α → Bool} {l : List α} (h : l.all p = true) : l.takeWhile p = l := by
  induction l with
  | nil => rfl
  | cons a l ih => simp at h; simp [h.1]; exact ih (by simpa using h.2)
theorem takeWhile_stop {α : Type} {p : α → Bool} {x : α} : ∀ {l : List α} {k : Nat}, (l.take k).all p = true → l[k]? = some x → p x = false → l.takeWhile p = l.take k
  | [], k, _, h, _ => by simp at h
  | a :: l, 0, _, h, hp => by simp at h; subst h; simp [hp]
  | a :: l, k + 1, ha, h, hp => by
    simp at ha h
    simp [ha.1]
    exact takeWhile_stop (by simpa using ha.2) h hp
/-- How far texts reach. -/
theorem seals_le : ∀ (f at' : Nat) (b : List UInt8), ∀ t ∈ seals f at' b, t.1 ≤ at' + b.length
  | 0, _, _, t, h => by simp [seals] at h
  | f + 1, at', b, t, h => by
    unfold seals at h
    have h1 := openS_le b
    split at h
    · simp at h
    · rcases List.mem_cons.1 h with rfl | h
      · simp only; omega
      · have := seals_le f _ _ t h
        rw [List.length_drop] at this
        omega
theorem allS_le (b : List UInt8) : ∀ t ∈ allS b, t.1 ≤ b.length := fun t h => by have := seals_le _ _ _ t h; omega
theorem eK_le {ts : List (Nat × List UInt8)} {N : Nat} (h : ∀ t ∈ ts, t.1 ≤ N) : eK ts ≤ N := by
  unfold eK
  cases hl : ts.getLast? with
  | none => simp
  | some t => exact h t (List.mem_of_getLast? hl)
end Go.Proofs.Ytpganpiidgkofaa
