/- Several texts in one. -/
import Derived.Test.YtpganpiidgkofaaX35
import Derived.Test.YtpganpiidgkofaaX36
import Derived.Test.YtpganpiidgkofaaX38
import Derived.Test.YtpganpiidgkofaaX5
/- Layer 12: a script is played: a space, and a book of what it knows. -/
namespace Go.Proofs.Ytpganpiidgkofaa
open Go.RowKit Go.Shelf
set_option linter.unusedVariables false
set_option maxRecDepth 20000
attribute [local go_sem] Oper.semAt_some
attribute [local go_sem] row_alloc row_drew row_drewN row_ext row_setCell row_setRow size_ext setRow_alloc setRow_drew loadOf storeOf piece_lit loadVal_at storeVal_at allOne_lit buildOf buildRes_some
attribute [local go_sem high] cell_alloc frozen_alloc setCell_alloc cell_ext frozen_ext cell_setRow frozen_setRow
attribute [local go_sem ↓] TDeed_ld0 TDeed_st0 TDeed_fd0 TDeed_bd0
attribute [local go_sem] TDeed_size TDeed_one TDeed_piece TDeed_c0 TDeed_c1 TDeed_c2 TDeed_c3 TDeed_c4 TDeed_c5 TDeed_set_kind TDeed_set_key TDeed_set_val TDeed_set_ver TDeed_set_ses TDeed_set_num TDeed_ld TDeed_st TDeed_f_kind TDeed_f_key TDeed_f_val TDeed_f_ver TDeed_f_ses TDeed_f_num TDeed_bd TDeed_fl TDeed_fl_kind TDeed_fl_key TDeed_fl_val TDeed_fl_ver TDeed_fl_ses TDeed_fl_num
attribute [local go_sem high] TDeed_eql TDeed_neq
attribute [local go_sem ↓] index_deps0 load_deps0 store_deps0
attribute [local go_sem] DV_piece DV_size DV_one index_deps load_deps store_deps
attribute [local go_sem high] TDeps_eql TDeps_neq
attribute [local go_sem ↓] TCall_ld0 TCall_st0 TCall_fd0 TCall_bd0
attribute [local go_sem] TCall_size TCall_one TCall_piece TCall_c0 TCall_c1 TCall_c2 TCall_c3 TCall_c4 TCall_c5 TCall_c6 TCall_c7 TCall_c8 TCall_c9 TCall_c10 TCall_c11 TCall_c12 TCall_c13 TCall_p_deed TCall_put_deed TCall_p_deps TCall_put_deps TCall_set_seq TCall_ld TCall_st TCall_f_deed TCall_f_deps TCall_f_seq TCall_bd TCall_fl TCall_fl_deed TCall_fl_deps TCall_fl_seq
attribute [local go_sem high] TCall_eql TCall_neq
attribute [local go_sem ↓] TItem_ld0 TItem_st0 TItem_fd0 TItem_bd0
attribute [local go_sem] TItem_size TItem_one TItem_piece TItem_c0 TItem_c1 TItem_set_rep TItem_set_num TItem_ld TItem_st TItem_f_rep TItem_f_num TItem_bd TItem_fl TItem_fl_rep TItem_fl_num
attribute [local go_sem high] TItem_eql TItem_neq
attribute [local go_sem ↓] TBallot_ld0 TBallot_st0 TBallot_fd0 TBallot_bd0
attribute [local go_sem] TBallot_size TBallot_one TBallot_piece TBallot_c0 TBallot_c1 TBallot_set_round TBallot_set_rep TBallot_ld TBallot_st TBallot_f_round TBallot_f_rep TBallot_bd TBallot_fl TBallot_fl_round TBallot_fl_rep
attribute [local go_sem high] TBallot_eql TBallot_neq
attribute [local go_sem ↓] TInst_ld0 TInst_st0 TInst_fd0 TInst_bd0
attribute [local go_sem] TInst_size TInst_one TInst_piece TInst_c0 TInst_c1 TInst_c2 TInst_c3 TInst_c4 TInst_c5 TInst_c6 TInst_c7 TInst_c8 TInst_c9 TInst_c10 TInst_c11 TInst_c12 TInst_c13 TInst_c14 TInst_c15 TInst_c16 TInst_c17 TInst_c18 TInst_c19 TInst_p_prom TInst_put_prom TInst_p_vote TInst_put_vote TInst_set_status TInst_p_call TInst_put_call TInst_set_same TInst_ld TInst_st TInst_f_prom TInst_f_vote TInst_f_status TInst_f_call TInst_f_same TInst_bd TInst_fl TInst_fl_prom TInst_fl_vote TInst_fl_status TInst_fl_call TInst_fl_same
attribute [local go_sem high] TInst_eql TInst_neq
attribute [local go_sem ↓] TSCall_ld0 TSCall_st0 TSCall_fd0 TSCall_bd0
attribute [local go_sem] TSCall_size TSCall_one TSCall_piece TSCall_c0 TSCall_c1 TSCall_c2 TSCall_c3 TSCall_c4 TSCall_c5 TSCall_c6 TSCall_c7 TSCall_c8 TSCall_c9 TSCall_c10 TSCall_c11 TSCall_c12 TSCall_c13 TSCall_c14 TSCall_c15 TSCall_c16 TSCall_c17 TSCall_c18 TSCall_c19 TSCall_c20 TSCall_c21 TSCall_c22 TSCall_c23 TSCall_c24 TSCall_set_kind TSCall_p_item TSCall_put_item TSCall_p_inst TSCall_put_inst TSCall_set_keep TSCall_set_spoil TSCall_ld TSCall_st TSCall_f_kind TSCall_f_item TSCall_f_inst TSCall_f_keep TSCall_f_spoil TSCall_bd TSCall_fl TSCall_fl_kind TSCall_fl_item TSCall_fl_inst TSCall_fl_keep TSCall_fl_spoil
attribute [local go_sem high] TSCall_eql TSCall_neq
theorem add_safe {D : List UInt8} {safe : Nat} {m : RowsM} (x : Item) (i : Inst) (h : safe ≤ D.length) : (addM D safe m x i).2.1 ≤ (addM D safe m x i).1.length := by
  have ht : ∀ k, (tightP D safe m k).2.1 ≤ (tightP D safe m k).1.length := fun k => by
    unfold tightP tidyP
    split
    · split
      · exact Nat.le_refl _
      · exact h
    · exact h
  unfold addM
  split
  · split
    · split
      · rw [List.length_append]; exact Nat.le_trans (ht _) (Nat.le_add_right _ _)
      · exact ht _
    · exact ht _
  · exact h
theorem openF_le {n : Int} {D : List UInt8} {safe : Nat} (h : safe ≤ D.length) : openF n D safe ≤ (openD n D).length := by
  unfold openF openD
  split
  · rw [List.length_take]; omega
  · exact h
def PlayPost (w : World) (F : Nat → Prop) (R : List Res) (n : Int) (e : Ending) (W' : World) : Prop :=
  (sizeB n = false ∧ ∃ b, e = .returned (.tuple #[.pointer none, .pointer (some ⟨b, 0, none⟩)]) ∧ Sts w F W' (bookR b [] :: R)) ∨
  (sizeB n = true ∧ ∃ s lg p g bk bs I D safe m b B, e = .returned (.tuple #[.pointer (some ⟨s, 0, none⟩), .pointer (some ⟨b, 0, none⟩)]) ∧ SpI n 60 I D m ∧ BookI B m ∧ Sts w F W' (spL s lg p g bk bs I D safe m ++ (bookR b B :: R)))
def SFits (l : List SCall) : Prop := ∀ x ∈ l, Fits x.keep ∧ 0 ≤ x.spoil ∧ x.spoil ≤ 255
set_option maxHeartbeats 16000000 in
theorem playT (n : Int) (A : Option Addr) (c : Nat) (l : List SCall) (h60 : l.length ≤ 60) (w W : World) (R : List Res) (hx : RowsIn w A 25 SCV l) (hkp : SFits l) (T : Sts w (fun _ => False) W R) :
    Calls Try.prog 39 #[.int .i64 n, .slice A l.length c] W (PlayPost w (fun _ => False) R n) := by
  have HX := Lib.hid hx; have HKP := Lib.hid hkp; clear hx hkp
  have hll : (l.length : Int) ≤ 60 := by omega
  refine (callsIn_wide (n := 4)).1 ?_
  refine callsIn_of_wp_marks Try.func39 rfl trivial ?_ rfl
  simp only [Try.ntmps39, List.size_toArray, List.length_cons, List.length_nil, Nat.reduceAdd, Nat.reduceSub, Array.replicate_succ, Array.replicate_zero, List.push_toArray, List.append_toArray, List.nil_append, List.cons_append]
  refine wpIn_wide.2 ?_
  have HN := Lib.hid (newT T); clear T
  go_wp2_with fail
  refine HN.out.mono ?_
  clear HN
  rintro e w1 ⟨rfl, T⟩
  generalize W.heap.size = p at *
  cases hs : sizeB n
  case false =>
    have HB := Lib.hid (Ans.at (spBad p n hs) T); clear T
    go_wp2_with fail
    refine HB.out.mono ?_
    clear HB
    rintro e w2 ⟨rfl, T⟩
    have T2 := (T.bookNew).new (#[.pointer (some ⟨w2.heap.size, 0, none⟩)]) 47
    rw [World.size_alloc] at T2
    have r9 := T2.row; have l9 := row_lt r9; have c9 := row_cell r9 0
    have HT := Lib.hid (T2.ord [0, 2, 1]).drop.drop; clear T T2
    go_wp2_with fail
    go_quiet (fail)
    go_wp2
    exact retM0 (results_tmp2 rfl _ _ _) (.inl ⟨hs, _, rfl, HT.out.drewN _⟩) rfl
  case true =>
    have hnn := sizeB_n hs
    have HB := Lib.hid (spOpenT T (by simp) n hs); clear T
    go_wp2_with fail
    refine HB.out.mono ?_
    clear HB
    rintro e w2 ⟨s0, lg0, g0, bk0, bs0, rfl, T⟩
    have hI := SpI.open hnn (D := []) (by simp) 0
    have hB : BookI [] (mK n (goT n [])) := by rw [goT_nil]; exact BookI.new n
    have hsf : openF n [] 0 ≤ (openD n []).length := openF_le (by simp)
    generalize idxF (ents (mK n (goT n []))) = I0 at *
    generalize mK n (goT n []) = m0 at *
    generalize openD n [] = D0 at *
    generalize openF n [] 0 = f0 at *
    have T : Sts w (fun _ => False) w2 (idxR s0 lg0 bk0 bs0 I0 :: rowR lg0 (ledCells p g0 m0.n) :: plR p D0 f0 :: rowsIR g0 m0 :: R) := T
    have T2 := ((T.marksNil).bookNew).new (#[.pointer (some ⟨w2.heap.size, 0, none⟩)]) 47
    rw [World.size_alloc] at T2
    have T3 := T2.ord [3, 4, 5, 6, 0, 1, 2]
    have HT := Lib.hid T3; have HI := Lib.hid hI; have HBI := Lib.hid hB; have HSF := Lib.hid hsf
    clear T T2 T3 hI hB hsf
    go_wp2_with fail
    generalize w2.heap.size + 1 = g9 at *
    generalize w2.heap.size = b0 at *
    refine wp_loop_ghost_k (fun k a wr => ∃ (j : Nat) (Ds : List Nat) (s lg g bk bs : Nat) (I : Idx) (D : List UInt8) (safe : Nat) (m : RowsM) (b : Nat) (B : List Ent) (u11 u12 u13 u28 u29 u30 u31 u32 u33 u34 u35 u36 u37 u38 u39 u40 u41 u42 u43 u44 u45 u46 u47 u48 u49 u50 u51 u52 u53 u54 u55 u56 u57 u58 u59 u60 u61 u62 u63 u64 u65 u66 u67 u68 u69 u70 u71 u72 u73 u74 u75 u76 u77 : Value), a = { tmps := List.toArray ((Value.int .i64 n) :: (Value.slice A l.length c) :: undef :: undef :: (Value.pointer none) :: (Value.pointer none) :: (Value.pointer (some ⟨p, 0, none⟩)) :: (Value.pointer (some ⟨s, 0, none⟩)) :: (Value.int .i64 0) :: (Value.pointer (some ⟨g9, 0, none⟩)) :: undef :: u11 :: u12 :: u13 :: (Value.pointer (some ⟨p, 0, none⟩)) :: (Value.tuple #[.pointer (some ⟨s0, 0, none⟩), .int .i64 0]) :: (Value.pointer (some ⟨p, 0, none⟩)) :: (Value.int .i64 n) :: (Value.tuple #[.pointer (some ⟨s0, 0, none⟩), .int .i64 0]) :: (Value.pointer (some ⟨s0, 0, none⟩)) :: (Value.int .i64 0) :: (Value.agg #[.slice none 0 0, .slice none 0 0]) :: (Value.pointer (some ⟨b0, 0, none⟩)) :: (Value.int .i64 0) :: (Value.bool false) :: undef :: (Value.slice A l.length c) :: (Value.int .i64 l.length) :: u28 :: u29 :: u30 :: u31 :: u32 :: u33 :: u34 :: u35 :: u36 :: u37 :: u38 :: u39 :: u40 :: u41 :: u42 :: u43 :: u44 :: u45 :: u46 :: u47 :: u48 :: u49 :: u50 :: u51 :: u52 :: u53 :: u54 :: u55 :: u56 :: u57 :: u58 :: u59 :: u60 :: u61 :: u62 :: u63 :: u64 :: u65 :: u66 :: u67 :: u68 :: u69 :: u70 :: u71 :: u72 :: u73 :: u74 :: u75 :: u76 :: u77 :: undef :: undef :: []), defers := Ds.map collD } ∧ (u28 = .int .i64 j ∧ j ≤ l.length ∧ k = l.length - j ∧ SpI n j I D m ∧ safe ≤ D.length ∧ BookI B m) ∧ Sts w (fun _ => False) wr (idxR s lg bk bs I :: rowR lg (ledCells p g m.n) :: plR p D safe :: rowsIR g m :: rowR g9 #[.pointer (some ⟨b, 0, none⟩)] :: bookR b B :: marksR Ds :: R)) l.length ?_ ?_
    · exact ⟨0, [], s0, lg0, g0, bk0, bs0, I0, D0, f0, m0, b0, [], undef, undef, undef, .int .i64 0, undef, undef, undef, undef, undef, undef, undef, undef, undef, undef, undef, undef, undef, undef, undef, undef, undef, undef, undef, undef, undef, undef, undef, undef, undef, undef, undef, undef, undef, undef, undef, undef, undef, undef, undef, undef, undef, undef, undef, undef, undef, undef, undef, undef, undef, undef, undef, undef, undef, rfl, ⟨rfl, Nat.zero_le _, rfl, HI.out, HSF.out, HBI.out⟩, HT.out⟩
    clear HT HI HBI HSF
    intro k0 a0 wr hrel
    obtain ⟨j, Ds, s, lg, g, bk, bs, I, D, safe, m, b, B, hrel⟩ := hrel
    obtain ⟨u11, hrel⟩ := hrel
    obtain ⟨u12, hrel⟩ := hrel
    obtain ⟨u13, hrel⟩ := hrel
    obtain ⟨u28, hrel⟩ := hrel
    obtain ⟨u29, hrel⟩ := hrel
    obtain ⟨u30, hrel⟩ := hrel
    obtain ⟨u31, hrel⟩ := hrel
    obtain ⟨u32, hrel⟩ := hrel
    obtain ⟨u33, hrel⟩ := hrel
    obtain ⟨u34, hrel⟩ := hrel
    obtain ⟨u35, hrel⟩ := hrel
    obtain ⟨u36, hrel⟩ := hrel
    obtain ⟨u37, hrel⟩ := hrel
    obtain ⟨u38, hrel⟩ := hrel
    obtain ⟨u39, hrel⟩ := hrel
    obtain ⟨u40, hrel⟩ := hrel
    obtain ⟨u41, hrel⟩ := hrel
    obtain ⟨u42, hrel⟩ := hrel
    obtain ⟨u43, hrel⟩ := hrel
    obtain ⟨u44, hrel⟩ := hrel
    obtain ⟨u45, hrel⟩ := hrel
    obtain ⟨u46, hrel⟩ := hrel
    obtain ⟨u47, hrel⟩ := hrel
    obtain ⟨u48, hrel⟩ := hrel
    obtain ⟨u49, hrel⟩ := hrel
    obtain ⟨u50, hrel⟩ := hrel
    obtain ⟨u51, hrel⟩ := hrel
    obtain ⟨u52, hrel⟩ := hrel
    obtain ⟨u53, hrel⟩ := hrel
    obtain ⟨u54, hrel⟩ := hrel
    obtain ⟨u55, hrel⟩ := hrel
    obtain ⟨u56, hrel⟩ := hrel
    obtain ⟨u57, hrel⟩ := hrel
    obtain ⟨u58, hrel⟩ := hrel
    obtain ⟨u59, hrel⟩ := hrel
    obtain ⟨u60, hrel⟩ := hrel
    obtain ⟨u61, hrel⟩ := hrel
    obtain ⟨u62, hrel⟩ := hrel
    obtain ⟨u63, hrel⟩ := hrel
    obtain ⟨u64, hrel⟩ := hrel
    obtain ⟨u65, hrel⟩ := hrel
    obtain ⟨u66, hrel⟩ := hrel
    obtain ⟨u67, hrel⟩ := hrel
    obtain ⟨u68, hrel⟩ := hrel
    obtain ⟨u69, hrel⟩ := hrel
    obtain ⟨u70, hrel⟩ := hrel
    obtain ⟨u71, hrel⟩ := hrel
    obtain ⟨u72, hrel⟩ := hrel
    obtain ⟨u73, hrel⟩ := hrel
    obtain ⟨u74, hrel⟩ := hrel
    obtain ⟨u75, hrel⟩ := hrel
    obtain ⟨u76, hrel⟩ := hrel
    obtain ⟨u77, hrel⟩ := hrel
    obtain ⟨ha, ⟨h28, hj, hk0, hI, hsf, hB⟩, T⟩ := hrel
    subst h28
    subst ha
    subst hk0
    intro J K0 hJ hK0
    by_cases hjl : j < l.length
    · cases A with
      | none => have := HX.out.nil rfl; subst this; simp at hjl
      | some a =>
        have hld := HX.out.load (P := Try.prog) (T := 72) TSCall_size TSCall_und rfl (by kernel_rfl) T.below rfl hjl
        have hk3 : (j : Int) < (l.length : Int) := by omega
        have hk0 : (0 : Int) ≤ (j : Int) := by omega
        have hxk := HKP.out _ (List.getElem_mem hjl)
        generalize l[j] = x at *
        have T2 := T.new (SCV x) 72
        have r0 := T2.row; have l0 := row_lt r0; have c0 := row_cell r0
        have HT := Lib.hid T2; have HI := Lib.hid hI; have HB := Lib.hid hB; have HSF := Lib.hid hsf; have HXK := Lib.hid hxk
        clear T T2 hI hB hsf hxk
        by_cases hq0 : x.kind = 0
        · have q0 : (x.kind == 0) = true := by simp [hq0]
          have hkn := spKnowD s lg p g bk bs I HI.out.idx (by have := HI.out.N; omega) D safe m HI.out.ok HI.out.good HI.out.len x.item x.inst
          have hI2 := HI.out.know (by omega) safe x.item x.inst
          have hsf2 := add_safe (m := m) x.item x.inst HSF.out
          have hB2 : (addM D safe m x.item x.inst).2.2.2 = 0 → BookI (setB B x.item x.inst) (addM D safe m x.item x.inst).2.2.1 := fun h0 => by
            rcases add_rows (D := D) (safe := safe) (m := m) x.item x.inst with ⟨_, hm⟩ | ⟨h1, _⟩
            · rw [hm]; exact HB.out.set _ (addM_good h0).1
            · exact absurd h0 h1
          have hB3 : (addM D safe m x.item x.inst).2.2.2 ≠ 0 → BookI B (addM D safe m x.item x.inst).2.2.1 := fun h0 => by
            rcases add_rows (D := D) (safe := safe) (m := m) x.item x.inst with ⟨h1, _⟩ | ⟨_, hm⟩
            · exact absurd h1 h0
            · rw [hm]; exact HB.out
          have hbl := HB.out.len HI.out.ok
          generalize knowI I D safe m x.item x.inst = I2 at *
          generalize addM D safe m x.item x.inst = q at *
          obtain ⟨D2, f2, m2, e2⟩ := q
          dsimp only at hkn hI2 hsf2 hB2 hB3
          have HKN := Lib.hid hkn; have HI2 := Lib.hid hI2; have HSF2 := Lib.hid hsf2; have HB2 := Lib.hid hB2; have HB3 := Lib.hid hB3; have HBL := Lib.hid hbl
          clear hkn hI2 hsf2 hB2 hB3 hbl HI HSF
          have T3 := HT.out.ord [1, 2, 3, 4, 0, 5, 6, 7]
          have T3 : Sts w (fun _ => False) _ (spL s lg p g bk bs I D safe m ++ (rowR wr.heap.size (SCV x) :: rowR g9 #[.pointer (some ⟨b, 0, none⟩)] :: bookR b B :: marksR Ds :: R)) := T3
          have HT3 := Lib.hid T3; clear T3 HT
          go_wp2_with fail
          refine (Does.at HKN.out HT3.out).mono ?_
          clear HKN HT3 hld r0 l0 c0
          rintro e w5 ⟨rfl, T⟩
          have T : Sts w (fun _ => False) w5 (idxR s lg bk bs I2 :: rowR lg (ledCells p g m2.n) :: plR p D2 f2 :: rowsIR g m2 :: rowR wr.heap.size (SCV x) :: rowR g9 #[.pointer (some ⟨b, 0, none⟩)] :: bookR b B :: marksR Ds :: R) := T
          have HT := Lib.hid T; clear T
          cases he : (e2 == 0)
          case false =>
            have hT9 := (HT.out.ord [4, 0, 1, 2, 3, 5, 6, 7]).drop
            have HT9 := Lib.hid hT9; clear hT9 HT
            have hb9 := HB3.out (by simpa using he)
            have HB9 := Lib.hid hb9; clear hb9
            go_wp2
            refine Handed.intro (l.length - (j + 1)) (by omega) (hJ _ _ _ ⟨j + 1, Ds, s, lg, g, bk, bs, I2, D2, f2, m2, b, B, ?_⟩)
            iterate 53 apply Exists.intro
            exact ⟨rfl, ⟨by go_num, by omega, rfl, HI2.out, HSF2.out, HB9.out⟩, HT9.out⟩
          case true =>
            have r0 := HT.out.row4; have l0 := row_lt r0; have c0 := row_cell r0
            have r9 := (HT.out.ord [5, 0, 1, 2, 3, 4, 6, 7]).row; have l9 := row_lt r9; have c9 := row_cell r9 0
            have hst := bookSetD b B (by have := HBL.out; omega) x.item x.inst
            have HST := Lib.hid hst; clear hst
            have hT9 := HT.out.ord [6, 0, 1, 2, 3, 4, 5, 7]
            have HT9 := Lib.hid hT9; clear hT9 HT
            go_wp2_with fail
            refine (Does.at1 HST.out HT9.out).mono ?_
            clear HST HT9 r0 l0 c0 r9 l9 c9
            rintro e w6 ⟨rfl, T⟩
            have hT9 := (T.ord [5, 1, 2, 3, 4, 6, 0, 7]).drop
            have HT9 := Lib.hid hT9; clear hT9 T
            have hb9 := HB2.out (by simpa using he)
            have HB9 := Lib.hid hb9; clear hb9
            go_wp2
            refine Handed.intro (l.length - (j + 1)) (by omega) (hJ _ _ _ ⟨j + 1, Ds, s, lg, g, bk, bs, I2, D2, f2, m2, b, (setB B x.item x.inst), ?_⟩)
            iterate 53 apply Exists.intro
            exact ⟨rfl, ⟨by go_num, by omega, rfl, HI2.out, HSF2.out, HB9.out⟩, HT9.out⟩
        · have q0 : (x.kind == 0) = false := by simp [hq0]
          by_cases hq1 : x.kind = 1
          · have q1 : (x.kind == 1) = true := by simp [hq1]
            have T3 := HT.out.ord [1, 2, 3, 4, 0, 5, 6, 7]
            have T3 : Sts w (fun _ => False) _ (spL s lg p g bk bs I D safe m ++ (rowR wr.heap.size (SCV x) :: rowR g9 #[.pointer (some ⟨b, 0, none⟩)] :: bookR b B :: marksR Ds :: R)) := T3
            have HSY := Lib.hid (spSyncT T3); clear T3 HT
            go_wp2_with fail
            refine HSY.out.mono ?_
            clear HSY hld r0 l0 c0
            rintro e w5 ⟨rfl, T⟩
            have T : Sts w (fun _ => False) w5 (idxR s lg bk bs I :: rowR lg (ledCells p g m.n) :: plR p D D.length :: rowsIR g m :: rowR wr.heap.size (SCV x) :: rowR g9 #[.pointer (some ⟨b, 0, none⟩)] :: bookR b B :: marksR Ds :: R) := T
            have hT9 := (T.ord [4, 0, 1, 2, 3, 5, 6, 7]).drop
            have HT9 := Lib.hid hT9; clear hT9 T
            have hI9 := HI.out.mono (Nat.le_succ j)
            have HI9 := Lib.hid hI9; clear hI9
            go_wp2
            refine Handed.intro (l.length - (j + 1)) (by omega) (hJ _ _ _ ⟨j + 1, Ds, s, lg, g, bk, bs, I, D, D.length, m, b, B, ?_⟩)
            iterate 53 apply Exists.intro
            exact ⟨rfl, ⟨by go_num, by omega, rfl, HI9.out, Nat.le_refl _, HB.out⟩, HT9.out⟩
          · have q1 : (x.kind == 1) = false := by simp [hq1]
            by_cases hq2 : x.kind = 2
            · have q2 : (x.kind == 2) = true := by simp [hq2]
              obtain ⟨sp, hsp⟩ : ∃ sp : UInt8, x.spoil = (sp.toNat : Int) := ⟨UInt8.ofNat x.spoil.toNat, by
                have := HXK.out.2; simp only [UInt8.toNat_ofNat']; omega⟩
              have hkp1 := HXK.out.1
              unfold Fits at hkp1
              have hlo := loseT (HT.out.ord [3, 0, 1, 2, 4, 5, 6, 7]) HI.out.len x.keep hkp1 sp
              rw [← hsp] at hlo
              have HLO := Lib.hid hlo
              have hl7 : (lost D safe x.keep sp).length ≤ 65536 := Nat.le_trans (lost_le HSF.out x.keep sp) HI.out.len
              clear hlo hsp hkp1
              generalize lost D safe x.keep sp = D7 at *
              have HL7 := Lib.hid hl7; clear hl7 HI HSF HB
              go_wp2_with fail
              refine HLO.out.mono ?_
              clear HLO HT hld r0 l0 c0
              rintro e w5 ⟨rfl, T⟩
              have HOP := Lib.hid (spOpenT T HL7.out n hs); clear T
              go_wp2_with fail
              refine HOP.out.mono ?_
              clear HOP
              rintro e w6 ⟨s2, lg2, g2, bk2, bs2, rfl, T⟩
              have hI2 := SpI.open hnn HL7.out (j + 1)
              have hsf2 : openF n D7 D7.length ≤ (openD n D7).length := openF_le (Nat.le_refl _)
              clear HL7
              generalize idxF (ents (mK n (goT n D7))) = I2 at *
              generalize mK n (goT n D7) = m2 at *
              generalize openD n D7 = D2 at *
              generalize openF n D7 D7.length = f2 at *
              have HI2 := Lib.hid hI2; have HSF2 := Lib.hid hsf2; clear hI2 hsf2
              have T : Sts w (fun _ => False) w6 (idxR s2 lg2 bk2 bs2 I2 :: rowR lg2 (ledCells p g2 m2.n) :: plR p D2 f2 :: rowsIR g2 m2 :: rowR wr.heap.size (SCV x) :: idxR s lg bk bs I :: rowR lg (ledCells p g m.n) :: rowsIR g m :: rowR g9 #[.pointer (some ⟨b, 0, none⟩)] :: bookR b B :: marksR Ds :: R) := T
              have T2 := (T.ord [8, 4, 5, 6, 7, 9, 0, 1, 2, 3, 10])
              have r9 := T2.row; have l9 := row_lt r9; have f9 := row_frozen r9 0; have c9 := row_cell r9 0
              have T3 := (T2.setCell 0 (.pointer (some ⟨w6.heap.size, 0, none⟩))).bookNew
              rw [show (w6.setCell ⟨g9, 0, none⟩ (.pointer (some ⟨w6.heap.size, 0, none⟩))).heap.size = w6.heap.size by simp] at T3
              have T4 := (T3.ord [2, 3, 4, 5, 6, 0, 1, 7, 8, 9, 10, 11]).drop.drop.drop.drop.drop
              have T5 := T4.ord [2, 3, 4, 5, 1, 0, 6]
              have T6 : Sts w (fun _ => False) _ (spL s2 lg2 p g2 bk2 bs2 I2 D2 f2 m2 ++ (rowR g9 #[.pointer (some ⟨w6.heap.size, 0, none⟩)] :: bookR w6.heap.size [] :: marksR Ds :: R)) := T5
              have HA := Lib.hid (spAllT T6)
              clear T T2 T3 T4 T5 T6
              go_wp2_with fail
              refine HA.out.mono ?_
              clear HA r9 l9 f9 c9
              rintro e w7 ⟨c7, rfl, T⟩
              have HT := Lib.hid T; clear T
              go_wp2_with fail
              have T0 : Sts w (fun _ => False) w7 ([bookR w6.heap.size ((ents m2).take 0)] ++ (iterIR c7 g2 m2 ++ rowR g9 #[.pointer (some ⟨w6.heap.size, 0, none⟩)] :: idxR s2 lg2 bk2 bs2 I2 :: rowR lg2 (ledCells p g2 m2.n) :: plR p D2 f2 :: marksR Ds :: R)) := by
                have T1 : Sts w (fun _ => False) w7 (rowR c7 #[.pointer (some ⟨g2, 0, none⟩)] :: rowsIR g2 m2 :: idxR s2 lg2 bk2 bs2 I2 :: rowR lg2 (ledCells p g2 m2.n) :: plR p D2 f2 :: rowR g9 #[.pointer (some ⟨w6.heap.size, 0, none⟩)] :: bookR w6.heap.size [] :: marksR Ds :: R) := HT.out
                have T2 := T1.ord [6, 0, 1, 5, 2, 3, 4, 7]
                exact T2
              clear HT
              generalize w6.heap.size = b6 at *
              generalize wr.heap.size = gx at *
              obtain ⟨xc, hxc⟩ : ∃ xc, xc = x := ⟨_, rfl⟩
              rw [← hxc]
              clear hxc
              have hm2 := HI2.out.ok
              refine (wpIn_wide (n := 4)).1 ?_
              refine wp_rangeSts (gf := 116) (lb := #[.pointer (some ⟨c7, 0, none⟩)]) (enc := fun x : Item × Inst => #[.agg (IV x.1), .agg (NV x.2)]) (xs := ents m2)
                (fun k => [bookR b6 ((ents m2).take k)]) (fun _ _ => [noR]) (iterIR c7 g2 m2 ++ rowR g9 #[.pointer (some ⟨b6, 0, none⟩)] :: idxR s2 lg2 bk2 bs2 I2 :: rowR lg2 (ledCells p g2 m2.n) :: plR p D2 f2 :: marksR Ds :: R)
                (fun k x a' own' => ∃ b1 b2, own' = [rowR b2 (NV x.2), rowR b1 (IV x.1), bookR b6 ((ents m2).take k)] ∧ a' = { tmps := List.toArray ((Value.int .i64 n) :: (Value.slice (some a) l.length c) :: undef :: undef :: (Value.pointer none) :: (Value.pointer none) :: (Value.pointer (some ⟨p, 0, none⟩)) :: (Value.pointer (some ⟨s2, 0, none⟩)) :: (Value.int .i64 0) :: (Value.pointer (some ⟨g9, 0, none⟩)) :: undef :: (Value.pointer (some ⟨gx, 0, none⟩)) :: (Value.pointer (some ⟨b1, 0, none⟩)) :: (Value.pointer (some ⟨b2, 0, none⟩)) :: (Value.pointer (some ⟨p, 0, none⟩)) :: (Value.tuple #[.pointer (some ⟨s0, 0, none⟩), .int .i64 0]) :: (Value.pointer (some ⟨p, 0, none⟩)) :: (Value.int .i64 n) :: (Value.tuple #[.pointer (some ⟨s0, 0, none⟩), .int .i64 0]) :: (Value.pointer (some ⟨s0, 0, none⟩)) :: (Value.int .i64 0) :: (Value.agg #[.slice none 0 0, .slice none 0 0]) :: (Value.pointer (some ⟨b0, 0, none⟩)) :: (Value.int .i64 0) :: (Value.bool false) :: undef :: (Value.slice (some a) l.length c) :: (Value.int .i64 (l.length : Int)) :: (Value.int .i64 (j : Int)) :: (Value.bool true) :: (Value.pointer (some (a.add (j * 25)))) :: (Value.agg (SCV xc)) :: (Value.pointer (some ⟨gx, 0, none⟩)) :: (Value.int .i64 2) :: (Value.bool false) :: (Value.bool false) :: u36 :: u37 :: u38 :: u39 :: u40 :: u41 :: u42 :: u43 :: u44 :: u45 :: u46 :: u47 :: u48 :: (Value.bool false) :: (Value.bool false) :: u51 :: u52 :: (Value.bool true) :: (Value.bool true) :: (Value.pointer (some ⟨p, 0, none⟩)) :: (Value.pointer (some ⟨gx, 23, none⟩)) :: (Value.int .i64 xc.keep) :: (Value.pointer (some ⟨gx, 24, none⟩)) :: (Value.int .u8 xc.spoil) :: (Value.int .i64 0) :: (Value.tuple #[.pointer (some ⟨s2, 0, none⟩), .int .i64 0]) :: (Value.pointer (some ⟨p, 0, none⟩)) :: (Value.int .i64 n) :: (Value.tuple #[.pointer (some ⟨s2, 0, none⟩), .int .i64 0]) :: (Value.pointer (some ⟨s2, 0, none⟩)) :: (Value.int .i64 0) :: (Value.agg #[.slice none 0 0, .slice none 0 0]) :: (Value.pointer (some ⟨b6, 0, none⟩)) :: (Value.pointer (some ⟨s2, 0, none⟩)) :: (allF c7) :: (Value.agg (IV x.1)) :: (Value.agg (NV x.2)) :: u73 :: u74 :: u75 :: u76 :: u77 :: undef :: undef :: []), defers := [] })
                rfl (enters_of Try.func116 (by kernel_rfl) rfl) (fun _ => rfl) (Gives.part fun H hS => irAllG c7 g2 m2 hm2 _ H hS) T0 ?calm ?calmX ?assign ?body ?done ?stop
              case calm => exact fun k => calmL_cons (bookR_calm _ _ _) (calmL_nil _)
              case calmX => exact fun _ _ => calmL_cons (noR_calm _) (calmL_nil _)
              case assign =>
                intro lr k x W1 G1 K hx T1 hK
                have T2 := ((T1.new (IV x.1) 42).new (NV x.2) 39)
                rw [World.size_alloc] at T2
                have HT2 := Lib.hid T2
                clear T0 T1 T2
                gi_wp2
                exact hK _ _ _ ⟨_, _, rfl, rfl⟩ HT2.out
              case body =>
                rintro lr k x _ _ W1 G1 hx ⟨b1, b2, rfl, rfl⟩ T1 hread
                clear T0
                obtain ⟨F', w', TL⟩ := hread T1
                have TL : Sts w' F' W1 (rowR b2 (NV x.2) :: rowR b1 (IV x.1) :: bookR b6 ((ents m2).take k) :: rowR c7 #[.pointer (some ⟨g2, 0, none⟩)] :: rowsIR g2 m2 :: rowR g9 #[.pointer (some ⟨b6, 0, none⟩)] :: idxR s2 lg2 bk2 bs2 I2 :: rowR lg2 (ledCells p g2 m2.n) :: plR p D2 f2 :: marksR Ds :: R) := TL
                have rb := (TL.ord [5, 0, 1, 2, 3, 4]).row
                have lb := row_lt rb
                have cb : W1.cell? ⟨g9, 0, none⟩ = some (.pointer (some ⟨b6, 0, none⟩)) := row_cell rb 0
                have r1 := T1.row; have r2 := T1.row1; have l1 := row_lt r1; have l2 := row_lt r2
                have hnx := setB_ents hm2 hx
                have hlen : ((ents m2).take k).length ≤ 1000000 := by
                  have h2 := ents_len hm2
                  have h3 : ((ents m2).take k).length ≤ (ents m2).length := List.length_take_le' _ _
                  omega
                have hset := bookSetD b6 ((ents m2).take k) hlen x.1 x.2
                rw [hnx] at hset
                have HSET := Lib.hid hset; have HT := Lib.hid T1
                clear hset hnx hlen TL hread T1 rb
                gi_wp2_with fail
                refine ⟨trivial, ?_⟩
                refine (CallsIn.inRound lr (callsIn_wide.2 (Does.at (R := [rowR b2 (NV x.2), rowR b1 (IV x.1)]) HSET.out (HT.out.ord [2, 0, 1])))).mono ?_
                rintro e w2 ⟨rfl, T⟩
                have T6 := (T.ord [1, 2, 0]).drop.drop
                have H6 := Lib.hid T6; clear T T6 HT HSET cb r1 r2
                gi_wp2
                exact H6.out
              case done =>
                intro D1 W1 T1
                clear T0
                rw [List.take_length] at T1
                have T1 : Sts w (fun _ => False) W1 (objR D1 (.deferred (some [])) :: bookR b6 (ents m2) :: rowR c7 #[.pointer (some ⟨g2, 0, none⟩)] :: rowsIR g2 m2 :: rowR g9 #[.pointer (some ⟨b6, 0, none⟩)] :: idxR s2 lg2 bk2 bs2 I2 :: rowR lg2 (ledCells p g2 m2.n) :: plR p D2 f2 :: marksR Ds :: R) := T1
                have T2 := (T1.ord [2, 0, 8, 5, 6, 7, 3, 4, 1]).drop
                have T3 := T2.marksCons
                have T4 := T3.ord [1, 2, 3, 4, 5, 6, 0]
                have HT := Lib.hid T4; clear T1 T2 T3 T4
                have hb9 := BookI.ents hm2
                have HB9 := Lib.hid hb9; clear hb9
                go_wp2
                refine Handed.intro (l.length - (j + 1)) (by omega) (hJ _ _ _ ⟨j + 1, (D1 :: Ds), s2, lg2, g2, bk2, bs2, I2, D2, f2, m2, b6, (ents m2), ?_⟩)
                iterate 53 apply Exists.intro
                exact ⟨rfl, ⟨by go_num, by omega, rfl, HI2.out, HSF2.out, HB9.out⟩, HT.out⟩
              case stop =>
                intro D1 c1 k W1 _ _ T1
                exact (Sts.no T1.drop).elim
            · have q2 : (x.kind == 2) = false := by simp [hq2]
              have HT9 := Lib.hid HT.out.drop
              have hI9 := HI.out.mono (Nat.le_succ j)
              have HI9 := Lib.hid hI9; clear hI9
              clear HT
              go_wp2
              refine Handed.intro (l.length - (j + 1)) (by omega) (hJ _ _ _ ⟨j + 1, Ds, s, lg, g, bk, bs, I, D, safe, m, b, B, ?_⟩)
              iterate 53 apply Exists.intro
              exact ⟨rfl, ⟨by go_num, by omega, rfl, HI9.out, HSF.out, HB.out⟩, HT9.out⟩
    · obtain rfl : j = l.length := by omega
      clear hJ hK0
      have HT := Lib.hid T; have HI := Lib.hid hI; have HB := Lib.hid hB; clear T hI hB hsf
      have r9 := HT.out.row4; have l9 := row_lt r9; have c9 := row_cell r9 0
      go_wp2_with fail
      go_quiet (fail)
      go_wp2
      have T9 := fun n => (HT.out.drewN n).ord [6, 4, 0, 1, 2, 3, 5]
      have h1 := HI.out; have h2 := HB.out; have h3 := hs
      refine retMs (Ds := Ds) (R := rowR g9 #[.pointer (some ⟨b, 0, none⟩)] :: idxR s lg bk bs I :: rowR lg (ledCells p g m.n) :: plR p D safe :: rowsIR g m :: bookR b B :: R) (T9 _) (fun W' TW => ⟨results_tmp2 rfl _ _ _, .inr ⟨hs, s, lg, p, g, bk, bs, I, D, safe, m, b, B, rfl, h1.mono (by omega), h2, TW.drop⟩⟩) rfl
end Go.Proofs.Ytpganpiidgkofaa
/- Layer 12: what comes in as a script. -/
namespace Go.Proofs.Ytpganpiidgkofaa
open Go.RowKit
set_option linter.unusedVariables false
theorem fitS_of {l : List SCall} (h : ∀ x ∈ l, SCallFits x) : FitS l := fun x hx => ⟨(h x hx).inst.call.deed.key, (h x hx).inst.call.deed.val⟩
theorem fitSK_of {l : List SCall} (h : ∀ x ∈ l, SCallFits x) : SFits l := fun x hx => ⟨(h x hx).keep, (h x hx).spoil⟩
theorem ses_of {d : Deed} (h : DeedFits d) : intKOk d.ses := by
  have := h.ses
  unfold Fits at this
  unfold intKOk
  omega
end Go.Proofs.Ytpganpiidgkofaa
/- SpaceWays: Way answers what the document says, of every deed, behind every row of calls. -/
namespace Go.Proofs.Ytpganpiidgkofaa
open Go.RowKit
set_option linter.unusedVariables false
set_option maxRecDepth 20000
attribute [local go_sem] row_alloc row_drew row_drewN row_ext row_setCell row_setRow size_ext setRow_alloc setRow_drew loadOf storeOf piece_lit loadVal_at storeVal_at allOne_lit buildOf buildRes_some
attribute [local go_sem high] cell_alloc frozen_alloc setCell_alloc cell_ext frozen_ext cell_setRow frozen_setRow
attribute [local go_sem ↓] TDeed_ld0 TDeed_st0 TDeed_fd0 TDeed_bd0
attribute [local go_sem] TDeed_size TDeed_one TDeed_piece TDeed_c0 TDeed_c1 TDeed_c2 TDeed_c3 TDeed_c4 TDeed_c5 TDeed_set_kind TDeed_set_key TDeed_set_val TDeed_set_ver TDeed_set_ses TDeed_set_num TDeed_ld TDeed_st TDeed_f_kind TDeed_f_key TDeed_f_val TDeed_f_ver TDeed_f_ses TDeed_f_num TDeed_bd TDeed_fl TDeed_fl_kind TDeed_fl_key TDeed_fl_val TDeed_fl_ver TDeed_fl_ses TDeed_fl_num
attribute [local go_sem high] TDeed_eql TDeed_neq
attribute [local go_sem ↓] index_deps0 load_deps0 store_deps0
attribute [local go_sem] DV_piece DV_size DV_one index_deps load_deps store_deps
attribute [local go_sem high] TDeps_eql TDeps_neq
attribute [local go_sem ↓] TCall_ld0 TCall_st0 TCall_fd0 TCall_bd0
attribute [local go_sem] TCall_size TCall_one TCall_piece TCall_c0 TCall_c1 TCall_c2 TCall_c3 TCall_c4 TCall_c5 TCall_c6 TCall_c7 TCall_c8 TCall_c9 TCall_c10 TCall_c11 TCall_c12 TCall_c13 TCall_p_deed TCall_put_deed TCall_p_deps TCall_put_deps TCall_set_seq TCall_ld TCall_st TCall_f_deed TCall_f_deps TCall_f_seq TCall_bd TCall_fl TCall_fl_deed TCall_fl_deps TCall_fl_seq
attribute [local go_sem high] TCall_eql TCall_neq
attribute [local go_sem ↓] TItem_ld0 TItem_st0 TItem_fd0 TItem_bd0
attribute [local go_sem] TItem_size TItem_one TItem_piece TItem_c0 TItem_c1 TItem_set_rep TItem_set_num TItem_ld TItem_st TItem_f_rep TItem_f_num TItem_bd TItem_fl TItem_fl_rep TItem_fl_num
attribute [local go_sem high] TItem_eql TItem_neq
attribute [local go_sem ↓] TBallot_ld0 TBallot_st0 TBallot_fd0 TBallot_bd0
attribute [local go_sem] TBallot_size TBallot_one TBallot_piece TBallot_c0 TBallot_c1 TBallot_set_round TBallot_set_rep TBallot_ld TBallot_st TBallot_f_round TBallot_f_rep TBallot_bd TBallot_fl TBallot_fl_round TBallot_fl_rep
attribute [local go_sem high] TBallot_eql TBallot_neq
attribute [local go_sem ↓] TInst_ld0 TInst_st0 TInst_fd0 TInst_bd0
attribute [local go_sem] TInst_size TInst_one TInst_piece TInst_c0 TInst_c1 TInst_c2 TInst_c3 TInst_c4 TInst_c5 TInst_c6 TInst_c7 TInst_c8 TInst_c9 TInst_c10 TInst_c11 TInst_c12 TInst_c13 TInst_c14 TInst_c15 TInst_c16 TInst_c17 TInst_c18 TInst_c19 TInst_p_prom TInst_put_prom TInst_p_vote TInst_put_vote TInst_set_status TInst_p_call TInst_put_call TInst_set_same TInst_ld TInst_st TInst_f_prom TInst_f_vote TInst_f_status TInst_f_call TInst_f_same TInst_bd TInst_fl TInst_fl_prom TInst_fl_vote TInst_fl_status TInst_fl_call TInst_fl_same
attribute [local go_sem high] TInst_eql TInst_neq
attribute [local go_sem ↓] TSCall_ld0 TSCall_st0 TSCall_fd0 TSCall_bd0
attribute [local go_sem] TSCall_size TSCall_one TSCall_piece TSCall_c0 TSCall_c1 TSCall_c2 TSCall_c3 TSCall_c4 TSCall_c5 TSCall_c6 TSCall_c7 TSCall_c8 TSCall_c9 TSCall_c10 TSCall_c11 TSCall_c12 TSCall_c13 TSCall_c14 TSCall_c15 TSCall_c16 TSCall_c17 TSCall_c18 TSCall_c19 TSCall_c20 TSCall_c21 TSCall_c22 TSCall_c23 TSCall_c24 TSCall_set_kind TSCall_p_item TSCall_put_item TSCall_p_inst TSCall_put_inst TSCall_set_keep TSCall_set_spoil TSCall_ld TSCall_st TSCall_f_kind TSCall_f_item TSCall_f_inst TSCall_f_keep TSCall_f_spoil TSCall_bd TSCall_fl TSCall_fl_kind TSCall_fl_item TSCall_fl_inst TSCall_fl_keep TSCall_fl_spoil
attribute [local go_sem high] TSCall_eql TSCall_neq
def overEd (d : Deed) : Bool := decide ((200 : Int) < (d.key.size : Int) + (d.val.size : Int))
theorem great_60 {l : List SCall} (h : greatS l = false) : l.length ≤ 60 := by
  unfold greatS at h
  rw [Bool.or_eq_false_iff] at h
  have := h.2
  rw [decide_eq_false_iff_not] at this
  omega
set_option maxHeartbeats 8000000 in
theorem law_ways (n : Int) (A : Option Addr) (c : Nat) (l : List SCall) (d : Deed) (but : Item) (W : World) (hl : RowsIn W A 25 SCV l) (hf : FitS l) (hkp : SFits l) (hdk : d.key.size ≤ 140737488351232) (hdv : d.val.size ≤ 140737488351232) (hds : intKOk d.ses) :
    Calls Try.prog 10 #[.int .i64 n, .slice A l.length c, .agg (EV d), .agg (IV but)] W fun e W' => e = .returned (.bool true) ∧ Below W.heap.size W W' := by
  have HT9 := alive12
  have hlen := hl.len
  go_enter Try.func10, Try.ntmps10
  have T := ((Sts.start0 W).new (EV d) 33).new (IV but) 42
  rw [World.size_alloc] at T
  have HT := Lib.hid T; clear T
  go_wp2_with fail
  refine (HT9 _).mono ?_
  rintro e w1 ⟨rfl, hb⟩
  have T := HT.out.pure hb
  clear hb HT9 HT
  generalize hg6 : W.heap.size = g6 at *
  have HT := Lib.hid T; clear T
  go_wp2_with fail
  refine (great12 A c l W w1 _ hl hf HT.out).mono ?_
  clear HT
  rintro e w2 ⟨rfl, T⟩
  have HT := Lib.hid T; clear T
  have r6 := HT.out.row1; have l6 := row_lt r6; have c6 := row_cell r6
  have hlk : (d.key.size : Int) ≤ 140737488351232 := by omega
  have hlv : (d.val.size : Int) ≤ 140737488351232 := by omega
  cases hg : greatS l
  case true =>
    go_wp2
    go_ret
    exact ⟨rfl, by first | exact HT.out.below | (rw [hg6]; exact HT.out.below) | (rw [← hg6]; exact HT.out.below)⟩
  case false =>
    cases hov : overEd d
    case true =>
      have hov' : decide ((200 : Int) < (d.key.size : Int) + (d.val.size : Int)) = true := hov
      go_wp2
      go_ret
      exact ⟨rfl, by first | exact HT.out.below | (rw [hg6]; exact HT.out.below) | (rw [← hg6]; exact HT.out.below)⟩
    case false =>
      have hov' : decide ((200 : Int) < (d.key.size : Int) + (d.val.size : Int)) = false := hov
      have hpl := playT n A c l (great_60 hg) W w2 _ hl hkp HT.out
      have HPL := Lib.hid hpl; clear hpl HT
      go_wp2_with fail
      refine HPL.out.mono ?_
      clear HPL r6 l6 c6 hov' hlk hlv
      rintro e w3 (⟨hs, b, rfl, T⟩ | ⟨hs, s, lg, p, g, bk, bs, I, D, safe, m, b, B, rfl, hI, hB, T⟩)
      · have HT := Lib.hid T; clear T
        go_wp2
        go_ret
        exact ⟨rfl, by first | exact HT.out.below | (rw [hg6]; exact HT.out.below) | (rw [← hg6]; exact HT.out.below)⟩
      · have T : Sts W (fun _ => False) w3 (idxR s lg bk bs I :: rowR lg (ledCells p g m.n) :: plR p D safe :: rowsIR g m :: bookR b B :: rowR (g6 + 1) (IV but) :: rowR g6 (EV d) :: []) := T
        have r6 := (T.ord [6, 0, 1, 2, 3, 4, 5]).row; have l6 := row_lt r6
        have r7 := (T.ord [5, 0, 1, 2, 3, 4, 6]).row; have l7 := row_lt r7
        have hwy := spWay (R := [bookR b B, rowR (g6 + 1) (IV but), rowR g6 (EV d)]) hI.ok hI.good hI.idx hI.cov d but (by unfold maxLen; omega) hds T
        have HWY := Lib.hid hwy; have HI := Lib.hid hI; have HB := Lib.hid hB
        clear hwy hI hB T
        go_wp2_with fail
        refine HWY.out.mono ?_
        clear HWY r6 l6 r7 l7
        rintro e w4 ⟨rfl, T⟩
        have T : Sts W (fun _ => False) w4 (idxR s lg bk bs I :: rowR lg (ledCells p g m.n) :: plR p D safe :: rowsIR g m :: bookR b B :: rowR (g6 + 1) (IV but) :: rowR g6 (EV d) :: []) := T
        have T2 := T.new (DV (wayK m d but).out) 35
        have T3 := T2.ord [5, 0, 1, 2, 3, 4, 6, 7]
        have r6 := (T2.ord [7, 0, 1, 2, 3, 4, 5, 6]).row; have l6 := row_lt r6
        have r7 := (T2.ord [6, 0, 1, 2, 3, 4, 5, 7]).row; have l7 := row_lt r7
        have hbl := HB.out.len HI.out.ok
        have hrw := rwayR b B (by omega) (HB.out.way HI.out.ok HI.out.good) d but (by unfold maxLen; omega)
        obtain ⟨hq1, hq2⟩ := rway_K HB.out HI.out.ok HI.out.good d but
        rw [hq1, hq2] at hrw
        have HRW := Lib.hid hrw
        clear hrw hq1 hq2 T T2 HI HB hbl
        have he := eqA_refl (DV (wayK m d but).out)
        generalize wayK m d but = q at *
        have HT := Lib.hid T3; clear T3
        go_wp2_with fail
        refine (Reads.at (L := [bookR b B]) HRW.out HT.out).mono ?_
        clear HRW
        rintro e w5 ⟨rfl, hb⟩
        have T := HT.out.pure hb
        clear HT hb r6 l6 r7 l7
        have T2 := T.new (DV q.out) 35
        have r1 := T2.row; have l1 := row_lt r1; have r2 := T2.row2; have l2 := row_lt r2
        have HT := Lib.hid T2; clear T T2
        go_wp2
        go_ret
        exact ⟨rfl, by first | exact HT.out.below | (rw [hg6]; exact HT.out.below) | (rw [← hg6]; exact HT.out.below)⟩
end Go.Proofs.Ytpganpiidgkofaa
