/- Several texts in one. -/
import Derived.Test.YtpganpiidgkofaaZ40
import Derived.Test.YtpganpiidgkofaaZ41
/- LedgerLasts: wherever the power goes, what is opened knows what it did behind all up to the last Sync, or some more. -/
namespace Go.Proofs.Ytpganpiidgkofaa
open Go.RowKit
set_option linter.unusedVariables false
set_option maxRecDepth 20000
attribute [local go_sem] row_alloc row_drew row_drewN row_ext row_setCell row_setRow size_ext setRow_alloc setRow_drew loadOf storeOf piece_lit loadVal_at storeVal_at allOne_lit buildOf buildRes_some
attribute [local go_sem high] cell_alloc frozen_alloc setCell_alloc cell_ext frozen_ext cell_setRow frozen_setRow
attribute [local go_sem ↓] TDeed_ld0 TDeed_st0 TDeed_fd0 TDeed_bd0
attribute [local go_sem] TDeed_size TDeed_one TDeed_piece TDeed_c0 TDeed_c1 TDeed_c2 TDeed_c3 TDeed_c4 TDeed_c5 TDeed_set_kind TDeed_set_key TDeed_set_val TDeed_set_ver TDeed_set_ses TDeed_set_num TDeed_ld TDeed_st TDeed_f_kind TDeed_f_key TDeed_f_val TDeed_f_ver TDeed_f_ses TDeed_f_num TDeed_bd TDeed_fl TDeed_fl_kind TDeed_fl_key TDeed_fl_val TDeed_fl_ver TDeed_fl_ses TDeed_fl_num
attribute [local go_sem high] TDeed_eql TDeed_neq
attribute [local go_sem ↓] index_deps0 load_deps0 store_deps0
attribute [local go_sem] DV_piece DV_size DV_one index_deps load_deps store_deps
attribute [local go_sem high] TDeps_eql TDeps_neq
attribute [local go_sem ↓] TCall_ld0 TCall_st0 TCall_fd0 TCall_bd0
attribute [local go_sem] TCall_size TCall_one TCall_piece TCall_c0 TCall_c1 TCall_c2 TCall_c3 TCall_c4 TCall_c5 TCall_c6 TCall_c7 TCall_c8 TCall_c9 TCall_c10 TCall_c11 TCall_c12 TCall_c13 TCall_p_deed TCall_put_deed TCall_p_deps TCall_put_deps TCall_set_seq TCall_ld TCall_st TCall_f_deed TCall_f_deps TCall_f_seq TCall_bd TCall_fl TCall_fl_deed TCall_fl_deps TCall_fl_seq
attribute [local go_sem high] TCall_eql TCall_neq
attribute [local go_sem ↓] TItem_ld0 TItem_st0 TItem_fd0 TItem_bd0
attribute [local go_sem] TItem_size TItem_one TItem_piece TItem_c0 TItem_c1 TItem_set_rep TItem_set_num TItem_ld TItem_st TItem_f_rep TItem_f_num TItem_bd TItem_fl TItem_fl_rep TItem_fl_num
attribute [local go_sem high] TItem_eql TItem_neq
attribute [local go_sem ↓] TBallot_ld0 TBallot_st0 TBallot_fd0 TBallot_bd0
attribute [local go_sem] TBallot_size TBallot_one TBallot_piece TBallot_c0 TBallot_c1 TBallot_set_round TBallot_set_rep TBallot_ld TBallot_st TBallot_f_round TBallot_f_rep TBallot_bd TBallot_fl TBallot_fl_round TBallot_fl_rep
attribute [local go_sem high] TBallot_eql TBallot_neq
attribute [local go_sem ↓] TInst_ld0 TInst_st0 TInst_fd0 TInst_bd0
attribute [local go_sem] TInst_size TInst_one TInst_piece TInst_c0 TInst_c1 TInst_c2 TInst_c3 TInst_c4 TInst_c5 TInst_c6 TInst_c7 TInst_c8 TInst_c9 TInst_c10 TInst_c11 TInst_c12 TInst_c13 TInst_c14 TInst_c15 TInst_c16 TInst_c17 TInst_c18 TInst_c19 TInst_p_prom TInst_put_prom TInst_p_vote TInst_put_vote TInst_set_status TInst_p_call TInst_put_call TInst_set_same TInst_ld TInst_st TInst_f_prom TInst_f_vote TInst_f_status TInst_f_call TInst_f_same TInst_bd TInst_fl TInst_fl_prom TInst_fl_vote TInst_fl_status TInst_fl_call TInst_fl_same
attribute [local go_sem high] TInst_eql TInst_neq
attribute [local go_sem ↓] TLCall_ld0 TLCall_st0 TLCall_fd0 TLCall_bd0
attribute [local go_sem] TLCall_size TLCall_one TLCall_piece TLCall_c0 TLCall_c1 TLCall_c2 TLCall_c3 TLCall_c4 TLCall_c5 TLCall_c6 TLCall_c7 TLCall_c8 TLCall_c9 TLCall_c10 TLCall_c11 TLCall_c12 TLCall_c13 TLCall_c14 TLCall_c15 TLCall_c16 TLCall_c17 TLCall_c18 TLCall_c19 TLCall_c20 TLCall_c21 TLCall_c22 TLCall_c23 TLCall_c24 TLCall_set_kind TLCall_p_item TLCall_put_item TLCall_p_inst TLCall_put_inst TLCall_set_keep TLCall_set_spoil TLCall_ld TLCall_st TLCall_f_kind TLCall_f_item TLCall_f_inst TLCall_f_keep TLCall_f_spoil TLCall_bd TLCall_fl TLCall_fl_kind TLCall_fl_item TLCall_fl_inst TLCall_fl_keep TLCall_fl_spoil
attribute [local go_sem high] TLCall_eql TLCall_neq
abbrev Bk := Nat × List Ent
def pvB (q : Bk) : Value := .pointer (some ⟨q.1, 0, none⟩)
def bkR (q : Bk) : Res := bookR q.1 q.2
def knewL (v : Value) (ks : List Bk) : List Res := [cutR v (ks.map pvB), packR (ks.map bkR)]
theorem pbook_i : ∃ i, Try.prog.info? 47 = some i ∧ i.zero = some (.pointer none) ∧ i.size = 1 ∧ i.bytes = 8 := by
  have h : (Try.prog.info? 47).map (fun i => (i.zero, i.size, i.bytes)) = some (some (.pointer none), 1, 8) := by kernel_rfl
  cases hi : Try.prog.info? 47 with
  | none => rw [hi] at h; simp at h
  | some i => rw [hi] at h; simp at h; exact ⟨i, rfl, h.1, h.2.1, h.2.2⟩
section
variable {w W : World} {F : Nat → Prop} {R : List Res}
theorem two_books {ks : List Bk} {q : Bk} {j b : Nat} {N : List Ent} (T : Sts w F W (packR (ks.map bkR) :: bookR b N :: R)) (h : ks[j]? = some q) : ∃ O, Sts w F W ([bookR q.1 q.2, bookR b N] ++ O) := by
  have T := T.unpack
  obtain ⟨hj, hq⟩ := List.getElem?_eq_some_iff.1 h
  have e : ks = ks.take j ++ q :: ks.drop (j + 1) := by
    rw [← hq, List.getElem_cons_drop, List.take_append_drop]
  rw [e, List.map_append, List.map_cons] at T
  have p1 : ((ks.take j).map bkR ++ bkR q :: (ks.drop (j + 1)).map bkR ++ bookR b N :: R).Perm (bkR q :: bookR b N :: (((ks.take j).map bkR ++ (ks.drop (j + 1)).map bkR) ++ R)) := by
    refine (List.Perm.append_right _ List.perm_middle).trans ?_
    rw [List.cons_append]
    exact List.Perm.cons _ List.perm_middle
  exact ⟨_, T.perm p1⟩
theorem knew_one {b g : Nat} {L : List Ent} (T : Sts w F W (rowR g #[.pointer (some ⟨b, 0, none⟩)] :: bookR b L :: R)) : Sts w F W (knewL (.slice (some ⟨g, 0, none⟩) 1 1) [(b, L)] ++ R) := by
  have T2 := T.cut1.swap
  have T3 := Sts.pack (L := [bookR b L]) T2
  exact T3.swap
theorem books_snoc {ks : List Bk} {q : Bk} (T : Sts w F W (packR (ks.map bkR) :: bookR q.1 q.2 :: R)) : Sts w F W (packR ((ks ++ [q]).map bkR) :: R) := by
  refine Sts.pack ?_
  rw [List.map_append, List.append_assoc]
  exact T.unpack
theorem knew_snoc {v : Value} {ks : List Bk} {q : Bk} (T : Sts w F W (packR (ks.map bkR) :: bookR q.1 q.2 :: cutR v (ks.map pvB ++ [.pointer (some ⟨q.1, 0, none⟩)]) :: R)) : Sts w F W (knewL v (ks ++ [q]) ++ R) := by
  have T2 := (books_snoc T).swap
  have e : ks.map pvB ++ [.pointer (some ⟨q.1, 0, none⟩)] = (ks ++ [q]).map pvB := by rw [List.map_append]; rfl
  rw [e] at T2
  exact T2
theorem books_last {ks : List Bk} {q : Bk} (T : Sts w F W (packR ((ks ++ [q]).map bkR) :: R)) : Sts w F W (packR ([q].map bkR) :: R) := by
  have T := T.unpack
  rw [List.map_append, List.append_assoc] at T
  exact Sts.pack T.tail
end
set_option maxHeartbeats 16000000 in
theorem law_lasts (n : Int) (A : Option Addr) (c : Nat) (l : List LCall) (W : World) (hl : RowsIn W A 25 LCV l) (hf : FitL l) (hkp : ∀ x ∈ l, Fits x.keep ∧ 0 ≤ x.spoil ∧ x.spoil ≤ 255) :
    Calls Try.prog 5 #[.int .i64 n, .slice A l.length c] W fun e W' => e = .returned (.bool true) ∧ Below W.heap.size W W' := by
  have HT9 := alive9
  have hlen := hl.len
  go_enter Try.func5, Try.ntmps5
  go_wp2_with fail
  refine (HT9 W).mono ?_
  rintro e w1 ⟨rfl, hb⟩
  have T := (Sts.start0 W).pure hb
  clear hb HT9
  go_wp2_with fail
  refine (great9 A c l W w1 [] hl hf T).mono ?_
  clear T
  rintro e w2 ⟨rfl, T⟩
  cases hg : greatL l
  case true =>
    go_wp2
    go_ret
    exact ⟨rfl, T.below⟩
  case false =>
    have h60 : l.length ≤ 60 := by
      unfold greatL at hg
      rw [Bool.or_eq_false_iff] at hg
      have := hg.2
      rw [decide_eq_false_iff_not] at this
      omega
    go_wp2_with fail
    refine (newT T).mono ?_
    clear T
    rintro e w3 ⟨rfl, T⟩
    generalize w2.heap.size = p at *
    cases hs : sizeB n
    case false =>
      have HB := Lib.hid (Ans.at (openBad (p := p) n hs) T); clear T
      go_wp2_with fail
      refine HB.out.mono ?_
      rintro e w4 ⟨rfl, T⟩
      go_wp2
      go_ret
      exact ⟨rfl, T.below⟩
    case true =>
      have HB := Lib.hid (openT2 T (by simp) n hs); clear T
      go_wp2_with fail
      refine HB.out.mono ?_
      clear HB
      rintro e w4 ⟨lg, g, rfl, T⟩
      have HI := Lib.hid (show LedI n (openD n []) (openF n [] 0) ⟨n, fun _ => []⟩ [] [] from LedI.open0 hs)
      have HK := Lib.hid (KnewI.new n)
      have T : Sts W (fun _ => False) w4 (ledL lg p g (openD n []) (openF n [] 0) ⟨n, fun _ => []⟩) := T
      have T := (T.bookNew).new (#[.pointer (some ⟨w4.heap.size, 0, none⟩)]) 47
      rw [World.size_alloc] at T
      generalize openD n [] = D0 at *
      generalize openF n [] 0 = s0 at *
      generalize (⟨n, fun _ => []⟩ : RowsM) = m0 at *
      have T := knew_one T
      have HT := Lib.hid T; clear T
      have HL := Lib.hid hl; have HS := Lib.hid hs; have HKP := Lib.hid hkp; clear hl hs hg hf hkp
      go_wp2_with fail
      go_loopw [6, 8, 33] (fun s6 s8 s wr => ∃ (k : Nat) (lg g : Nat) (D : List UInt8) (safe : Nat) (m : RowsM) (r1 r2 : List Ent) (ks : List Bk), k ≤ l.length ∧ s6 = .pointer (some ⟨lg, 0, none⟩) ∧ s = .int .i64 k ∧ ks.length ≤ k + 1 ∧ LedI n D safe m r1 r2 ∧ KnewI n m r1 r2 (ks.map Prod.snd) ∧ Sts W (fun _ => False) wr (knewL s8 ks ++ ledL lg p g D safe m)) (fun _ _ s _ => l.length - (intOf s).toNat)
      case atStart => exact ⟨0, lg, g, D0, s0, m0, [], [], [(w4.heap.size, [])], Nat.zero_le _, rfl, rfl, by simp, HI.out, HK.out, HT.out⟩
      case round =>
        clear HT HI HK
        obtain ⟨k, lg, g, D, safe, m, r1, r2, ks, hk, rfl, rfl, hks, hI, hK, T⟩ := hrel
        by_cases hkl : k < l.length
        · cases A with
          | none => have := HL.out.nil rfl; subst this; simp at hkl
          | some a =>
            have hld := HL.out.load (P := Try.prog) (T := 62) TLCall_size TLCall_und rfl (by kernel_rfl) T.below rfl hkl
            have hk3 : (k : Int) < (l.length : Int) := by omega
            have hk0 : (0 : Int) ≤ (k : Int) := by omega
            have hxk := HKP.out _ (List.getElem_mem hkl)
            generalize l[k] = x at *
            have T2 := T.new (LCV x) 62
            have T2 : Sts W (fun _ => False) _ (rowR wr.heap.size (LCV x) :: cutR u8 (ks.map pvB) :: packR (ks.map bkR) :: rowR lg (ledCells p g m.n) :: plR p D safe :: rowsIR g m :: []) := T2
            have r0 := T2.row; have l0 := row_lt r0; have c0 := row_cell r0
            have HT2 := Lib.hid T2; have HI := Lib.hid hI; have HK := Lib.hid hK
            clear T T2 hI hK
            by_cases hq0 : x.kind = 0
            · have q0 : (x.kind == 0) = true := by simp [hq0]
              have hadd := addD lg p g D safe m HI.out.ok HI.out.good HI.out.len x.item x.inst
              have hak := HI.out.addK HK.out x.item x.inst
              have HADD := Lib.hid hadd; have HAK := Lib.hid hak
              clear hadd hak HI HK
              generalize addM D safe m x.item x.inst = q at *
              obtain ⟨D1, s1, m1, e1⟩ := q
              dsimp only at HADD HAK
              go_wp2_with fail
              refine (Does.at (R := [rowR wr.heap.size (LCV x), cutR u8 (ks.map pvB), packR (ks.map bkR)]) HADD.out (HT2.out.ordr [3, 4, 5, 0, 1, 2])).mono ?_
              clear HADD HT2 hld
              rintro e w5 ⟨rfl, T⟩
              have T : Sts W (fun _ => False) w5 (rowR lg (ledCells p g m1.n) :: plR p D1 s1 :: rowsIR g m1 :: rowR wr.heap.size (LCV x) :: cutR u8 (ks.map pvB) :: packR (ks.map bkR) :: []) := T
              by_cases he : e1 = 0
              · have hq : (e1 == 0) = true := by simp [he]
                rcases HAK.out with ⟨h, _⟩ | ⟨_, a1, b1, hI1, hK1⟩
                · exact absurd he h
                have HI1 := Lib.hid hI1; have HK1 := Lib.hid hK1; have HT := Lib.hid (show Sts W (fun _ => False) w5 (ledL lg p g D1 s1 m1 ++ [rowR wr.heap.size (LCV x), cutR u8 (ks.map pvB), packR (ks.map bkR)]) from T)
                clear hI1 hK1 HAK T
                go_wp2_with fail
                refine (bookT HI1.out.ok HT.out).mono ?_
                clear HT
                rintro e w6 ⟨b, rfl, T⟩
                have T : Sts W (fun _ => False) w6 (bookR b (ents m1) :: rowR lg (ledCells p g m1.n) :: plR p D1 s1 :: rowsIR g m1 :: rowR wr.heap.size (LCV x) :: cutR u8 (ks.map pvB) :: packR (ks.map bkR) :: []) := T
                have T2 := ((T.ord [4, 0, 1, 2, 3, 5, 6]).drop).new #[.pointer (some ⟨b, 0, none⟩)] 47
                have hn0 := row_cell T2.row 0
                have HN := Lib.hid hn0
                have HT := Lib.hid (T2.ord [5, 0, 1, 2, 3, 4, 6]); clear T T2 hn0
                obtain ⟨i0, hi0, hz0, hz1, hz2⟩ := pbook_i
                have hlk : (ks.map pvB).length = ks.length := List.length_map _
                go_wp2_with (at_builtin; refine wpList_append_cut rfl _ _ 60 rfl 47 i0 _ 8 Try.underlying60 hi0 hz0 hz1 hz2 rfl _ _ rfl HT.out _ 1 (.pointer (some ⟨b, 0, none⟩)) rfl HN.out rfl ?c3 ?c4 ?_)
                case c3 => unfold maxLen; omega
                case c4 => omega
                intro v9 w9 T9
                have T := (T9.ord [1, 6, 2, 0, 3, 4, 5]).drop
                have T := knew_snoc (q := (b, ents m1)) T
                have HT2 := Lib.hid T; clear T T9 HT HN
                go_wp2
                go_roundw
                case rel => exact ⟨k + 1, lg, g, D1, s1, m1, a1, b1, ks ++ [(b, ents m1)], by omega, rfl, by go_num, by rw [List.length_append]; simp; omega, HI1.out, by rw [List.map_append]; exact HK1.out, HT2.out⟩
                case measure => simp [intOf]; omega
              · have hq : (e1 == 0) = false := by simp [he]
                rcases HAK.out with ⟨_, a1, b1, hI1, hK1⟩ | ⟨h, _⟩
                case inr => exact absurd h he
                have T0 := T.ord [3, 4, 5, 0, 1, 2]
                have T0 : Sts W (fun _ => False) w5 (knewL u8 ks ++ ledL lg p g D1 s1 m1) := T0.drop
                have HI1 := Lib.hid hI1; have HK1 := Lib.hid hK1; have HT := Lib.hid T0
                clear hI1 hK1 HAK T T0
                go_wp2
                go_roundw
                case rel => exact ⟨k + 1, lg, g, D1, s1, m1, a1, b1, ks, by omega, rfl, by go_num, by omega, HI1.out, HK1.out, HT.out⟩
                case measure => simp [intOf]; omega
            · have q0 : (x.kind == 0) = false := by simp [hq0]
              by_cases hq1 : x.kind = 1
              · have q1 : (x.kind == 1) = true := by simp [hq1]
                obtain ⟨lk, qk, hqk, -⟩ := HK.out.last
                obtain ⟨ki, kq, hks2, -⟩ : ∃ (ki : List Bk) (kq : Bk), ks = ki ++ [kq] ∧ kq = kq := by
                  have hne : ks ≠ [] := by intro h; subst h; simp at hqk
                  exact ⟨ks.dropLast, ks.getLast hne, (List.dropLast_concat_getLast hne).symm, rfl⟩
                subst hks2
                clear hqk
                have HK2 := Lib.hid (KnewI.sync HI.out (by have := HK.out; rw [List.map_append] at this; exact this))
                have HI2 := Lib.hid HI.out.sync
                have hsy := ledSyncT (R := [rowR wr.heap.size (LCV x), cutR u8 ((ki ++ [kq]).map pvB), packR ((ki ++ [kq]).map bkR)]) (HT2.out.ordr [3, 4, 5, 0, 1, 2])
                have HSY := Lib.hid hsy; clear hsy
                go_wp2_with fail
                refine HSY.out.mono ?_
                clear HSY HT2 hld HI HK
                rintro e w5 ⟨rfl, T⟩
                have T : Sts W (fun _ => False) w5 (rowR lg (ledCells p g m.n) :: plR p D D.length :: rowsIR g m :: rowR wr.heap.size (LCV x) :: cutR u8 ((ki ++ [kq]).map pvB) :: packR ((ki ++ [kq]).map bkR) :: []) := T
                have T := T.ord [3, 4, 5, 0, 1, 2]
                have T := T.drop
                obtain ⟨gk, ok, ck, hv8, hle8, -⟩ := T.cutCell
                subst hv8
                rw [List.map_append] at T hle8
                have hcl := T.cutLast
                rw [List.length_append, List.length_map] at hle8
                have T := hcl.2
                rw [List.length_map] at T
                have T := books_last T.swap
                have T : Sts W (fun _ => False) w5 (knewL (.slice (some ⟨gk, ok + ki.length, none⟩) 1 (ck - ki.length)) [kq] ++ ledL lg p g D D.length m) := T.swap
                have hlen9 : ((ki ++ [kq]).map pvB).length = ki.length + 1 := by simp
                rw [hlen9]
                have hks3 : ki.length ≤ 61 := by rw [List.length_append] at hks; simp at hks; omega
                have hw : IntKind.i64.wrap (((ki.length + 1 : Nat) : Int) - 1) = (ki.length : Int) := by rw [IntKind.wrap_i64]; omega
                have HT := Lib.hid T; clear T hcl
                simp at hle8
                go_wp2
                go_roundw
                case rel => exact ⟨k + 1, lg, g, D, D.length, m, r1 ++ r2, [], [kq], by omega, rfl, by go_num, by simp, HI2.out, HK2.out, HT.out⟩
                case measure => simp [intOf]; omega
              · have q1 : (x.kind == 1) = false := by simp [hq1]
                by_cases hq2 : x.kind = 2
                · have q2 : (x.kind == 2) = true := by simp [hq2]
                  obtain ⟨sp, hsp⟩ : ∃ sp : UInt8, x.spoil = (sp.toNat : Int) := ⟨UInt8.ofNat x.spoil.toNat, by
                    have := hxk.2; simp only [UInt8.toNat_ofNat']; omega⟩
                  have hkp1 := hxk.1
                  unfold Fits at hkp1
                  have hlo := loseT (HT2.out.ord [4, 0, 1, 2, 3, 5]) HI.out.len x.keep hkp1 sp
                  rw [← hsp] at hlo
                  have HLO := Lib.hid hlo
                  have HZ := Lib.hid (HI.out.loseK HK.out x.keep sp)
                  have hl7 : (lost D safe x.keep sp).length ≤ 65536 := Nat.le_trans (lost_le HI.out.safe_le x.keep sp) HI.out.len
                  clear hlo hsp
                  generalize lost D safe x.keep sp = D7 at *
                  go_wp2_with fail
                  refine HLO.out.mono ?_
                  clear HLO HT2 hld
                  rintro e w5 ⟨rfl, T⟩
                  have HB := Lib.hid (openT2 T hl7 n HS.out); clear T hl7
                  go_wp2_with fail
                  refine HB.out.mono ?_
                  clear HB
                  rintro e w6 ⟨lg2, g2, rfl, T⟩
                  obtain ⟨a2, hI2, hK2, hany⟩ := HZ.out
                  have HLEN := Lib.hid HK.out.len
                  clear HZ HI HK
                  generalize openD n D7 = D8 at *
                  generalize openF n D7 D7.length = s8 at *
                  generalize mK n (goT n D7) = m8 at *
                  have HI2 := Lib.hid hI2; have HK2 := Lib.hid hK2; have HANY := Lib.hid hany
                  have HB := Lib.hid (bookT hI2.ok T); clear T hI2 hK2 hany
                  go_wp2_with fail
                  refine HB.out.mono ?_
                  clear HB
                  rintro e w7 ⟨b, rfl, T⟩
                  have T : Sts W (fun _ => False) w7 (bookR b (ents m8) :: rowR lg2 (ledCells p g2 m8.n) :: plR p D8 s8 :: rowsIR g2 m8 :: rowR wr.heap.size (LCV x) :: cutR u8 (ks.map pvB) :: packR (ks.map bkR) :: rowR lg (ledCells p g m.n) :: rowsIR g m :: []) := T
                  have T := T.ord [4, 7, 8, 6, 0, 5, 1, 2, 3]
                  have T := T.drop.drop.drop
                  obtain ⟨gk, ok, ck, hv8, hle8, -⟩ := T.rot2.cutCell
                  subst hv8
                  have hlm : (ks.map pvB).length = ks.length := List.length_map _
                  rw [hlm] at T hle8
                  rw [hlm]
                  have HT := Lib.hid T; clear T hlm hq0 hq1 hq2 hxk hkp1
                  go_wp2_with fail
                  clear q0 q1 q2
                  go_loopw [12, 82] (fun f s wr => ∃ j : Nat, j ≤ ks.length ∧ s = .int .i64 j ∧ f = .bool ((ks.take j).any (fun q => sameB q.2 (ents m8))) ∧ Sts W (fun _ => False) wr (packR (ks.map bkR) :: bookR b (ents m8) :: cutR (.slice (some ⟨gk, ok, none⟩) ks.length ck) (ks.map pvB) :: rowR lg2 (ledCells p g2 m8.n) :: plR p D8 s8 :: rowsIR g2 m8 :: [])) (fun _ s _ => ks.length - (intOf s).toNat)
                  case atStart => exact ⟨0, Nat.zero_le _, rfl, rfl, HT.out⟩
                  case round =>
                    clear HT
                    obtain ⟨j, hj, rfl, rfl, T⟩ := hrel
                    by_cases hjl : j < ks.length
                    · have hq : ks[j]? = some ks[j] := List.getElem?_eq_getElem hjl
                      have hqp : (ks.map pvB)[j]? = some (pvB ks[j]) := by rw [List.getElem?_map, hq]; rfl
                      obtain ⟨g9, o9, c9, hv, _, hcell⟩ := T.rot2.cutCell
                      injection hv with hv hvn hv2
                      injection hv with hv
                      injection hv with hv0 hv1 hv3
                      clear hvn hv3
                      subst hv0 hv1 hv2
                      have hc := hcell j _ hqp
                      unfold pvB at hc
                      clear hcell hqp
                      obtain ⟨O, TO⟩ := two_books T hq
                      have hl1 := HLEN.out ks[j].2 (List.mem_map.2 ⟨_, List.getElem_mem hjl, rfl⟩)
                      have hl2 := ents_len HI2.out.ok
                      have hsr := Reads.at (L := [bookR ks[j].1 ks[j].2, bookR b (ents m8)]) (sameR ks[j].1 b ks[j].2 (ents m8) (by omega) (by omega)) TO
                      have HSR := Lib.hid hsr
                      have HAT := Lib.hid (any_take (fun q : Bk => sameB q.2 (ents m8)) hjl)
                      clear hsr TO hq hl1 hl2
                      have hj3 : (j : Int) < (ks.length : Int) := by omega
                      have hj0 : (0 : Int) ≤ (j : Int) := by omega
                      have HT := Lib.hid T; clear T
                      generalize ks[j] = q at *
                      generalize (ks.take j).any (fun q => sameB q.2 (ents m8)) = fd at *
                      cases fd
                      case true =>
                        go_wp2
                        go_roundw
                        case rel => exact ⟨j + 1, by omega, by go_num, by rw [HAT.out]; rfl, HT.out⟩
                        case measure => simp [intOf]; omega
                      case false =>
                        go_wp2_with fail
                        refine HSR.out.mono ?_
                        clear HSR
                        rintro e w8 ⟨rfl, hb⟩
                        have T := HT.out.pure hb
                        have HT2 := Lib.hid T; clear T HT hb
                        go_wp2
                        go_roundw
                        case rel => exact ⟨j + 1, by omega, by go_num, by rw [HAT.out]; rfl, HT2.out⟩
                        case measure => simp [intOf]; omega
                    · obtain rfl : j = ks.length := by omega
                      rw [List.take_length]
                      have hany := HANY.out
                      rw [List.any_map] at hany
                      have hany : ks.any (fun q => sameB q.2 (ents m8)) = true := hany
                      rw [hany]
                      have T2 := ((T.ord [0, 2, 1, 3, 4, 5]).drop.drop).new #[.pointer (some ⟨b, 0, none⟩)] 47
                      have T3 := knew_one T2
                      have HT3 := Lib.hid T3; clear T T2 T3 hany HANY
                      go_wp2
                      go_roundw
                      case rel => exact ⟨k + 1, lg2, g2, D8, s8, m8, a2, [], [(b, ents m8)], by omega, rfl, by go_num, by simp, HI2.out, HK2.out, HT3.out⟩
                      case measure => simp [intOf]; omega
                · have q2 : (x.kind == 2) = false := by simp [hq2]
                  have T0 := HT2.out.drop
                  have T0 := T0.ord [0, 1, 2, 3, 4]
                  have HT := Lib.hid T0
                  clear HT2 T0
                  go_wp2
                  go_roundw
                  case rel => exact ⟨k + 1, lg, g, D, safe, m, r1, r2, ks, by omega, rfl, by go_num, by omega, HI.out, HK.out, HT.out⟩
                  case measure => simp [intOf]; omega
        · obtain rfl : k = l.length := by omega
          have HT := Lib.hid T.below; clear T
          go_wp2
          go_ret
          exact ⟨rfl, HT.out⟩
end Go.Proofs.Ytpganpiidgkofaa
