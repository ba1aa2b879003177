/- Several texts in one. -/
import Derived.Test.YtpganpiidgkofaaZ44
import Derived.Test.YtpganpiidgkofaaZ39
/- LedgerReads: of a plate with any bytes the records are known up to the first place where none stands that can be. -/
namespace Go.Proofs.Ytpganpiidgkofaa
open Go.RowKit
set_option linter.unusedVariables false
set_option maxRecDepth 20000
attribute [local go_sem] row_alloc row_drew row_drewN row_ext row_setCell row_setRow size_ext setRow_alloc setRow_drew loadOf storeOf piece_lit loadVal_at storeVal_at allOne_lit buildOf buildRes_some
attribute [local go_sem high] cell_alloc frozen_alloc setCell_alloc cell_ext frozen_ext cell_setRow frozen_setRow
attribute [local go_sem ↓] TDeed_ld0 TDeed_st0 TDeed_fd0 TDeed_bd0
attribute [local go_sem] TDeed_size TDeed_one TDeed_piece TDeed_c0 TDeed_c1 TDeed_c2 TDeed_c3 TDeed_c4 TDeed_c5 TDeed_set_kind TDeed_set_key TDeed_set_val TDeed_set_ver TDeed_set_ses TDeed_set_num TDeed_ld TDeed_st TDeed_f_kind TDeed_f_key TDeed_f_val TDeed_f_ver TDeed_f_ses TDeed_f_num TDeed_bd TDeed_fl TDeed_fl_kind TDeed_fl_key TDeed_fl_val TDeed_fl_ver TDeed_fl_ses TDeed_fl_num
attribute [local go_sem high] TDeed_eql TDeed_neq
attribute [local go_sem ↓] index_deps0 load_deps0 store_deps0
attribute [local go_sem] DV_piece DV_size DV_one index_deps load_deps store_deps
attribute [local go_sem high] TDeps_eql TDeps_neq
attribute [local go_sem ↓] TCall_ld0 TCall_st0 TCall_fd0 TCall_bd0
attribute [local go_sem] TCall_size TCall_one TCall_piece TCall_c0 TCall_c1 TCall_c2 TCall_c3 TCall_c4 TCall_c5 TCall_c6 TCall_c7 TCall_c8 TCall_c9 TCall_c10 TCall_c11 TCall_c12 TCall_c13 TCall_p_deed TCall_put_deed TCall_p_deps TCall_put_deps TCall_set_seq TCall_ld TCall_st TCall_f_deed TCall_f_deps TCall_f_seq TCall_bd TCall_fl TCall_fl_deed TCall_fl_deps TCall_fl_seq
attribute [local go_sem high] TCall_eql TCall_neq
attribute [local go_sem ↓] TItem_ld0 TItem_st0 TItem_fd0 TItem_bd0
attribute [local go_sem] TItem_size TItem_one TItem_piece TItem_c0 TItem_c1 TItem_set_rep TItem_set_num TItem_ld TItem_st TItem_f_rep TItem_f_num TItem_bd TItem_fl TItem_fl_rep TItem_fl_num
attribute [local go_sem high] TItem_eql TItem_neq
attribute [local go_sem ↓] TBallot_ld0 TBallot_st0 TBallot_fd0 TBallot_bd0
attribute [local go_sem] TBallot_size TBallot_one TBallot_piece TBallot_c0 TBallot_c1 TBallot_set_round TBallot_set_rep TBallot_ld TBallot_st TBallot_f_round TBallot_f_rep TBallot_bd TBallot_fl TBallot_fl_round TBallot_fl_rep
attribute [local go_sem high] TBallot_eql TBallot_neq
attribute [local go_sem ↓] TInst_ld0 TInst_st0 TInst_fd0 TInst_bd0
attribute [local go_sem] TInst_size TInst_one TInst_piece TInst_c0 TInst_c1 TInst_c2 TInst_c3 TInst_c4 TInst_c5 TInst_c6 TInst_c7 TInst_c8 TInst_c9 TInst_c10 TInst_c11 TInst_c12 TInst_c13 TInst_c14 TInst_c15 TInst_c16 TInst_c17 TInst_c18 TInst_c19 TInst_p_prom TInst_put_prom TInst_p_vote TInst_put_vote TInst_set_status TInst_p_call TInst_put_call TInst_set_same TInst_ld TInst_st TInst_f_prom TInst_f_vote TInst_f_status TInst_f_call TInst_f_same TInst_bd TInst_fl TInst_fl_prom TInst_fl_vote TInst_fl_status TInst_fl_call TInst_fl_same
attribute [local go_sem high] TInst_eql TInst_neq
theorem loop_ne (b : ByteArray) : ∀ (k i : Nat) (r : List UInt8), b.size - i = k → (ByteArray.toList.loop b i r).length = k + r.length
  | 0, i, r, h => by
    unfold ByteArray.toList.loop
    rw [if_neg (by omega)]; simp
  | k + 1, i, r, h => by
    unfold ByteArray.toList.loop
    rw [if_pos (by omega), loop_ne b k (i + 1) _ (by omega)]
    simp; omega
theorem toList_len (b : ByteArray) : b.toList.length = b.size := by
  unfold ByteArray.toList
  rw [loop_ne b b.size 0 [] (by omega)]; simp
set_option maxHeartbeats 16000000 in
theorem law_reads2 (n : Int) (A B : Option Addr) (c d : Nat) (E : List Ent) (more : ByteArray) (W : World) (hx : RowsIn W A 2 KV E) (hi : RowsIn W B 20 WV E) (hE : ∀ e ∈ E, EntF e) (h30 : E.length ≤ 30) (h200 : more.size ≤ 200) :
    Calls Try.prog 4 #[.int .i64 n, .slice A E.length c, .slice B E.length d, .string more] W fun e W' => e = .returned (.bool true) ∧ Below W.heap.size W W' := by
  have HT9 := alive9
  have hn1 : ((E.length : Int) != (E.length : Int)) = false := by simp
  have hn2 : decide ((30 : Int) < (E.length : Int)) = false := by rw [decide_eq_false_iff_not]; omega
  have hn3 : decide ((200 : Int) < (more.size : Int)) = false := by rw [decide_eq_false_iff_not]; omega
  have HX := Lib.hid hx; have HI := Lib.hid hi; have HE := Lib.hid hE; clear hx hi hE
  go_enter Try.func4, Try.ntmps4
  go_wp2_with fail
  refine (HT9 W).mono ?_
  rintro e w1 ⟨rfl, hb⟩
  have T := (Sts.start0 W).pure hb
  clear hb HT9
  have T := T.bookNew
  have HT := Lib.hid T; clear T
  go_wp2_with fail
  generalize hw2 : w1.alloc _ = w2 at *
  generalize w1.heap.size = bm at *
  clear hn2
  have T0 : Sts W (fun _ => False) w2 [bookR bm (foldB [])] := hw2 ▸ HT.out
  have HT0 := Lib.hid T0
  clear HT hw2 T0
  go_loopw [9, 11, 12, 45] (fun sb sg sf s wr => ∃ (k : Nat) (b : ByteArray) (G : List Ent) (good : Bool) (fin : Nat), k ≤ E.length ∧ s = .int .i64 k ∧ sb = .string b ∧ sg = .bool good ∧ sf = .int .i64 fin ∧ MadeB n E k b G good fin ∧ Sts W (fun _ => False) wr [bookR bm (foldB G)]) (fun _ _ _ s _ => E.length - (intOf s).toNat)
  case atStart => exact ⟨0, ⟨#[]⟩, [], true, 0, Nat.zero_le _, rfl, rfl, rfl, rfl, ⟨rfl, rfl, rfl, rfl, fun e h => by simp at h⟩, HT0.out⟩
  case round =>
    clear HT0
    obtain ⟨k, b, G, good, fin, hk, rfl, rfl, rfl, rfl, hM, T⟩ := hrel
    by_cases hkl : k < E.length
    · cases hA : A with
      | none => have := HX.out.nil hA; subst this; simp at hkl
      | some a =>
        cases hB : B with
        | none => have := HI.out.nil hB; subst this; simp at hkl
        | some q =>
          have hldk := HX.out.load (P := Try.prog) (T := 42) KV_size TItem_und rfl (by kernel_rfl) T.below hA hkl
          have hqk : ∃ qb qo qs, q.add (k * 20) = ⟨qb, qo, qs⟩ := ⟨_, _, _, rfl⟩
          obtain ⟨qb, qo, qs, hq⟩ := hqk
          have f1 : ∀ W', Below W.heap.size W W' → W'.cell? ((q.add (k * 20)).add 6) = some (.string E[k].2.call.deed.key) := fun W' hb => HI.out.oneAt hb hB hkl 6 _ rfl
          have f2 : ∀ W', Below W.heap.size W W' → W'.cell? ((q.add (k * 20)).add 7) = some (.string E[k].2.call.deed.val) := fun W' hb => HI.out.oneAt hb hB hkl 7 _ rfl
          have f3 : ∀ W', Below W.heap.size W W' → loadVal Try.prog 39 20 W' (.pointer (some (q.add (k * 20)))) = .ok (.agg (NV E[k].2)) W' := fun W' hb => HI.out.load (P := Try.prog) (T := 39) WV_size TInst_und rfl (by kernel_rfl) hb hB hkl
          have hEk := HE.out E[k] (List.getElem_mem hkl)
          have hld : loadVal Try.prog 42 2 wr (.pointer (some (a.add (k * 2)))) = .ok (.agg (IV E[k].1)) wr := hldk
          clear hldk
          generalize he : E[k] = e at *
          have F1 := Lib.hid f1; have F2 := Lib.hid f2; have F3 := Lib.hid f3; have HM := Lib.hid hM; have HEK := Lib.hid hEk
          clear f1 f2 f3 hM hEk
          have hsm : In64 ((e.2.call.deed.key.size : Int) + (e.2.call.deed.val.size : Int)) := by
            have := HEK.out.inst.call.deed.key; have := HEK.out.inst.call.deed.val
            unfold In64; omega
          have hk9 : (k : Int) < (E.length : Int) := by omega
          have hk0 : (0 : Int) ≤ (k : Int) := by omega
          have T2 := T.new (IV e.1) 42
          have HT := Lib.hid T; have HT2 := Lib.hid T2; clear T T2
          unfold In64 at hsm
          go_wp2_with fail
          clear hld
          generalize hw3 : wr.alloc _ = w3 at *
          generalize wr.heap.size = g14 at *
          have g1 := F1.out w3 HT2.out.below
          have g2 := F2.out w3 HT2.out.below
          rw [hq] at g1 g2
          simp only [Addr.add] at g1 g2
          have g1' : w3.cell? ⟨qb, qo + 5 + 1, none⟩ = _ := g1
          have g2' : w3.cell? ⟨qb, qo + 5 + 2, none⟩ = _ := g2
          cases hov : decide ((200 : Int) < (e.2.call.deed.key.size : Int) + (e.2.call.deed.val.size : Int))
          case true =>
            go_quiet (fail)
            clear g1 g2
            go_wp2
            go_ret
            exact ⟨rfl, (HT2.out.drewN _).below⟩
          case false =>
            have hIn : EntIn e := HEK.out.in e (by rw [decide_eq_false_iff_not] at hov; omega)
            have hsz := HM.out.size h30
            have hlG := HM.out.len
            have CB := rrecBytes e.1 e.2 200 hIn.rep hIn.num hIn.inst (by omega)
            have hrs : (strL (recOf e)).size ≤ 403 := by rw [strL_size]; exact recOf_len2 hIn.rep hIn.num hIn.inst
            have hbad : (good && okE n e) = false → MadeB n E (k + 1) (b ++ strL (recOf e)) G false fin := fun h => by
              rw [← he] at hIn h ⊢; exact HM.out.bad hkl hIn h
            have hmor : (good && okE n e) = true → MadeB n E (k + 1) (b ++ strL (recOf e)) (G ++ [e]) true (b ++ strL (recOf e)).size := fun h => by
              rw [← he] at hIn h ⊢; exact HM.out.more hkl hIn h
            have CI := ritemGood_any e.1 n
            have CN := rgoodN_any e.2 n
            have hset := bookSetD bm (foldB G) (by have := foldB_len G; omega) e.1 e.2
            rw [← foldB_snoc] at hset
            have CB : Ans Try.prog 21 #[.agg (IV e.1), .agg (NV e.2)] (.string (strL (recOf e))) := CB
            generalize strL (recOf e) = rb at *
            go_quiet (fail)
            clear g1 g2 g1' g2' hov hsm
            have T := HT2.out.drewN nq
            generalize w3.drewN nq = w4 at *
            have HCB := Lib.hid CB; have HBAD := Lib.hid hbad; have HMOR := Lib.hid hmor; have HCI := Lib.hid CI; have HCN := Lib.hid CN; have HSET := Lib.hid hset; have HIN := Lib.hid hIn
            clear CB hbad hmor CI CN hset hIn HT2 HT hw3 he HEK F1 F2
            have r0 := T.row; have l0 := row_lt r0
            have f4 := F3.out w4 T.below
            rw [hq] at f4
            cases good
            case false =>
              go_wp2_with fail
              have f5 := fun x => F3.out _ (T.ext x).below
              rw [hq] at f5
              refine wp_region_ext (by kernel_rfl) (by kernel_rfl) ?_
              repeat (go_big_quiet_step (first | (go_at_call 21; exact HCB.out.quiet)))
              refine wpQuiet_nil ?_
              rintro _ ⟨x9, rfl⟩
              have T7 := T.ext x9
              have HT7 := Lib.hid T7
              have HM7 := Lib.hid (HBAD.out (by unfold okE; rfl))
              clear T7 T r0 l0 f5
              go_wp2
              go_roundw
              case rel => exact ⟨k + 1, b ++ rb, G, false, fin, by omega, by go_num, rfl, rfl, rfl, HM7.out, HT7.out.drop⟩
              case measure => simp [intOf]; omega
            case true =>
              go_wp2_with fail
              refine (Ans.at HCI.out T).mono ?_
              clear T r0 l0 f4
              rintro e5 w5 ⟨rfl, T⟩
              have r0 := T.row; have l0 := row_lt r0
              have f4 := F3.out w5 T.below
              rw [hq] at f4
              cases hgi : goodI e.1 n
              case false =>
                go_wp2_with fail
                have f5 := fun x => F3.out _ (T.ext x).below
                rw [hq] at f5
                refine wp_region_ext (by kernel_rfl) (by kernel_rfl) ?_
                repeat (go_big_quiet_step (first | (go_at_call 21; exact HCB.out.quiet)))
                refine wpQuiet_nil ?_
                rintro _ ⟨x9, rfl⟩
                have T7 := T.ext x9
                have HT7 := Lib.hid T7
                have HM7 := Lib.hid (HBAD.out (by unfold okE; rw [hgi]; rfl))
                clear T7 T r0 l0 f5
                go_wp2
                go_roundw
                case rel => exact ⟨k + 1, b ++ rb, G, false, fin, by omega, by go_num, rfl, rfl, rfl, HM7.out, HT7.out.drop⟩
                case measure => simp [intOf]; omega
              case true =>
                go_wp2_with fail
                refine (Ans.at HCN.out T).mono ?_
                clear T r0 l0 f4
                rintro e6 w6 ⟨rfl, T⟩
                have r0 := T.row; have l0 := row_lt r0
                cases hgn : goodN e.2 n
                case false =>
                  go_wp2_with fail
                  have f5 := fun x => F3.out _ (T.ext x).below
                  rw [hq] at f5
                  refine wp_region_ext (by kernel_rfl) (by kernel_rfl) ?_
                  repeat (go_big_quiet_step (first | (go_at_call 21; exact HCB.out.quiet)))
                  refine wpQuiet_nil ?_
                  rintro _ ⟨x9, rfl⟩
                  have T7 := T.ext x9
                  have HT7 := Lib.hid T7
                  have HM7 := Lib.hid (HBAD.out (by unfold okE; rw [hgi, hgn]; rfl))
                  clear T7 T r0 l0 f5
                  go_wp2
                  go_roundw
                  case rel => exact ⟨k + 1, b ++ rb, G, false, fin, by omega, by go_num, rfl, rfl, rfl, HM7.out, HT7.out.drop⟩
                  case measure => simp [intOf]; omega
                case true =>
                  go_wp2_with fail
                  have f5 := fun x => F3.out _ (T.ext x).below
                  rw [hq] at f5
                  refine wp_region_ext (by kernel_rfl) (by kernel_rfl) ?_
                  repeat (go_big_quiet_step (first | (go_at_call 21; exact HCB.out.quiet)))
                  refine wpQuiet_nil ?_
                  rintro _ ⟨x9, rfl⟩
                  have T7 := T.ext x9
                  have HM7 := Lib.hid (HMOR.out (by unfold okE; rw [hgi, hgn]; rfl))
                  clear T r0 l0 f5
                  generalize ext _ x9 = w7 at *
                  have HT7 := Lib.hid T7; clear T7
                  go_wp2_with fail
                  have FS : ∀ W' R', Sts W (fun _ => False) W' (rowR g14 (IV e.1) :: R') → (row? W' g14 = some (IV e.1) ∧ loadVal Try.prog 39 20 W' (.pointer (some ⟨qb, qo, qs⟩)) = .ok (.agg (NV e.2)) W') := fun W' R' T => ⟨T.row, hq ▸ F3.out W' T.below⟩
                  have HFS := Lib.hid FS; clear FS
                  refine wp_region_held_drew (S := fun W' => row? W' g14 = some (IV e.1) ∧ loadVal Try.prog 39 20 W' (.pointer (some ⟨qb, qo, qs⟩)) = .ok (.agg (NV e.2)) W') (by kernel_rfl) (HFS.out _ _ HT7.out.drew) (fun hHeld => ?_)
                  refine wpAnyH_take (i := 0) (oi := _) (v := ?_) rfl (by kernel_rfl) (by kernel_rfl) (by kernel_rfl) (fun _ _ _ h => h) (Or.inl ⟨by kernel_rfl, ?_⟩) (by assumption) ?_
                  rotate_left
                  · (intro w hSw; (try dsimp only at hSw); go_simp; try (with_reducible rfl))
                  simp only [Act.put, List.getElem_toArray, List.getElem_cons_zero, List.setIfInBounds_toArray, List.set_cons_zero, List.set_cons_succ]
                  refine wpAnyH_take (i := 1) (oi := _) (v := ?_) rfl (by kernel_rfl) (by kernel_rfl) (by kernel_rfl) (fun _ _ _ h => h) (Or.inl ⟨by kernel_rfl, ?_⟩) (by assumption) ?_
                  rotate_left
                  · (intro w hSw; (try dsimp only at hSw); go_simp; try (with_reducible rfl))
                  simp only [Act.put, List.getElem_toArray, List.getElem_cons_succ, List.getElem_cons_zero, List.setIfInBounds_toArray, List.set_cons_zero, List.set_cons_succ]
                  refine wpAnyH_take (i := 2) (oi := _) (v := ?_) rfl (by kernel_rfl) (by kernel_rfl) (by kernel_rfl) (fun _ _ _ h => h) (Or.inl ⟨by kernel_rfl, ?_⟩) (by assumption) ?_
                  rotate_left
                  · (intro w hSw; (try dsimp only at hSw); go_simp; try (with_reducible rfl))
                  simp only [Act.put, List.getElem_toArray, List.getElem_cons_succ, List.getElem_cons_zero, List.setIfInBounds_toArray, List.set_cons_zero, List.set_cons_succ]
                  refine wpAnyH_take (i := 3) (oi := _) (v := ?_) rfl (by kernel_rfl) (by kernel_rfl) (by kernel_rfl) (fun _ _ _ h => h) (Or.inl ⟨by kernel_rfl, ?_⟩) (by assumption) ?_
                  rotate_left
                  · (intro w hSw; (try dsimp only at hSw); go_simp; try (with_reducible rfl))
                  simp only [Act.put, List.getElem_toArray, List.getElem_cons_succ, List.getElem_cons_zero, List.setIfInBounds_toArray, List.set_cons_zero, List.set_cons_succ]
                  refine wpAnyH_take (i := 4) (oi := _) (v := ?_) rfl (by kernel_rfl) (by kernel_rfl) (by kernel_rfl) (fun _ _ _ h => h) (Or.inl ⟨by kernel_rfl, ?_⟩) (by assumption) ?_
                  rotate_left
                  · (intro w hSw; (try dsimp only at hSw); go_simp; try (with_reducible rfl))
                  simp only [Act.put, List.getElem_toArray, List.getElem_cons_succ, List.getElem_cons_zero, List.setIfInBounds_toArray, List.set_cons_zero, List.set_cons_succ]
                  refine wpAnyH_take (i := 5) (oi := _) (v := ?_) rfl (by kernel_rfl) (by kernel_rfl) (by kernel_rfl) (fun _ _ _ h => h) (Or.inl ⟨by kernel_rfl, ?_⟩) (by assumption) ?_
                  rotate_left
                  · (intro w hSw; (try dsimp only at hSw); go_simp; try (with_reducible rfl))
                  simp only [Act.put, List.getElem_toArray, List.getElem_cons_succ, List.getElem_cons_zero, List.setIfInBounds_toArray, List.set_cons_zero, List.set_cons_succ]
                  refine wpAnyH_ready (rs := [6]) (by kernel_rfl) (by simp) ?_
                  refine AllReadyH.cons (o := _) rfl (fun K hK => ?_) AllReadyH.nil
                  go_simp
                  refine (Does.at1 HSET.out (HT7.out.drew.ord [1, 0])).mono ?_
                  rintro e8 w8 ⟨rfl, T8⟩
                  have T8 := T8.ord [1, 0]
                  refine hK.out _ _ (HFS.out _ _ T8) (fun hHeld => ?_)
                  clear hK K HT7 HSET HFS
                  refine wpAnyH_done (by kernel_rfl) ?_ _
                  simp only [Exit.then]
                  have HT8 := Lib.hid T8; clear T8
                  go_wp2
                  go_roundw
                  case rel => exact ⟨k + 1, b ++ rb, G ++ [e], true, (b ++ rb).size, by omega, by go_num, rfl, rfl, by simp, HM7.out, HT8.out.drop⟩
                  case measure => simp [intOf]; omega
    · obtain rfl : k = E.length := by omega
      have hsz := hM.size h30
      have HM := Lib.hid hM; have HT := Lib.hid T
      clear hM T hk hkl
      go_upto_region 20 with fail
      go_cut [11, 110] (fun vg v wx => vg = .bool good ∧ Sts W (fun _ => False) wx [bookR bm (foldB G)] ∧ ∃ jb : Bool, v = .bool jb ∧ (jb = false → good = true → more.data.toList = [] ∨ ∃ r, more.data.toList = 0 :: r))
      case first =>
        cases hgd : good
        case false =>
          go_wp2
          go_meet
          case rel => exact ⟨by rw [hgd], HT.out, false, rfl, fun _ h => by rw [hgd] at h; cases h⟩
        case true =>
          by_cases hme : more = ⟨#[]⟩
          · have hb1 : (more != (⟨#[]⟩ : ByteArray)) = false := by rw [hme]; rfl
            go_wp2
            go_meet
            case rel => exact ⟨by rw [hgd], HT.out, false, rfl, fun _ _ => .inl (by rw [hme])⟩
          · have hb1 : ¬ more.toList = [] := fun h => hme (by
              have h1 := toList_len more
              rw [h] at h1
              obtain ⟨⟨l⟩⟩ := more
              have h2 : l.length = 0 := by simpa [ByteArray.size] using h1.symm
              rw [List.eq_nil_of_length_eq_zero h2])
            have hmr : ∃ x r, more.data.toList = x :: r := by
              cases hl : more.data.toList with
              | nil => exact absurd (by obtain ⟨⟨l⟩⟩ := more; have hl : l = [] := hl; rw [hl]) hme
              | cons x r => exact ⟨x, r, rfl⟩
            obtain ⟨x, r, hxr⟩ := hmr
            have hms : 0 < more.size := by
              have : more.data.toList.length = more.size := by rw [Array.length_toList]; rfl
              rw [hxr, List.length_cons] at this; omega
            have hmx : ∀ h, more[0]'h = x := fun h => by
              have h2 : more.data.toList[0]? = some x := by rw [hxr]; rfl
              have h3 : more.data[0]? = some x := by rw [← Array.getElem?_toList]; exact h2
              exact (Array.getElem?_eq_some_iff.1 h3).2
            have HXR := Lib.hid hxr
            clear hme hxr
            cases hx0 : ((x.toNat : Int) != 0)
            case false =>
              have hx1 : x = 0 := by
                have h : x.toNat = 0 := by simpa using hx0
                exact UInt8.toNat_inj.1 (by rw [h]; rfl)
              go_wp2
              go_meet
              case rel => exact ⟨by rw [hgd], HT.out, false, rfl, fun _ _ => .inr ⟨r, by rw [HXR.out, hx1]⟩⟩
            case true =>
              go_wp2
              go_meet
              case rel => exact ⟨by rw [hgd], HT.out, true, by simp [hb1], fun h => by cases h⟩
      case rest =>
        obtain ⟨rfl, T, jb, rfl, hjb⟩ := hcut
        have HJB := Lib.hid hjb
        clear HT hjb
        cases jb
        case true =>
          go_wp2
          go_ret
          exact ⟨rfl, T.below⟩
        case false =>
          have HT := Lib.hid T; clear T
          go_wp2_with fail
          go_loopw [113] (fun s wr => ∃ k : Nat, k ≤ E.length ∧ s = .int .i64 k ∧ (∀ e ∈ E.take k, EntN e) ∧ Sts W (fun _ => False) wr [bookR bm (foldB G)]) (fun s _ => E.length - (intOf s).toNat)
          case atStart => exact ⟨0, Nat.zero_le _, rfl, fun e h => by simp at h, HT.out⟩
          case round =>
            clear HT
            obtain ⟨k, hk, rfl, hN, T⟩ := hrel
            have HN := Lib.hid hN; clear hN
            by_cases hkl : k < E.length
            · cases hA : A with
              | none => have := HX.out.nil hA; subst this; simp at hkl
              | some a =>
                cases hB : B with
                | none => have := HI.out.nil hB; subst this; simp at hkl
                | some q =>
                  have hqk : ∃ qb qo qs, q.add (k * 20) = ⟨qb, qo, qs⟩ := ⟨_, _, _, rfl⟩
                  have hak : ∃ ab ao as4, a.add (k * 2) = ⟨ab, ao, as4⟩ := ⟨_, _, _, rfl⟩
                  obtain ⟨qb, qo, qs, hq⟩ := hqk
                  obtain ⟨ab, ao, as4, ha⟩ := hak
                  have fc : ∀ W', Below W.heap.size W W' → loadVal Try.prog 37 14 W' (.pointer (some ((q.add (k * 20)).add 5))) = .ok (.agg (CV E[k].2.call)) W' := fun W' hb => by
                    refine HI.out.partAt (P := Try.prog) (T := 37) hb hB hkl 5 14 (CV E[k].2.call) (fun i v h => by match i, h with | 0, h => exact h | 1, h => exact h | 2, h => exact h | 3, h => exact h | 4, h => exact h | 5, h => exact h | 6, h => exact h | 7, h => exact h | 8, h => exact h | 9, h => exact h | 10, h => exact h | 11, h => exact h | 12, h => exact h | 13, h => exact h | i + 14, h => cases h) rfl TCall_und rfl (by kernel_rfl)
                  have g0 : ∀ W', Below W.heap.size W W' → W'.cell? ((q.add (k * 20)).add 0) = some (.int .i64 E[k].2.prom.round) := fun W' hb => HI.out.oneAt hb hB hkl 0 _ rfl
                  have g1 : ∀ W', Below W.heap.size W W' → W'.cell? ((q.add (k * 20)).add 1) = some (.int .i64 E[k].2.prom.rep) := fun W' hb => HI.out.oneAt hb hB hkl 1 _ rfl
                  have g2 : ∀ W', Below W.heap.size W W' → W'.cell? ((q.add (k * 20)).add 2) = some (.int .i64 E[k].2.vote.round) := fun W' hb => HI.out.oneAt hb hB hkl 2 _ rfl
                  have g3 : ∀ W', Below W.heap.size W W' → W'.cell? ((q.add (k * 20)).add 3) = some (.int .i64 E[k].2.vote.rep) := fun W' hb => HI.out.oneAt hb hB hkl 3 _ rfl
                  have g4 : ∀ W', Below W.heap.size W W' → W'.cell? ((q.add (k * 20)).add 4) = some (.int .i64 E[k].2.status) := fun W' hb => HI.out.oneAt hb hB hkl 4 _ rfl
                  have g5 : ∀ W', Below W.heap.size W W' → W'.cell? ((a.add (k * 2)).add 0) = some (.int .i64 E[k].1.rep) := fun W' hb => HX.out.oneAt hb hA hkl 0 _ rfl
                  have g6 : ∀ W', Below W.heap.size W W' → W'.cell? ((a.add (k * 2)).add 1) = some (.int .i64 E[k].1.num) := fun W' hb => HX.out.oneAt hb hA hkl 1 _ rfl
                  generalize he : E[k] = e at *
                  rw [hq] at fc g0 g1 g2 g3 g4
                  rw [ha] at g5 g6
                  have FC := Lib.hid fc; have G0 := Lib.hid g0; have G1 := Lib.hid g1; have G2 := Lib.hid g2; have G3 := Lib.hid g3; have G4 := Lib.hid g4; have G5 := Lib.hid g5; have G6 := Lib.hid g6; have HE2 := Lib.hid he
                  clear fc g0 g1 g2 g3 g4 g5 g6 he
                  have fc : loadOf Try.prog 37 14 wr qb (qo + 5) = .ok (.agg (CV e.2.call)) wr := FC.out wr T.below
                  simp only [loadOf] at fc
                  have hk9 : (k : Int) < (E.length : Int) := by omega
                  have hk0 : (0 : Int) ≤ (k : Int) := by omega
                  have T2 := T.new (CV e.2.call) 37
                  have HT2 := Lib.hid T2; clear T T2
                  go_wp2_with fail
                  clear fc
                  generalize hw3 : wr.alloc _ = w3 at *
                  generalize wr.heap.size = g16 at *
                  go_loopw [123] (fun s wi => ∃ i : Nat, i ≤ 7 ∧ s = .int .i64 i ∧ (∀ j, j < i → 0 ≤ e.2.call.deps j) ∧ Sts W (fun _ => False) wi [rowR g16 (CV e.2.call), bookR bm (foldB G)]) (fun s _ => 7 - (intOf s).toNat)
                  case atStart => exact ⟨0, by omega, rfl, fun j h => by omega, hw3 ▸ HT2.out⟩
                  case round =>
                    clear HT2 hw3
                    obtain ⟨i, hi, rfl, hD, T⟩ := hrel
                    by_cases hi7 : i < 7
                    · have HD := Lib.hid hD; have HT := Lib.hid T; clear hD T
                      have hi9 : (i : Int) < 7 := by omega
                      have hi0 : (0 : Int) ≤ (i : Int) := by omega
                      by_cases hneg : e.2.call.deps i < 0
                      · go_wp2
                        go_ret
                        exact ⟨rfl, HT.out.below⟩
                      · have HNG := Lib.hid hneg
                        go_wp2
                        go_roundw
                        case rel => exact ⟨i + 1, by omega, by go_num, fun j hj => by
                          by_cases e1 : j = i
                          · subst e1; have := HNG.out; omega
                          · exact HD.out j (by omega), HT.out⟩
                        case measure => simp [intOf]; omega
                    · obtain rfl : i = 7 := by omega
                      have HD := Lib.hid hD; have HT := Lib.hid T; clear hD T
                      have r0 := HT.out.row; have l0 := row_lt r0; have c0 := row_cell r0
                      have g0 : wr.cell? ⟨qb, qo, qs⟩ = some (.int .i64 e.2.prom.round) := G0.out wr HT.out.below
                      have g1 : wr.cell? ⟨qb, qo + 1, none⟩ = some (.int .i64 e.2.prom.rep) := G1.out wr HT.out.below
                      have g2 : wr.cell? ⟨qb, qo + 2, none⟩ = some (.int .i64 e.2.vote.round) := G2.out wr HT.out.below
                      have g3 : wr.cell? ⟨qb, qo + 2 + 1, none⟩ = some (.int .i64 e.2.vote.rep) := G3.out wr HT.out.below
                      have g4 : wr.cell? ⟨qb, qo + 4, none⟩ = some (.int .i64 e.2.status) := G4.out wr HT.out.below
                      have g5 : wr.cell? ⟨ab, ao, as4⟩ = some (.int .i64 e.1.rep) := G5.out wr HT.out.below
                      have g6 : wr.cell? ⟨ab, ao + 1, none⟩ = some (.int .i64 e.1.num) := G6.out wr HT.out.below
                      have hmm : ∃ mm : Int, (∀ w, (Builtin.min_ #[3, 3, 3, 3, 3, 3] 3 #[.int .i64 e.2.prom.round, .int .i64 e.2.prom.rep, .int .i64 e.2.vote.round, .int .i64 e.2.vote.rep, .int .i64 e.1.rep, .int .i64 e.1.num]).run Try.prog w = .ok (.int .i64 mm) w) ∧ (mm < 0 ↔ (((((e.2.prom.round < 0 ∨ e.2.prom.rep < 0) ∨ e.2.vote.round < 0) ∨ e.2.vote.rep < 0) ∨ e.1.rep < 0) ∨ e.1.num < 0)) := ⟨_, fun w => min6 _ _ _ _ _ _ _ _ _ _ w, by simp only [minI_neg]⟩
                      obtain ⟨mm, hmin, hmi⟩ := hmm
                      have HMI := Lib.hid hmi; clear hmi
                      go_wp2_with fail
                      refine wp_region_quiet_lit (by as_aux_lemma => kernel_rfl) (by as_aux_lemma => kernel_rfl) ?_
                      cases b0 : decide (e.2.call.seq < 0)
                      case true =>
                        repeat (go_big_quiet_step (fail))
                        refine wpQuiet_nil ?_
                        rintro _ ⟨x9, rfl⟩
                        go_wp2
                        go_ret
                        exact ⟨rfl, below_drewN HT.out.below _⟩
                      case' false => repeat (go_big_quiet_step (fail))
                      cases b1 : decide (e.2.call.deed.kind < 0)
                      case true =>
                        repeat (go_big_quiet_step (fail))
                        refine wpQuiet_nil ?_
                        rintro _ ⟨x9, rfl⟩
                        go_wp2
                        go_ret
                        exact ⟨rfl, below_drewN HT.out.below _⟩
                      case' false => repeat (go_big_quiet_step (fail))
                      cases b2 : decide (e.2.call.deed.ver < 0)
                      case true =>
                        repeat (go_big_quiet_step (fail))
                        refine wpQuiet_nil ?_
                        rintro _ ⟨x9, rfl⟩
                        go_wp2
                        go_ret
                        exact ⟨rfl, below_drewN HT.out.below _⟩
                      case' false => repeat (go_big_quiet_step (fail))
                      cases b3 : decide (e.2.call.deed.ses < 0)
                      case true =>
                        repeat (go_big_quiet_step (fail))
                        refine wpQuiet_nil ?_
                        rintro _ ⟨x9, rfl⟩
                        go_wp2
                        go_ret
                        exact ⟨rfl, below_drewN HT.out.below _⟩
                      case' false => repeat (go_big_quiet_step (fail))
                      cases b4 : decide (e.2.call.deed.num < 0)
                      case true =>
                        repeat (go_big_quiet_step (fail))
                        refine wpQuiet_nil ?_
                        rintro _ ⟨x9, rfl⟩
                        go_wp2
                        go_ret
                        exact ⟨rfl, below_drewN HT.out.below _⟩
                      case' false => repeat (go_big_quiet_step (fail))
                      cases b5 : decide (e.2.status < 0)
                      case true =>
                        repeat (go_big_quiet_step (fail))
                        refine wpQuiet_nil ?_
                        rintro _ ⟨x9, rfl⟩
                        go_wp2
                        go_ret
                        exact ⟨rfl, below_drewN HT.out.below _⟩
                      case' false => repeat (go_big_quiet_step (fail))
                      refine wpQuiet_nil ?_
                      rintro _ ⟨x9, rfl⟩
                      cases b6 : decide (mm < 0)
                      case true =>
                        go_wp2
                        go_ret
                        exact ⟨rfl, below_drewN HT.out.below _⟩
                      case false =>
                        have hen : EntN e := by
                          rw [decide_eq_false_iff_not] at b0 b1 b2 b3 b4 b5 b6
                          rw [HMI.out] at b6
                          exact ⟨fun i hi => HD.out i hi, by omega, by omega, by omega, by omega, by omega, by omega, by omega, by omega, by omega, by omega, by omega, by omega⟩
                        have hN2 : ∀ e ∈ E.take (k + 1), EntN e := fun y hy => by
                          rw [List.take_succ_eq_append_getElem hkl, List.mem_append] at hy
                          rcases hy with hy | hy
                          · exact HN.out y hy
                          · rw [HE2.out] at hy; simp at hy; subst hy; exact hen
                        have HN2 := Lib.hid hN2
                        clear hen hN2 hmin b0 b1 b2 b3 b4 b5 b6 g0 g1 g2 g3 g4 g5 g6 r0 l0 c0
                        go_wp2
                        go_roundw
                        case rel => exact ⟨k + 1, by omega, by go_num, HN2.out, (HT.out.drewN x9).drop⟩
                        case measure => simp [intOf]; omega
            · obtain rfl : k = E.length := by omega
              have hF : ∃ D : List UInt8, cat [b, more] = D ∧ D.length ≤ 65536 ∧ fin = (recsOf G).length ∧ (recsOf G).length ≤ 65536 ∧ G.length ≤ 30 ∧ (sizeB n = true → OpenW n G D) := by
                have hm := HM.out
                have hl := recsOf_len2 hm.all
                have hb := hm.b
                have hG := hm.G
                have hf := hm.fin
                have hg := hm.good
                have hall := hm.all
                rw [List.take_length] at hl hb hG hf hg hall
                rw [← hG] at hf
                refine ⟨recsOf E ++ more.data.toList, ?_, ?_, hf, ?_, ?_, fun hs => ?_⟩
                · rw [hb]; simp [cat, strL]
                · have h1 : more.data.toList.length = more.size := by rw [Array.length_toList]; rfl
                  have h2 : (recsOf E).length ≤ 12090 := by omega
                  rw [List.length_append, h1]
                  omega
                · have h1 := recsOf_len2 (l := G) fun e he => hall e (by rw [hG] at he; exact (List.takeWhile_prefix _).subset he)
                  have h2 : G.length ≤ E.length := by rw [hG]; exact (List.takeWhile_prefix _).length_le
                  omega
                · have h2 : G.length ≤ E.length := by rw [hG]; exact (List.takeWhile_prefix _).length_le
                  omega
                · rw [hG]
                  refine openW (sizeB_n hs) (fun e he => (HN.out e (by rw [List.take_length]; exact he)).p (hall e he)) fun ha => HJB.out (by simp) (by rw [hg]; exact ha)
              obtain ⟨D, hcat, hD, hfin, hlt, hG30, hW⟩ := hF
              have HW := Lib.hid hW; have HFIN := Lib.hid hfin; have HCAT := Lib.hid hcat
              clear hW hfin hcat HN HJB HM hsz hk hkl
              go_wp2_with fail
              refine (newT T).mono ?_
              clear T
              rintro e w5 ⟨rfl, T⟩
              generalize wr.heap.size = p at *
              have HT := Lib.hid T; clear T
              go_wp2_with fail
              have hT0 := HT.out.new (rowS [b, more]) 9
              have hT1 := hT0.ord [1, 0, 2]
              have hT : Sts W (fun _ => False) (w5.alloc (.cells #[.string b, .string more] 9)) [plR p [] 0, rowR w5.heap.size (rowS [b, more]), bookR bm (foldB G)] := hT1
              have hap := appendT hT 2 (by simp) (by simp) (by rw [HCAT.out]; omega)
              have hpp : appP [] (cat [b, more]) = (D, 0) := by unfold appP; rw [HCAT.out, if_pos (by simpa using hD)]; simp
              rw [hpp] at hap
              have HAP := Lib.hid hap
              clear hap hpp hT hT0 hT1 HT
              refine HAP.out.mono ?_
              clear HAP
              rintro e w6 ⟨rfl, T⟩
              have T := T.ord [0, 2, 1]
              generalize w5.heap.size = gs at *
              have T : Sts W (fun _ => False) w6 [plR p D 0, bookR bm (foldB G)] := (T.ord [2, 0, 1]).drop
              cases hs : sizeB n
              case false =>
                have HB := Lib.hid (Ans.at (openBad (p := p) n hs) T); clear T
                go_wp2_with fail
                refine HB.out.mono ?_
                rintro e w7 ⟨rfl, T⟩
                go_wp2
                go_ret
                exact ⟨rfl, T.below⟩
              case true =>
                have HB := Lib.hid (openT2 T hD n hs)
                have HO := Lib.hid (HW.out hs)
                clear HW T
                go_wp2_with fail
                refine HB.out.mono ?_
                clear HB
                rintro e w7 ⟨lg, g, rfl, T⟩
                have hO := HO.out
                obtain ⟨o1, o2, r1, r2, s1, s2⟩ := hO
                clear HO
                generalize hm1 : mK n (goT n D) = m1 at *
                generalize hD1 : openD n D = D1 at *
                generalize openF n D 0 = f1 at *
                clear hm1 hD1
                have T : Sts W (fun _ => False) w7 [rowR lg (ledCells p g m1.n), plR p D1 f1, rowsIR g m1, bookR bm (foldB G)] := T
                have T := T.ord [1, 0, 2, 3]
                have HB := Lib.hid (openT2 T (by rw [o1]; exact hlt) n hs)
                generalize hm2 : mK n (goT n D1) = m2 at *
                generalize hD2 : openD n D1 = D2 at *
                generalize openF n D1 f1 = f2 at *
                clear hm2 hD2
                have hq : ((D2.length : Int) == (fin : Int)) = true := by rw [HFIN.out, o2]; simp
                have hle1 := ents_len r1
                have hle2 := ents_len r2
                have hle3 := foldB_len G
                have R1 := Lib.hid r1; have R2 := Lib.hid r2; have S1 := Lib.hid s1; have S2 := Lib.hid s2
                clear T r1 r2 s1 s2 o1 o2
                go_wp2_with fail
                refine HB.out.mono ?_
                clear HB
                rintro e w8 ⟨lg2, g2, rfl, T⟩
                have T : Sts W (fun _ => False) w8 [rowR lg2 (ledCells p g2 m2.n), plR p D2 f2, rowsIR g2 m2, rowR lg (ledCells p g m1.n), rowsIR g m1, bookR bm (foldB G)] := T
                have T := T.ord [3, 1, 4, 0, 2, 5]
                have HB := Lib.hid (bookT (D := D2) (safe := f2) (R := [rowR lg2 (ledCells p g2 m2.n), rowsIR g2 m2, bookR bm (foldB G)]) R1.out T); clear T
                go_wp2_with fail
                refine HB.out.mono ?_
                clear HB
                rintro e w9 ⟨b1, rfl, T⟩
                have T : Sts W (fun _ => False) w9 [bookR b1 (ents m1), rowR lg (ledCells p g m1.n), plR p D2 f2, rowsIR g m1, rowR lg2 (ledCells p g2 m2.n), rowsIR g2 m2, bookR bm (foldB G)] := T
                have T := T.ord [0, 6, 1, 2, 3, 4, 5]
                have hsr := Reads.at (L := [bookR b1 (ents m1), bookR bm (foldB G)]) (sameR b1 bm (ents m1) (foldB G) (by omega) (by omega)) T
                rw [S1.out] at hsr
                have HSR := Lib.hid hsr; have HT := Lib.hid T; clear hsr T
                go_wp2_with fail
                refine HSR.out.mono ?_
                clear HSR
                rintro e w10 ⟨rfl, hb⟩
                have T := HT.out.pure hb
                clear HT hb
                have T := T.ord [3, 0, 1, 2, 4, 5, 6]
                have hln := lenT T
                have HLN := Lib.hid hln; have HT := Lib.hid T; clear hln T
                go_wp2_with fail
                refine HLN.out.mono ?_
                clear HLN
                rintro e w11 ⟨rfl, rfl⟩
                have T := HT.out.ord [5, 0, 6, 2, 1, 3, 4]
                have HB := Lib.hid (bookT (D := D2) (safe := f2) (R := [bookR bm (foldB G), bookR b1 (ents m1), rowR lg (ledCells p g m1.n), rowsIR g m1]) R2.out T); clear T HT
                go_wp2_with fail
                refine HB.out.mono ?_
                clear HB
                rintro e w12 ⟨b2, rfl, T⟩
                have T : Sts W (fun _ => False) w12 [bookR b2 (ents m2), rowR lg2 (ledCells p g2 m2.n), plR p D2 f2, rowsIR g2 m2, bookR bm (foldB G), bookR b1 (ents m1), rowR lg (ledCells p g m1.n), rowsIR g m1] := T
                have T := T.ord [0, 4, 1, 2, 3, 5, 6, 7]
                have hsr := Reads.at (L := [bookR b2 (ents m2), bookR bm (foldB G)]) (sameR b2 bm (ents m2) (foldB G) (by omega) (by omega)) T
                rw [S2.out] at hsr
                have HSR := Lib.hid hsr; have HT := Lib.hid T; clear hsr T
                go_wp2_with fail
                refine HSR.out.mono ?_
                clear HSR
                rintro e w13 ⟨rfl, hb⟩
                have T := HT.out.pure hb
                clear HT hb
                go_wp2
                go_ret
                exact ⟨rfl, T.below⟩
end Go.Proofs.Ytpganpiidgkofaa
