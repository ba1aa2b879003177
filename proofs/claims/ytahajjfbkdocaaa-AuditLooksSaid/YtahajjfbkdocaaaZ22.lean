/- Several texts in one. -/
import Derived.Test.YtahajjfbkdocaaaZ21
import Derived.Test.YtahajjfbkdocaaaZ16
import Derived.Deep.DeepCutAuto
/- Layer 24, the document: the walk of Look. -/
namespace Go.Proofs.Ytahajjfbkdocaaa
open Go.RowKit
set_option linter.unusedVariables false
attribute [local go_sem] row_alloc row_drew row_drewN row_ext row_setCell row_setRow size_ext setRow_alloc setRow_drew loadOf storeOf piece_lit loadVal_at storeVal_at allOne_lit buildOf buildRes_some
attribute [local go_sem high] cell_alloc frozen_alloc setCell_alloc cell_ext frozen_ext cell_setRow frozen_setRow
attribute [local go_sem ↓] TDeed_ld0 TDeed_st0 TDeed_fd0 TDeed_bd0
attribute [local go_sem] TDeed_size TDeed_one TDeed_piece TDeed_c0 TDeed_c1 TDeed_c2 TDeed_c3 TDeed_c4 TDeed_c5 TDeed_set_kind TDeed_set_key TDeed_set_val TDeed_set_ver TDeed_set_ses TDeed_set_num TDeed_ld TDeed_st TDeed_f_kind TDeed_f_key TDeed_f_val TDeed_f_ver TDeed_f_ses TDeed_f_num TDeed_bd TDeed_fl TDeed_fl_kind TDeed_fl_key TDeed_fl_val TDeed_fl_ver TDeed_fl_ses TDeed_fl_num
attribute [local go_sem high] TDeed_eql TDeed_neq
attribute [local go_sem ↓] index_deps0 load_deps0 store_deps0
attribute [local go_sem] DV_piece DV_size DV_one index_deps load_deps store_deps
attribute [local go_sem high] TDeps_eql TDeps_neq
attribute [local go_sem ↓] TCall_ld0 TCall_st0 TCall_fd0 TCall_bd0
attribute [local go_sem] TCall_size TCall_one TCall_piece TCall_c0 TCall_c1 TCall_c2 TCall_c3 TCall_c4 TCall_c5 TCall_c6 TCall_c7 TCall_c8 TCall_c9 TCall_c10 TCall_c11 TCall_c12 TCall_c13 TCall_p_deed TCall_put_deed TCall_p_deps TCall_put_deps TCall_set_seq TCall_ld TCall_st TCall_f_deed TCall_f_deps TCall_f_seq TCall_bd TCall_fl TCall_fl_deed TCall_fl_deps TCall_fl_seq
attribute [local go_sem high] TCall_eql TCall_neq
attribute [local go_sem ↓] TItem_ld0 TItem_st0 TItem_fd0 TItem_bd0
attribute [local go_sem] TItem_size TItem_one TItem_piece TItem_c0 TItem_c1 TItem_set_rep TItem_set_num TItem_ld TItem_st TItem_f_rep TItem_f_num TItem_bd TItem_fl TItem_fl_rep TItem_fl_num
attribute [local go_sem high] TItem_eql TItem_neq
attribute [local go_sem ↓] TBallot_ld0 TBallot_st0 TBallot_fd0 TBallot_bd0
attribute [local go_sem] TBallot_size TBallot_one TBallot_piece TBallot_c0 TBallot_c1 TBallot_set_round TBallot_set_rep TBallot_ld TBallot_st TBallot_f_round TBallot_f_rep TBallot_bd TBallot_fl TBallot_fl_round TBallot_fl_rep
attribute [local go_sem high] TBallot_eql TBallot_neq
attribute [local go_sem ↓] TInst_ld0 TInst_st0 TInst_fd0 TInst_bd0
attribute [local go_sem] TInst_size TInst_one TInst_piece TInst_c0 TInst_c1 TInst_c2 TInst_c3 TInst_c4 TInst_c5 TInst_c6 TInst_c7 TInst_c8 TInst_c9 TInst_c10 TInst_c11 TInst_c12 TInst_c13 TInst_c14 TInst_c15 TInst_c16 TInst_c17 TInst_c18 TInst_c19 TInst_p_prom TInst_put_prom TInst_p_vote TInst_put_vote TInst_set_status TInst_p_call TInst_put_call TInst_set_same TInst_ld TInst_st TInst_f_prom TInst_f_vote TInst_f_status TInst_f_call TInst_f_same TInst_bd TInst_fl TInst_fl_prom TInst_fl_vote TInst_fl_status TInst_fl_call TInst_fl_same
attribute [local go_sem high] TInst_eql TInst_neq
attribute [local go_sem ↓] TRRow_ld0 TRRow_st0 TRRow_fd0 TRRow_bd0
attribute [local go_sem] TRRow_size TRRow_one TRRow_piece TRRow_c0 TRRow_c1 TRRow_c2 TRRow_c3 TRRow_c4 TRRow_c5 TRRow_c6 TRRow_c7 TRRow_c8 TRRow_c9 TRRow_c10 TRRow_c11 TRRow_c12 TRRow_c13 TRRow_c14 TRRow_c15 TRRow_c16 TRRow_c17 TRRow_c18 TRRow_c19 TRRow_c20 TRRow_c21 TRRow_c22 TRRow_set_rep TRRow_p_item TRRow_put_item TRRow_p_inst TRRow_put_inst TRRow_ld TRRow_st TRRow_f_rep TRRow_f_item TRRow_f_inst TRRow_bd TRRow_fl TRRow_fl_rep TRRow_fl_item TRRow_fl_inst
attribute [local go_sem high] TRRow_eql TRRow_neq
attribute [local go_sem ↓] TRFinding_ld0 TRFinding_st0 TRFinding_fd0 TRFinding_bd0
attribute [local go_sem] TRFinding_size TRFinding_one TRFinding_piece TRFinding_c0 TRFinding_c1 TRFinding_c2 TRFinding_c3 TRFinding_set_kind TRFinding_set_rep TRFinding_p_item TRFinding_put_item TRFinding_ld TRFinding_st TRFinding_f_kind TRFinding_f_rep TRFinding_f_item TRFinding_bd TRFinding_fl TRFinding_fl_kind TRFinding_fl_rep TRFinding_fl_item
attribute [local go_sem high] TRFinding_eql TRFinding_neq
theorem rfind_slice0 (len : Nat) (parts : Array (Nat × Value)) : Instr.buildSlice 45 len parts = buildSem 45 len parts := rfl
theorem rfind_slice1 (w : World) (x : RFinding) : (buildSem 45 1 #[(0, .agg (GV x))]).run Try.prog w = .ok (.slice (some ⟨w.heap.size, 0, none⟩) 1 1) (w.alloc (.cells (GV x) 51)) :=
  build_slice1 Try.underlying45 (z := .agg #[.int .i64 0, .int .i64 0, .int .i64 0, .int .i64 0]) (n := 4) (by kernel_rfl) (by omega) w (TRFinding_size x) (by omega)
attribute [local go_sem ↓] rfind_slice0
attribute [local go_sem] rfind_slice1
theorem rfind_info : (Try.prog.info? 51).map (fun i => (i.zero, i.size, i.bytes)) = some (some (.agg #[.int .i64 0, .int .i64 0, .int .i64 0, .int .i64 0]), 4, 32) := by kernel_rfl
theorem rfind_i : ∃ i, Try.prog.info? 51 = some i ∧ i.zero = some (.agg #[.int .i64 0, .int .i64 0, .int .i64 0, .int .i64 0]) ∧ i.size = 4 ∧ i.bytes = 32 := by
  have h := rfind_info
  cases hi : Try.prog.info? 51 with
  | none => rw [hi] at h; simp at h
  | some i => rw [hi] at h; simp at h; exact ⟨i, rfl, h.1, h.2.1, h.2.2⟩
theorem int_info : (Try.prog.info? 3).map (fun i => (i.zero, i.size, i.bytes)) = some (some (.int .i64 0), 1, 8) := by kernel_rfl
theorem int_i : ∃ i, Try.prog.info? 3 = some i ∧ i.zero = some (.int .i64 0) ∧ i.size = 1 ∧ i.bytes = 8 := by
  have h := int_info
  cases hi : Try.prog.info? 3 with
  | none => rw [hi] at h; simp at h
  | some i => rw [hi] at h; simp at h; exact ⟨i, rfl, h.1, h.2.1, h.2.2⟩
def routR (v : Value) (o : List RFinding) : Res := vecR 51 4 v o.length (vl GV o)
def LV (i : Nat) : Array Value := #[.int .i64 i]
theorem LV_size (i : Nat) : (LV i).size = 1 := rfl
def leadR (v : Value) (o : List Nat) : Res := vecR 3 1 v o.length (vl LV o)
section
variable (r : RRow)
theorem RwV_prom : piece (RwV r) 3 2 = BV r.inst.prom := by kernel_rfl
theorem RwV_vote : piece (RwV r) 5 2 = BV r.inst.vote := by kernel_rfl
theorem RwV_call : piece (RwV r) 8 14 = CV r.inst.call := by kernel_rfl
theorem RwV_deed : piece (RwV r) 8 6 = EV r.inst.call.deed := by kernel_rfl
theorem RwV_deps : piece (RwV r) 14 7 = DV r.inst.call.deps := by kernel_rfl
end
attribute [local go_sem] RwV_prom RwV_vote RwV_call RwV_deed RwV_deps
theorem news_row {W : World} {g : Nat} {X : Array Value} (h : row? W g = some X) : ∀ j u, X.toList[j]? = some u → W.cell? ((⟨g, 0, none⟩ : Addr).add j) = some u := by
  intro j u hu
  rw [add_none, Nat.zero_add, row_cell h]
  simpa using hu
theorem rfind_one (x : RFinding) : ∀ u ∈ (GV x).toList, u.oneCell' = true := by simp [GV, Value.oneCell']
theorem rout_snoc {v : Value} {o : List RFinding} {x : RFinding} {w W : World} {F : Nat → Prop} {R : List Res} (T : Sts w F W (vecR 51 4 v (o.length + 1) (vl GV o ++ (GV x).toList) :: R)) : Sts w F W (routR v (o ++ [x]) :: R) := by
  unfold routR
  rw [vl_snoc, List.length_append]
  exact T
theorem lead_snoc {v : Value} {o : List Nat} {x : Nat} {w W : World} {F : Nat → Prop} {R : List Res} (T : Sts w F W (vecR 3 1 v (o.length + 1) (vl LV o ++ (LV x).toList) :: R)) : Sts w F W (leadR v (o ++ [x]) :: R) := by
  unfold leadR
  rw [vl_snoc, List.length_append]
  exact T
theorem LV_one (x : Nat) : ∀ u ∈ (LV x).toList, u.oneCell' = true := by simp [LV, Value.oneCell']
theorem vec_shape1 {e : TypeId} {size n : Nat} {v : Value} {xs : List Value} {w W : World} {F : Nat → Prop} {R : List Res} (T : Sts w F W (vecR e size v n xs :: R)) : ∃ A c, v = .slice A n c := by
  rcases T.vec.2 with ⟨rfl, rfl⟩ | ⟨g, cap, cur, rfl, _⟩
  · exact ⟨_, _, rfl⟩
  · exact ⟨_, _, rfl⟩
theorem piece_sub {cs X : Array Value} {o n : Nat} (h : piece cs o n = X) : ∀ i v, X[i]? = some v → cs[o + i]? = some v := by
  intro i v hv
  rw [← h] at hv
  unfold piece at hv
  rw [Array.getElem?_extract] at hv
  split at hv
  · exact hv
  · cases hv
set_option maxHeartbeats 16000000 in
set_option maxRecDepth 20000 in
theorem rlookT (n : Int) (g c : Nat) (l : List RRow) (w W : World) (R : List Res) (hx : RowsIn w (some ⟨g, 0, none⟩) 23 RwV l) (h140 : l.length ≤ 140) (hk : ∀ x ∈ l, x.inst.call.deed.key.size ≤ 1000) (T : Sts w (fun _ => False) W R) :
    Calls Try.prog 9 #[.int .i64 n, .slice (some ⟨g, 0, none⟩) l.length c] W fun e W' => ∃ v, e = .returned v ∧ Sts w (fun _ => False) W' (routR v (rlookM l n) :: R) := by
  have hll := hx.len
  have T := (T.vecNil 3 1).vecNil 51 4
  obtain ⟨i0, hi, hz0, hz1, hz2⟩ := rfind_i
  obtain ⟨i1, hj, hy0, hy1, hy2⟩ := int_i
  go_enter Try.func9, Try.ntmps9
  go_wp2_with fail
  go_loopw [5, 6, 16] (fun u5 u6 i wr => ∃ (k : Nat) (q : ROut), k ≤ l.length ∧ i = .int .i64 k ∧ q = (List.range k).foldl (rstep l n) ([], []) ∧ q.1.length ≤ 2 * k ∧ q.2.length ≤ k ∧ (∀ i ∈ q.2, i < l.length) ∧ Sts w (fun _ => False) wr (routR u5 q.1 :: leadR u6 q.2 :: R)) (fun _ _ i _ => l.length - (intOf i).toNat)
  case atStart => exact ⟨0, ([], []), by omega, rfl, rfl, by simp, by simp, fun i h => (by cases h), T⟩
  case round =>
    clear T
    obtain ⟨k, ⟨o, ld⟩, hk0, rfl, hq, ho, hd, hdl, T⟩ := hrel
    dsimp only at ho hd hdl T
    by_cases hkl : k < l.length
    · have hld := hx.load (P := Try.prog) (T := 42) TRRow_size TRRow_und rfl (by kernel_rfl) T.below rfl hkl
      rw [add_none, Nat.zero_add] at hld
      have hok : l[k]? = some l[k] := List.getElem?_eq_getElem hkl
      have hkr := hk l[k] (List.getElem_mem hkl)
      have hq2 : rrow l n k l[k] (o, ld) = (List.range (k + 1)).foldl (rstep l n) ([], []) := by
        rw [List.range_succ, List.foldl_append, ← hq]
        show _ = rstep l n (o, ld) k
        unfold rstep
        rw [hok]
      have CF := fun (W' : World) (R' : List Res) (T : Sts w (fun _ => False) W' R') => first_any g c l k hkl w W' R' hx T
      have HF := Lib.hid CF; clear CF
      have HQ := Lib.hid hq2; clear hq2 hq
      have hrr : rrow l n k l[k] (o, ld) = if (!goodI l[k].item n || !firstB (l.take k) l[k]) = true then (o ++ [⟨1, l[k].rep, l[k].item⟩], ld) else if goodN l[k].inst n = false then (o ++ [⟨2, l[k].rep, l[k].item⟩], ld) else (let q1 := if lessBal l[k].inst.prom l[k].inst.vote = true then (o ++ [⟨3, l[k].rep, l[k].item⟩], ld) else (o, ld); if (l[k].inst.status == 3) = true then rmark l n k l[k] q1 else q1) := rfl
      generalize l[k] = r at *
      have HK := Lib.hid hok; clear hok
      have T := T.new (RwV r) 42
      go_upto_region 6 with fail
      clear hld
      generalize wr.heap.size = p at *
      generalize wr.alloc _ = w2 at *
      have h1 := T.row; have l1 := row_lt h1; have c1 := row_cell h1
      cases hgi : goodI r.item n
      case false =>
        rw [hgi, if_pos (by rfl)] at hrr
        rw [hrr] at HQ
        clear HF hrr
        go_wp2_with fail
        refine (Ans.at (Ans.of_eq (ritemGood_any r.item n) (by rw [hgi])) T).mono ?_; clear T h1 l1 c1; rintro e w3 ⟨rfl, T⟩
        have h1 := T.row; have l1 := row_lt h1; have c1 := row_cell h1
        have TA := T.new (GV ⟨1, r.rep, r.item⟩) 51
        have hnw := Lib.hid (news_row TA.row)
        have TA := Lib.hid TA.rot2
        go_wp2_with (at_builtin; refine wpList_append_vec rfl _ _ 45 rfl 51 i0 _ 4 32 Try.underlying45 hi hz0 hz1 hz2 rfl (by omega) _ _ _ rfl TA.out _ 1 1 (GV ⟨1, r.rep, r.item⟩).toList rfl rfl hnw.out (rfind_one ⟨1, r.rep, r.item⟩) ?c3 ?c4 ?_)
        case c3 => unfold maxLen; omega
        case c4 => omega
        intro v9 w9 T9
        clear TA hnw T h1 l1 c1
        have T := rout_snoc T9.swap.drop
        clear T9
        go_wp2
        go_roundw
        case rel => exact ⟨k + 1, (o ++ [⟨1, r.rep, r.item⟩], ld), by omega, by go_num, HQ.out, by simp; omega, by show ld.length ≤ _; omega, hdl, T.swap.drop⟩
        case measure => simp [intOf]; omega
      case true =>
        have CG := Lib.hid (Ans.of_eq (ritemGood_any r.item n) (by rw [hgi]))
        cases hfb : firstB (l.take k) r
        case false =>
          rw [hgi, hfb, if_pos (by rfl)] at hrr
          rw [hrr] at HQ
          clear hrr
          go_wp2_with fail
          refine (Ans.at CG.out T).mono ?_; clear T h1 l1 c1 CG; rintro e w3 ⟨rfl, T⟩
          have CX := Lib.hid (HF.out w3 _ T); clear T HF
          go_wp2_with fail
          refine CX.out.mono ?_; clear CX; rintro e w4 ⟨rfl, T⟩
          rw [hfb]
          have h1 := T.row; have l1 := row_lt h1; have c1 := row_cell h1
          have TA := T.new (GV ⟨1, r.rep, r.item⟩) 51
          have hnw := Lib.hid (news_row TA.row)
          have TA := Lib.hid TA.rot2
          go_wp2_with (at_builtin; refine wpList_append_vec rfl _ _ 45 rfl 51 i0 _ 4 32 Try.underlying45 hi hz0 hz1 hz2 rfl (by omega) _ _ _ rfl TA.out _ 1 1 (GV ⟨1, r.rep, r.item⟩).toList rfl rfl hnw.out (rfind_one ⟨1, r.rep, r.item⟩) ?c3 ?c4 ?_)
          case c3 => unfold maxLen; omega
          case c4 => omega
          intro v9 w9 T9
          clear TA hnw T h1 l1 c1
          have T := rout_snoc T9.swap.drop
          clear T9
          go_wp2
          go_roundw
          case rel => exact ⟨k + 1, (o ++ [⟨1, r.rep, r.item⟩], ld), by omega, by go_num, HQ.out, by simp; omega, by show ld.length ≤ _; omega, hdl, T.swap.drop⟩
          case measure => simp [intOf]; omega
        case true =>
          rw [hgi, hfb, if_neg (by simp)] at hrr
          go_wp2_with fail
          refine (Ans.at CG.out T).mono ?_; clear T h1 l1 c1 CG; rintro e w3 ⟨rfl, T⟩
          have CX := Lib.hid (HF.out w3 _ T); clear T HF
          go_wp2_with fail
          refine CX.out.mono ?_; clear CX; rintro e w4 ⟨rfl, T⟩
          rw [hfb]
          have h1 := T.row; have l1 := row_lt h1; have c1 := row_cell h1
          have CN := Lib.hid (rgoodN_any r.inst n)
          go_wp2_with fail
          refine (Ans.at CN.out T).mono ?_; clear T h1 l1 c1 CN; rintro e w5 ⟨rfl, T⟩
          have h1 := T.row; have l1 := row_lt h1; have c1 := row_cell h1
          cases hgn : goodN r.inst n
          case false =>
            rw [hgn, if_pos rfl] at hrr
            rw [hrr] at HQ
            clear hrr
            have TA := T.new (GV ⟨2, r.rep, r.item⟩) 51
            have hnw := Lib.hid (news_row TA.row)
            have TA := Lib.hid TA.rot2
            go_wp2_with (at_builtin; refine wpList_append_vec rfl _ _ 45 rfl 51 i0 _ 4 32 Try.underlying45 hi hz0 hz1 hz2 rfl (by omega) _ _ _ rfl TA.out _ 1 1 (GV ⟨2, r.rep, r.item⟩).toList rfl rfl hnw.out (rfind_one ⟨2, r.rep, r.item⟩) ?c3 ?c4 ?_)
            case c3 => unfold maxLen; omega
            case c4 => omega
            intro v9 w9 T9
            clear TA hnw T h1 l1 c1
            have T := rout_snoc T9.swap.drop
            clear T9
            go_wp2
            go_roundw
            case rel => exact ⟨k + 1, (o ++ [⟨2, r.rep, r.item⟩], ld), by omega, by go_num, HQ.out, by simp; omega, by show ld.length ≤ _; omega, hdl, T.swap.drop⟩
            case measure => simp [intOf]; omega
          case true =>
            rw [hgn, if_neg (by simp)] at hrr
            have CL := Lib.hid (rless_any r.inst.prom r.inst.vote)
            obtain ⟨o1, ho1⟩ : ∃ o1, o1 = if lessBal r.inst.prom r.inst.vote = true then o ++ [⟨3, r.rep, r.item⟩] else o := ⟨_, rfl⟩
            have hrr2 : rrow l n k r (o, ld) = if (r.inst.status == 3) = true then rmark l n k r (o1, ld) else (o1, ld) := by
              rw [hrr, ho1]; cases lessBal r.inst.prom r.inst.vote <;> rfl
            have hol : o1.length ≤ o.length + 1 := by rw [ho1]; split <;> simp
            rw [hrr2] at HQ
            clear hrr hrr2
            have HO := Lib.hid ho1; clear ho1
            go_wp2_with fail
            refine (Ans.at CL.out T).mono ?_; clear T h1 l1 c1 CL; rintro e w6 ⟨rfl, T⟩
            go_upto_if 59 with fail
            go_cut [5] (fun u5 wx => Sts w (fun _ => False) wx (rowR p (RwV r) :: routR u5 o1 :: leadR u6 ld :: R))
            case first =>
              have h1 := T.row; have l1 := row_lt h1; have c1 := row_cell h1
              cases hlb : lessBal r.inst.prom r.inst.vote
              case false =>
                have HO2 := HO.out; rw [hlb, if_neg Bool.false_ne_true] at HO2
                go_wp2
                go_meet
                case rel => rw [HO2]; exact T
              case true =>
                have HO2 := HO.out; rw [hlb, if_pos rfl] at HO2
                have HO3 := Lib.hid HO2; clear HO2
                have TA := T.new (GV ⟨3, r.rep, r.item⟩) 51
                have hnw := Lib.hid (news_row TA.row)
                have TA := Lib.hid TA.rot2
                go_wp2_with (at_builtin; refine wpList_append_vec rfl _ _ 45 rfl 51 i0 _ 4 32 Try.underlying45 hi hz0 hz1 hz2 rfl (by omega) _ _ _ rfl TA.out _ 1 1 (GV ⟨3, r.rep, r.item⟩).toList rfl rfl hnw.out (rfind_one ⟨3, r.rep, r.item⟩) ?c3 ?c4 ?_)
                case c3 => unfold maxLen; omega
                case c4 => omega
                intro v9 w9 T9
                clear TA hnw T h1 l1 c1
                have T := rout_snoc T9.swap.drop
                clear T9
                go_wp2
                go_meet
                case rel => rw [HO3.out]; exact T.swap
            case rest =>
              clear T HO
              have T := hcut; clear hcut
              have h1 := T.row; have l1 := row_lt h1; have c1 := row_cell h1
              cases hs3 : (r.inst.status == 3)
              case false =>
                have hs33 : (r.inst.status != 3) = true := by simp [bne, hs3]
                rw [hs3, if_neg Bool.false_ne_true] at HQ
                go_wp2
                go_roundw
                case rel => exact ⟨k + 1, (o1, ld), by omega, by go_num, HQ.out, by show o1.length ≤ _; omega, by show ld.length ≤ _; omega, hdl, T.drop⟩
                case measure => simp [intOf]; omega
              case true =>
                have hs33 : (r.inst.status != 3) = false := by simp [bne, hs3]
                obtain ⟨kk, hkk, hkkl⟩ := lead_some l n k r HK.out hgi hfb hgn hs3
                have hlv : leadV l r.item n = (kk : Int) := by unfold leadV; rw [hkk]
                have hokk : l[kk]? = some l[kk] := List.getElem?_eq_getElem hkkl
                have hrm : rmark l n k r (o1, ld) = (if eqA (CV l[kk].inst.call) (CV r.inst.call) = true then o1 else o1 ++ [⟨4, r.rep, r.item⟩], if kk = k then ld ++ [k] else ld) := by
                  unfold rmark; rw [hkk]; dsimp only; rw [hokk]
                rw [hs3, if_pos rfl, hrm] at HQ
                have CD := Lib.hid (leading_any g c l r.item n w wc _ hx T)
                have fk := fun (W' : World) (hb : Below w.heap.size w W') => hx.part (P := Try.prog) (T := 36) hb hkkl 8 14 (CV l[kk].inst.call) (piece_sub (RwV_call l[kk])) rfl TCall_und rfl (by kernel_rfl)
                have FK := Lib.hid fk; clear fk hrm hkk hokk
                generalize l[kk] = x at *
                go_wp2_with fail
                refine CD.out.mono ?_; clear CD T h1 l1 c1; rintro e w7 ⟨rfl, T⟩
                rw [hlv]
                clear hlv
                obtain ⟨ld1, hld1⟩ : ∃ ld1, ld1 = if kk = k then ld ++ [k] else ld := ⟨_, rfl⟩
                rw [← hld1] at HQ
                have hd1 : ld1.length ≤ ld.length + 1 := by rw [hld1]; split <;> simp
                have hdl1 : ∀ i ∈ ld1, i < l.length := by
                  rw [hld1]
                  split
                  · intro i hi
                    rcases List.mem_append.1 hi with hi | hi
                    · exact hdl i hi
                    · rw [List.mem_singleton.1 hi]; exact hkl
                  · exact hdl
                have HDL := Lib.hid hdl1; clear hdl1
                have HL1 := Lib.hid hld1; clear hld1
                go_upto_if 79 with fail
                go_cut [6] (fun u6 wx => Sts w (fun _ => False) wx (rowR p (RwV r) :: routR u5 o1 :: leadR u6 ld1 :: R))
                case first =>
                  by_cases hkk2 : kk = k
                  · have hl1 := HL1.out; rw [if_pos hkk2] at hl1
                    have HL2 := Lib.hid hl1; clear hl1
                    have hbe : ((kk : Int) == (k : Int)) = true := by rw [beq_iff_eq]; omega
                    clear hkk2
                    have TA := T.new #[.int .i64 k] 3
                    have hnw := Lib.hid (news_row TA.row)
                    have TA := Lib.hid TA.rot3
                    go_wp2_with (at_builtin; refine wpList_append_vec rfl _ _ 61 rfl 3 i1 _ 1 8 Try.underlying61 hj hy0 hy1 hy2 rfl (by omega) _ _ _ rfl TA.out _ 1 1 (LV k).toList rfl rfl hnw.out (LV_one k) ?c3 ?c4 ?_)
                    case c3 => unfold maxLen; omega
                    case c4 => omega
                    intro v9 w9 T9
                    clear TA hnw T
                    have T := lead_snoc T9.swap.drop
                    clear T9
                    go_wp2
                    go_meet
                    case rel => rw [HL2.out]; exact T.swap.perm (.cons _ (.swap ..))
                  · have hl1 := HL1.out; rw [if_neg hkk2] at hl1
                    have HL2 := Lib.hid hl1; clear hl1
                    have hbe : ((kk : Int) == (k : Int)) = false := by rw [beq_eq_false_iff_ne]; omega
                    clear hkk2
                    go_wp2
                    go_meet
                    case rel => rw [HL2.out]; exact T
                case rest =>
                  clear T
                  have T := hcut; clear hcut
                  have h1 := T.row; have l1 := row_lt h1; have c1 := row_cell h1
                  generalize wc = w8 at *
                  have f1 := fun y => FK.out (ext w8 y) (T.ext y).below
                  simp only [loadOf, row_ext] at f1
                  go_upto_region 16 with fail
                  cases heq : eqA (CV x.inst.call) (CV r.inst.call)
                  case true =>
                    rw [heq, if_pos rfl] at HQ
                    refine wp_region_ext (by kernel_rfl) (by kernel_rfl) ?_
                    repeat (go_big_quiet_step (fail))
                    refine wpQuiet_nil ?_
                    rintro _ ⟨x9, rfl⟩
                    have T := T.ext x9
                    clear f1 FK h1 l1 c1
                    generalize ext _ x9 = w9 at *
                    have h1 := T.row; have l1 := row_lt h1; have c1 := row_cell h1
                    go_wp2
                    go_roundw
                    case rel => exact ⟨k + 1, (o1, ld1), by omega, by go_num, HQ.out, by show o1.length ≤ _; omega, by show ld1.length ≤ _; omega, HDL.out, T.drop⟩
                    case measure => simp [intOf]; omega
                  case false =>
                    rw [heq, if_neg Bool.false_ne_true] at HQ
                    refine wp_region_ext (by kernel_rfl) (by kernel_rfl) ?_
                    repeat (go_big_quiet_step (fail))
                    refine wpQuiet_nil ?_
                    rintro _ ⟨x9, rfl⟩
                    have T := T.ext x9
                    clear f1 FK h1 l1 c1
                    generalize ext _ x9 = w9 at *
                    have h1 := T.row; have l1 := row_lt h1; have c1 := row_cell h1
                    have TA := T.new (GV ⟨4, r.rep, r.item⟩) 51
                    have hnw := Lib.hid (news_row TA.row)
                    have TA := Lib.hid TA.rot2
                    go_wp2_with (at_builtin; refine wpList_append_vec rfl _ _ 45 rfl 51 i0 _ 4 32 Try.underlying45 hi hz0 hz1 hz2 rfl (by omega) _ _ _ rfl TA.out _ 1 1 (GV ⟨4, r.rep, r.item⟩).toList rfl rfl hnw.out (rfind_one ⟨4, r.rep, r.item⟩) ?c3 ?c4 ?_)
                    case c3 => unfold maxLen; omega
                    case c4 => omega
                    intro v9 w9 T9
                    clear TA hnw T h1 l1 c1
                    have T := rout_snoc T9.swap.drop
                    clear T9
                    go_wp2
                    go_roundw
                    case rel => exact ⟨k + 1, (o1 ++ [⟨4, r.rep, r.item⟩], ld1), by omega, by go_num, HQ.out, by simp; omega, by show ld1.length ≤ _; omega, HDL.out, T.swap.drop⟩
                    case measure => simp [intOf]; omega
    · obtain rfl : k = l.length := by omega
      have hrr : rrows l n = (o, ld) := hq.symm
      have hlm : rlookM l n = (List.range ld.length).foldl (fun q a => (List.range a).foldl (rtie l ld a) q) o := by unfold rlookM; rw [hrr]
      have HLM := Lib.hid hlm; clear hlm hrr hq
      obtain ⟨A6, c6, rfl⟩ := vec_shape1 T.drop
      go_wp2_with fail
      go_loopw [5, 105] (fun u5 i wr => ∃ (a : Nat) (q : List RFinding), a ≤ ld.length ∧ i = .int .i64 a ∧ q = (List.range a).foldl (fun q a => (List.range a).foldl (rtie l ld a) q) o ∧ q.length ≤ 1000 + a * 200 ∧ Sts w (fun _ => False) wr (routR u5 q :: leadR (.slice A6 ld.length c6) ld :: R)) (fun _ i _ => ld.length - (intOf i).toNat)
      case atStart => exact ⟨0, o, by omega, rfl, rfl, by omega, T⟩
      case round =>
        clear T
        obtain ⟨a, q, ha0, rfl, hq, hql, T⟩ := hrel
        by_cases hal : a < ld.length
        · obtain ⟨g6, c', hv, -, -⟩ := vec_cell LV_size T.swap (by omega) hal
          obtain ⟨rfl, -, rfl⟩ := Value.slice.inj hv
          clear hv
          have HQ := Lib.hid hq; clear hq
          go_wp2_with fail
          go_loopw [5, 11] (fun u5 i wr => ∃ (b : Nat) (q1 : List RFinding), b ≤ a ∧ i = .int .i64 b ∧ q1 = (List.range b).foldl (rtie l ld a) q ∧ q1.length ≤ 1000 + a * 200 + b ∧ Sts w (fun _ => False) wr (routR u5 q1 :: leadR (.slice (some ⟨g6, 0, none⟩) ld.length c6) ld :: R)) (fun _ i _ => a - (intOf i).toNat)
          case atStart => exact ⟨0, q, by omega, rfl, rfl, by omega, T⟩
          case round =>
            clear T
            obtain ⟨b, q1, hb0, rfl, hq1, hql1, T⟩ := hrel
            by_cases hba : b < a
            · have hbl : b < ld.length := by omega
              obtain ⟨g6', c', hv, -, hca⟩ := vec_cell LV_size T.swap (by omega) hal
              obtain ⟨hg6, -, -⟩ := Value.slice.inj hv
              injection hg6 with hg6; injection hg6 with hg6; subst hg6
              clear hv
              have hcell : wr.cell? ⟨g6, a, none⟩ = some (.int .i64 ld[a]) := by have := hca 0 _ rfl; rw [Nat.mul_one, Nat.add_zero] at this; exact this
              clear hca
              have hi1 := hdl ld[a] (List.getElem_mem hal)
              have hi2 := hdl ld[b] (List.getElem_mem hbl)
              have hoa : ld[a]? = some ld[a] := List.getElem?_eq_getElem hal
              have hob : ld[b]? = some ld[b] := List.getElem?_eq_getElem hbl
              have hstep : (List.range (b + 1)).foldl (rtie l ld a) q = rtie l ld a q1 b := by rw [List.range_succ, List.foldl_append, ← hq1]; rfl
              generalize hea : ld[a] = i1' at *
              generalize heb : ld[b] = i2' at *
              have hld := hx.load (P := Try.prog) (T := 42) TRRow_size TRRow_und rfl (by kernel_rfl) T.below rfl hi1
              rw [add_none, Nat.zero_add] at hld
              have hox : l[i1']? = some l[i1'] := List.getElem?_eq_getElem hi1
              have hoy : l[i2']? = some l[i2'] := List.getElem?_eq_getElem hi2
              have hkx := hk l[i1'] (List.getElem_mem hi1)
              have hky := hk l[i2'] (List.getElem_mem hi2)
              have hst : rtie l ld a q1 b = if rtieB l[i1'] l[i2'] = true then q1 ++ [⟨5, l[i2'].item.rep, l[i2'].item⟩] else q1 := by
                unfold rtie; rw [hoa, hob]; dsimp only; rw [hox, hoy]
              rw [hst] at hstep
              have FL := Lib.hid (fun (W' : World) (hb : Below w.heap.size w W') => hx.load (P := Try.prog) (T := 42) TRRow_size TRRow_und rfl (by kernel_rfl) hb rfl hi2)
              have HS := Lib.hid hstep
              clear hst hox hoy hoa hob hq1 hstep
              generalize l[i1'] = x at *
              generalize l[i2'] = y at *
              have T := T.new (RwV x) 42
              go_upto_region 26 with fail
              clear hld hcell
              generalize wr.heap.size = px at *
              generalize wr.alloc _ = w2 at *
              obtain ⟨g6', c', hv, -, hca⟩ := vec_cell LV_size T.drop.drop (by omega) hbl
              obtain ⟨hg6, -, -⟩ := Value.slice.inj hv
              injection hg6 with hg6; injection hg6 with hg6; subst hg6
              clear hv
              have hcell : w2.cell? ⟨g6, b, none⟩ = some (.int .i64 i2') := by have := hca 0 _ rfl; rw [Nat.mul_one, Nat.add_zero, heb] at this; exact this
              clear hca
              have hld := FL.out w2 T.below
              rw [add_none, Nat.zero_add] at hld
              have h2 := T.row; have l2 := row_lt h2; have c2 := row_cell h2
              have T := T.new (RwV y) 42
              go_upto_region 27 with fail
              clear hld hcell FL h2 l2 c2
              generalize w2.heap.size = py at *
              generalize w2.alloc _ = w3 at *
              have h1 := T.row; have l1 := row_lt h1; have c1 := row_cell h1; have h2 := T.row1; have l2 := row_lt h2; have c2 := row_cell h2
              have CC := Lib.hid (rclash_any x.inst.call.deed y.inst.call.deed (by unfold maxLen; omega) (by unfold maxLen; omega))
              have H1 := Lib.hid (rhas_any x.inst.call.deps y.item.rep y.item.num)
              have H2 := Lib.hid (rhas_any y.inst.call.deps x.item.rep x.item.num)
              go_wp2_with fail
              refine (Ans.at CC.out T).mono ?_; clear T h1 l1 c1 h2 l2 c2 CC; rintro e w4 ⟨rfl, T⟩
              have h1 := T.row; have l1 := row_lt h1; have c1 := row_cell h1; have h2 := T.row1; have l2 := row_lt h2; have c2 := row_cell h2
              cases hcl : clashB x.inst.call.deed y.inst.call.deed
              case false =>
                have HS2 := HS.out; rw [if_neg (by unfold rtieB; simp [hcl])] at HS2
                have HS3 := Lib.hid HS2; clear HS2
                go_wp2
                go_roundw
                case rel => exact ⟨b + 1, q1, by omega, by go_num, HS3.out.symm, by omega, T.drop.drop⟩
                case measure => simp [intOf]; omega
              case true =>
                go_wp2_with fail
                refine (Ans.at H1.out T).mono ?_; clear T h1 l1 c1 h2 l2 c2 H1; rintro e w5 ⟨rfl, T⟩
                have h1 := T.row; have l1 := row_lt h1; have c1 := row_cell h1; have h2 := T.row1; have l2 := row_lt h2; have c2 := row_cell h2
                cases hh1 : hasD x.inst.call.deps y.item.rep y.item.num
                case true =>
                  have HS2 := HS.out; rw [if_neg (by unfold rtieB; simp [hcl, hh1])] at HS2
                  have HS3 := Lib.hid HS2; clear HS2
                  go_wp2
                  go_roundw
                  case rel => exact ⟨b + 1, q1, by omega, by go_num, HS3.out.symm, by omega, T.drop.drop⟩
                  case measure => simp [intOf]; omega
                case false =>
                  go_wp2_with fail
                  refine (Ans.at H2.out T).mono ?_; clear T h1 l1 c1 h2 l2 c2 H2; rintro e w6 ⟨rfl, T⟩
                  have h1 := T.row; have l1 := row_lt h1; have c1 := row_cell h1; have h2 := T.row1; have l2 := row_lt h2; have c2 := row_cell h2
                  cases hh2 : hasD y.inst.call.deps x.item.rep x.item.num
                  case true =>
                    have HS2 := HS.out; rw [if_neg (by unfold rtieB; simp [hcl, hh1, hh2])] at HS2
                    have HS3 := Lib.hid HS2; clear HS2
                    go_wp2
                    go_roundw
                    case rel => exact ⟨b + 1, q1, by omega, by go_num, HS3.out.symm, by omega, T.drop.drop⟩
                    case measure => simp [intOf]; omega
                  case false =>
                    have HS2 := HS.out; rw [if_pos (by unfold rtieB; simp [hcl, hh1, hh2])] at HS2
                    have HS3 := Lib.hid HS2; clear HS2 HS
                    have TA := T.new (GV ⟨5, y.item.rep, y.item⟩) 51
                    have hnw := Lib.hid (news_row TA.row)
                    have TA := Lib.hid TA.rot3
                    go_wp2_with (at_builtin; refine wpList_append_vec rfl _ _ 45 rfl 51 i0 _ 4 32 Try.underlying45 hi hz0 hz1 hz2 rfl (by omega) _ _ _ rfl TA.out _ 1 1 (GV ⟨5, y.item.rep, y.item⟩).toList rfl rfl hnw.out (rfind_one ⟨5, y.item.rep, y.item⟩) ?c3 ?c4 ?_)
                    case c3 => unfold maxLen; omega
                    case c4 => omega
                    intro v9 w9 T9
                    clear TA hnw T h1 l1 c1 h2 l2 c2
                    have T := rout_snoc T9.swap.drop
                    clear T9
                    go_wp2
                    go_roundw
                    case rel => exact ⟨b + 1, q1 ++ [⟨5, y.item.rep, y.item⟩], by omega, by go_num, HS3.out.symm, by simp; omega, T.swap.drop.swap.drop⟩
                    case measure => simp [intOf]; omega
            · obtain rfl : b = a := by omega
              have hq3 : q1 = (List.range (b + 1)).foldl (fun q a => (List.range a).foldl (rtie l ld a) q) o := by
                rw [List.range_succ, List.foldl_append, ← HQ.out]; exact hq1
              have HQ3 := Lib.hid hq3; clear hq3 hq1 HQ
              go_wp2
              go_roundw
              case rel => exact ⟨b + 1, q1, by omega, by go_num, HQ3.out, by omega, T⟩
              case measure => simp [intOf]; omega
        · obtain rfl : a = ld.length := by omega
          have hqq : rlookM l n = q := by rw [HLM.out]; exact hq.symm
          have HQ := Lib.hid hqq; clear hqq hq HLM
          go_wp2
          try simp only [Exit.inBlock, Exit.then]
          go_ret
          exact ⟨_, rfl, by rw [HQ.out]; exact T.swap.drop⟩
end Go.Proofs.Ytahajjfbkdocaaa
