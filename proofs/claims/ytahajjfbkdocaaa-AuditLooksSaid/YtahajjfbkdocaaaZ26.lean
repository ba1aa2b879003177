/- Several texts in one. -/
import Derived.Test.YtahajjfbkdocaaaZ22
import Derived.Test.YtahajjfbkdocaaaZ24
import Derived.Test.YtahajjfbkdocaaaZ25
/- Layer 24: what Look tells is what the document says. -/
namespace Go.Proofs.Ytahajjfbkdocaaa
open Go.RowKit
set_option linter.unusedVariables false
attribute [local go_sem] row_alloc row_drew row_drewN row_ext row_setCell row_setRow size_ext setRow_alloc setRow_drew loadOf storeOf piece_lit loadVal_at storeVal_at allOne_lit buildOf buildRes_some
attribute [local go_sem high] cell_alloc frozen_alloc setCell_alloc cell_ext frozen_ext cell_setRow frozen_setRow
attribute [local go_sem ↓] TDeed_ld0 TDeed_st0 TDeed_fd0 TDeed_bd0
attribute [local go_sem] TDeed_size TDeed_one TDeed_piece TDeed_c0 TDeed_c1 TDeed_c2 TDeed_c3 TDeed_c4 TDeed_c5 TDeed_set_kind TDeed_set_key TDeed_set_val TDeed_set_ver TDeed_set_ses TDeed_set_num TDeed_ld TDeed_st TDeed_f_kind TDeed_f_key TDeed_f_val TDeed_f_ver TDeed_f_ses TDeed_f_num TDeed_bd TDeed_fl TDeed_fl_kind TDeed_fl_key TDeed_fl_val TDeed_fl_ver TDeed_fl_ses TDeed_fl_num
attribute [local go_sem high] TDeed_eql TDeed_neq
attribute [local go_sem ↓] index_deps0 load_deps0 store_deps0
attribute [local go_sem] DV_piece DV_size DV_one index_deps load_deps store_deps
attribute [local go_sem high] TDeps_eql TDeps_neq
attribute [local go_sem ↓] TCall_ld0 TCall_st0 TCall_fd0 TCall_bd0
attribute [local go_sem] TCall_size TCall_one TCall_piece TCall_c0 TCall_c1 TCall_c2 TCall_c3 TCall_c4 TCall_c5 TCall_c6 TCall_c7 TCall_c8 TCall_c9 TCall_c10 TCall_c11 TCall_c12 TCall_c13 TCall_p_deed TCall_put_deed TCall_p_deps TCall_put_deps TCall_set_seq TCall_ld TCall_st TCall_f_deed TCall_f_deps TCall_f_seq TCall_bd TCall_fl TCall_fl_deed TCall_fl_deps TCall_fl_seq
attribute [local go_sem high] TCall_eql TCall_neq
attribute [local go_sem ↓] TItem_ld0 TItem_st0 TItem_fd0 TItem_bd0
attribute [local go_sem] TItem_size TItem_one TItem_piece TItem_c0 TItem_c1 TItem_set_rep TItem_set_num TItem_ld TItem_st TItem_f_rep TItem_f_num TItem_bd TItem_fl TItem_fl_rep TItem_fl_num
attribute [local go_sem high] TItem_eql TItem_neq
attribute [local go_sem ↓] TBallot_ld0 TBallot_st0 TBallot_fd0 TBallot_bd0
attribute [local go_sem] TBallot_size TBallot_one TBallot_piece TBallot_c0 TBallot_c1 TBallot_set_round TBallot_set_rep TBallot_ld TBallot_st TBallot_f_round TBallot_f_rep TBallot_bd TBallot_fl TBallot_fl_round TBallot_fl_rep
attribute [local go_sem high] TBallot_eql TBallot_neq
attribute [local go_sem ↓] TInst_ld0 TInst_st0 TInst_fd0 TInst_bd0
attribute [local go_sem] TInst_size TInst_one TInst_piece TInst_c0 TInst_c1 TInst_c2 TInst_c3 TInst_c4 TInst_c5 TInst_c6 TInst_c7 TInst_c8 TInst_c9 TInst_c10 TInst_c11 TInst_c12 TInst_c13 TInst_c14 TInst_c15 TInst_c16 TInst_c17 TInst_c18 TInst_c19 TInst_p_prom TInst_put_prom TInst_p_vote TInst_put_vote TInst_set_status TInst_p_call TInst_put_call TInst_set_same TInst_ld TInst_st TInst_f_prom TInst_f_vote TInst_f_status TInst_f_call TInst_f_same TInst_bd TInst_fl TInst_fl_prom TInst_fl_vote TInst_fl_status TInst_fl_call TInst_fl_same
attribute [local go_sem high] TInst_eql TInst_neq
attribute [local go_sem ↓] TEntry_ld0 TEntry_st0 TEntry_fd0 TEntry_bd0
attribute [local go_sem] TEntry_size TEntry_one TEntry_piece TEntry_c0 TEntry_c1 TEntry_c2 TEntry_c3 TEntry_c4 TEntry_c5 TEntry_c6 TEntry_c7 TEntry_c8 TEntry_c9 TEntry_c10 TEntry_c11 TEntry_c12 TEntry_c13 TEntry_c14 TEntry_c15 TEntry_c16 TEntry_c17 TEntry_c18 TEntry_c19 TEntry_c20 TEntry_c21 TEntry_p_item TEntry_put_item TEntry_p_inst TEntry_put_inst TEntry_ld TEntry_st TEntry_f_item TEntry_f_inst TEntry_bd TEntry_fl TEntry_fl_item TEntry_fl_inst
attribute [local go_sem high] TEntry_eql TEntry_neq
attribute [local go_sem ↓] TRRow_ld0 TRRow_st0 TRRow_fd0 TRRow_bd0
attribute [local go_sem] TRRow_size TRRow_one TRRow_piece TRRow_c0 TRRow_c1 TRRow_c2 TRRow_c3 TRRow_c4 TRRow_c5 TRRow_c6 TRRow_c7 TRRow_c8 TRRow_c9 TRRow_c10 TRRow_c11 TRRow_c12 TRRow_c13 TRRow_c14 TRRow_c15 TRRow_c16 TRRow_c17 TRRow_c18 TRRow_c19 TRRow_c20 TRRow_c21 TRRow_c22 TRRow_set_rep TRRow_p_item TRRow_put_item TRRow_p_inst TRRow_put_inst TRRow_ld TRRow_st TRRow_f_rep TRRow_f_item TRRow_f_inst TRRow_bd TRRow_fl TRRow_fl_rep TRRow_fl_item TRRow_fl_inst
attribute [local go_sem high] TRRow_eql TRRow_neq
attribute [local go_sem ↓] TFinding_ld0 TFinding_st0 TFinding_fd0 TFinding_bd0
attribute [local go_sem] TFinding_size TFinding_one TFinding_piece TFinding_c0 TFinding_c1 TFinding_c2 TFinding_c3 TFinding_set_kind TFinding_set_rep TFinding_p_item TFinding_put_item TFinding_ld TFinding_st TFinding_f_kind TFinding_f_rep TFinding_f_item TFinding_bd TFinding_fl TFinding_fl_kind TFinding_fl_rep TFinding_fl_item
attribute [local go_sem high] TFinding_eql TFinding_neq
attribute [local go_sem ↓] TRFinding_ld0 TRFinding_st0 TRFinding_fd0 TRFinding_bd0
attribute [local go_sem] TRFinding_size TRFinding_one TRFinding_piece TRFinding_c0 TRFinding_c1 TRFinding_c2 TRFinding_c3 TRFinding_set_kind TRFinding_set_rep TRFinding_p_item TRFinding_put_item TRFinding_ld TRFinding_st TRFinding_f_kind TRFinding_f_rep TRFinding_f_item TRFinding_bd TRFinding_fl TRFinding_fl_kind TRFinding_fl_rep TRFinding_fl_item
attribute [local go_sem high] TRFinding_eql TRFinding_neq
theorem rrow_slice0 (len : Nat) (parts : Array (Nat × Value)) : Instr.buildSlice 25 len parts = buildSem 25 len parts := rfl
theorem rrow_slice1 (w : World) (x : RRow) : (buildSem 25 1 #[(0, .agg (RwV x))]).run Try.prog w = .ok (.slice (some ⟨w.heap.size, 0, none⟩) 1 1) (w.alloc (.cells (RwV x) 42)) :=
  build_slice1 Try.underlying25 (z := .agg #[.int .i64 0, .int .i64 0, .int .i64 0, .int .i64 0, .int .i64 0, .int .i64 0, .int .i64 0, .int .i64 0, .int .i64 0, .string { data := #[] }, .string { data := #[] }, .int .i64 0, .int .i64 0, .int .i64 0, .int .i64 0, .int .i64 0, .int .i64 0, .int .i64 0, .int .i64 0, .int .i64 0, .int .i64 0, .int .i64 0, .bool false]) (n := 23) (by kernel_rfl) (by omega) w (TRRow_size x) (by omega)
attribute [local go_sem ↓] rrow_slice0
attribute [local go_sem] rrow_slice1
theorem rrow_info : (Try.prog.info? 42).map (fun i => (i.zero, i.size, i.bytes)) = some (some (.agg (RwV noRRow)), 23, 200) := by kernel_rfl
theorem rrow_i : ∃ i, Try.prog.info? 42 = some i ∧ i.zero = some (.agg (RwV noRRow)) ∧ i.size = 23 ∧ i.bytes = 200 := by
  have h := rrow_info
  cases hi : Try.prog.info? 42 with
  | none => rw [hi] at h; simp at h
  | some i => rw [hi] at h; simp at h; exact ⟨i, rfl, h.1, h.2.1, h.2.2⟩
theorem rrow_one (x : RRow) : ∀ u ∈ (RwV x).toList, u.oneCell' = true := by simp [RwV, Value.oneCell']
def rowsR (v : Value) (o : List RRow) : Res := vecR 42 23 v o.length (vl RwV o)
theorem rows_snoc {v : Value} {o : List RRow} {x : RRow} {w W : World} {F : Nat → Prop} {R : List Res} (T : Sts w F W (vecR 42 23 v (o.length + 1) (vl RwV o ++ (RwV x).toList) :: R)) : Sts w F W (rowsR v (o ++ [x]) :: R) := by
  unfold rowsR
  rw [vl_snoc, List.length_append]
  exact T
def rowS (ds : List Dump) (rs : List RRow) (i : Nat) : List RRow := match ds[i]? with | none => rs | some d => rs ++ d.l.map (mkRow i)
theorem rowS_from : ∀ (ds pre : List Dump) (rs : List RRow), (List.range' pre.length ds.length).foldl (rowS (pre ++ ds)) rs = rs ++ rowsFrom pre.length ds
  | [], pre, rs => by show rs = rs ++ []; simp
  | d :: ds, pre, rs => by
    have e1 : rowS (pre ++ d :: ds) rs pre.length = rs ++ d.l.map (mkRow pre.length) := by
      unfold rowS; rw [List.getElem?_append_right (Nat.le_refl _), Nat.sub_self]; rfl
    have e2 := rowS_from ds (pre ++ [d]) (rs ++ d.l.map (mkRow pre.length))
    rw [List.length_append, List.length_singleton, List.append_assoc] at e2
    rw [List.length_cons, List.range'_succ, List.foldl_cons, e1]
    refine Eq.trans e2 ?_
    show _ = rs ++ (_ ++ rowsFrom (pre.length + 1) ds)
    rw [List.append_assoc]
theorem rowS_all (ds : List Dump) : (List.range ds.length).foldl (rowS ds) [] = rowsFrom 0 ds := by
  have := rowS_from ds [] []
  rw [List.range_eq_range']
  exact this
theorem rows_mem : ∀ (ds : List Dump) (i : Nat) (x : RRow), x ∈ rowsFrom i ds → ∃ d ∈ ds, ∃ e ∈ d.l, x.inst = e.inst
  | [], _, x, h => by cases h
  | d :: ds, i, x, h => by
    rcases List.mem_append.1 (show x ∈ d.l.map (mkRow i) ++ rowsFrom (i + 1) ds from h) with h | h
    · obtain ⟨e, he, rfl⟩ := List.mem_map.1 h
      exact ⟨d, List.mem_cons_self .., e, he, rfl⟩
    · obtain ⟨d', hd, e, he, h2⟩ := rows_mem ds (i + 1) x h
      exact ⟨d', List.mem_cons_of_mem _ hd, e, he, h2⟩
set_option maxHeartbeats 4000000 in
set_option maxRecDepth 20000 in
theorem rlook_nil (n : Int) (c : Nat) (w W : World) (T : Sts w (fun _ => False) W []) :
    Calls Try.prog 9 #[.int .i64 n, .slice none 0 c] W fun e W' => ∃ v, e = .returned v ∧ Sts w (fun _ => False) W' [routR v (rlookM [] n)] := by
  go_enter Try.func9, Try.ntmps9
  go_wp2_with fail
  go_loopw [5, 6, 16] (fun u5 u6 i wr => u5 = .slice none 0 0 ∧ u6 = .slice none 0 0 ∧ i = .int .i64 0 ∧ Sts w (fun _ => False) wr []) (fun _ _ _ _ => 0)
  case atStart => exact ⟨rfl, rfl, rfl, T⟩
  case round =>
    clear T
    obtain ⟨rfl, rfl, rfl, T⟩ := hrel
    go_wp2_with fail
    go_loopw [5, 105] (fun u5 i wr => u5 = .slice none 0 0 ∧ i = .int .i64 0 ∧ Sts w (fun _ => False) wr []) (fun _ _ _ => 0)
    case atStart => exact ⟨rfl, rfl, T⟩
    case round =>
      clear T
      obtain ⟨rfl, rfl, T⟩ := hrel
      go_wp2
      try simp only [Exit.inBlock, Exit.then]
      go_ret
      exact ⟨_, rfl, T.vecNil 51 4⟩
set_option maxHeartbeats 16000000 in
set_option maxRecDepth 10000 in
theorem law_looks (n : Int) (A : Option Addr) (c : Nat) (ds : List Dump) (W : World) (hn : Fits n) (hx : DumpsIn W A ds) (hf : TextsFit ds) (hi : ∀ d ∈ ds, ∀ e ∈ d.l, InI e.item) :
    Calls Try.prog 3 #[.int .i64 n, .slice A ds.length c] W fun e W' => e = .returned (.bool true) ∧ Below W.heap.size W W' := by
  have T := Sts.start0 W
  obtain ⟨hn1, hn2⟩ := hn
  go_enter Try.func3, Try.ntmps3
  go_wp2_with fail
  refine (Ans.at alive_any T).mono ?_; clear T; rintro e w1 ⟨rfl, T⟩
  go_wp2_with fail
  refine (great_any A c ds W w1 [] hx hf T).mono ?_; clear T; rintro e w2 ⟨rfl, T⟩
  cases hg : greatB ds
  case true =>
    go_wp2
    go_ret
    exact ⟨rfl, T.below⟩
  case false =>
    obtain ⟨hs, h7⟩ := small_of hg
    by_cases hn7 : 7 < n
    · go_wp2
      go_ret
      exact ⟨rfl, T.below⟩
    · have hok : ∀ d ∈ ds, (∀ e ∈ d.l, Clean e) ∧ d.l.length ≤ 20 := fun d hd => ⟨fun e he => ⟨hi d hd e he, (hs d hd).2 e he⟩, (hs d hd).1⟩
      have hdl := hx.rows.len
      obtain ⟨i0, hi0, hz0, hz1, hz2⟩ := rrow_i
      have HS := Lib.hid hs
      have HOK := Lib.hid hok
      clear hf hi hs hg hok
      have T := T.vecNil 42 23
      go_wp2_with fail
      go_loopw [5, 23] (fun u5 i wr => ∃ (k : Nat) (rs : List RRow), k ≤ ds.length ∧ i = .int .i64 k ∧ rs = (List.range k).foldl (rowS ds) [] ∧ rs.length ≤ 20 * k ∧ Sts W (fun _ => False) wr [rowsR u5 rs]) (fun _ i _ => ds.length - (intOf i).toNat)
      case atStart => exact ⟨0, [], by omega, rfl, rfl, by simp, T⟩
      case round =>
        clear T
        obtain ⟨k, rs, hk0, rfl, hq, hrl, T⟩ := hrel
        have HQ := Lib.hid hq; clear hq
        by_cases hkl : k < ds.length
        · cases A with
          | none => have := hx.rows.nil rfl; subst this; simp at hkl
          | some a =>
            have hld := hx.load T.below hkl
            have hdx := hx.each ds[k] (List.getElem_mem hkl)
            have h20 := (HS.out ds[k] (List.getElem_mem hkl)).1
            have hox : ds[k]? = some ds[k] := List.getElem?_eq_getElem hkl
            have hrw : rowS ds rs k = rs ++ ds[k].l.map (mkRow k) := by unfold rowS; rw [hox]
            have HRW := Lib.hid hrw; clear hrw hox
            generalize ds[k] = d at *
            obtain ⟨dA, dc, dl⟩ := d
            dsimp only at *
            have hdl2 := hdx.len
            go_wp2_with fail
            clear hld
            go_loopw [5, 30] (fun u5 i wi => ∃ (j : Nat) (r1 : List RRow), j ≤ dl.length ∧ i = .int .i64 j ∧ r1 = rs ++ (dl.take j).map (mkRow k) ∧ r1.length ≤ 20 * k + j ∧ Sts W (fun _ => False) wi [rowsR u5 r1]) (fun _ i _ => dl.length - (intOf i).toNat)
            case atStart => exact ⟨0, rs, by omega, rfl, by simp, by omega, T⟩
            case round =>
              clear T
              obtain ⟨j, r1, hj0, rfl, hq1, hrl1, T⟩ := hrel
              have HQ1 := Lib.hid hq1; clear hq1
              by_cases hjl : j < dl.length
              · cases dA with
                | none => have := hdx.nil rfl; subst this; simp at hjl
                | some b =>
                  have hld := hdx.load (P := Try.prog) (T := 40) TEntry_size TEntry_und rfl (by kernel_rfl) T.below rfl hjl
                  have hoj : dl[j]? = some dl[j] := List.getElem?_eq_getElem hjl
                  have hst : r1 ++ [⟨(k : Int), dl[j].item, dl[j].inst⟩] = rs ++ (dl.take (j + 1)).map (mkRow k) := by
                    rw [List.take_add_one, hoj, List.map_append, ← List.append_assoc, ← HQ1.out]; rfl
                  have HST := Lib.hid hst; clear hst hoj HQ1
                  generalize dl[j] = x at *
                  have T := T.new (AV x) 40
                  go_upto_region 12 with fail
                  clear hld
                  generalize wr.heap.size = p at *
                  generalize wr.alloc _ = w3 at *
                  have h1 := T.row; have l1 := row_lt h1; have c1 := row_cell h1
                  have TA := T.new (RwV ⟨(k : Int), x.item, x.inst⟩) 42
                  have hnw := Lib.hid (news_row TA.row)
                  have TA := Lib.hid TA.rot2
                  go_wp2_with (at_builtin; refine wpList_append_vec rfl _ _ 25 rfl 42 i0 _ 23 200 Try.underlying25 hi0 hz0 hz1 hz2 rfl (by omega) _ _ _ rfl TA.out _ 1 1 (RwV ⟨(k : Int), x.item, x.inst⟩).toList rfl rfl hnw.out (rrow_one _) ?c3 ?c4 ?_)
                  case c3 => unfold maxLen; omega
                  case c4 => omega
                  intro v9 w9 T9
                  clear TA hnw T h1 l1 c1
                  have T := rows_snoc T9.swap.drop
                  clear T9
                  go_wp2
                  go_roundw
                  case rel => exact ⟨j + 1, r1 ++ [⟨(k : Int), x.item, x.inst⟩], by omega, by go_num, HST.out, by simp; omega, T.swap.drop⟩
                  case measure => simp [intOf]; omega
              · obtain rfl : j = dl.length := by omega
                have hst : r1 = (List.range (k + 1)).foldl (rowS ds) [] := by
                  rw [List.range_succ, List.foldl_append, ← HQ.out]
                  show r1 = rowS ds rs k
                  rw [HRW.out, HQ1.out, List.take_length]
                have HST := Lib.hid hst; clear hst HQ1 HRW HQ
                go_wp2
                go_roundw
                case rel => exact ⟨k + 1, r1, by omega, by go_num, HST.out, by omega, T⟩
                case measure => simp [intOf]; omega
        · obtain rfl : k = ds.length := by omega
          have hrs : rs = rowsFrom 0 ds := by rw [HQ.out, rowS_all]
          have hsame := look_same n (by omega) ds
          rw [← hrs] at hsame
          have hkeys : ∀ x ∈ rs, x.inst.call.deed.key.size ≤ 1000 := fun x hx => by
            rw [hrs] at hx
            obtain ⟨d, hd, e, he, h2⟩ := rows_mem ds 0 x hx
            rw [h2]; exact (HS.out d hd).2 e he
          have C1 := Lib.hid (look_at n A c ds (hx.later T.below) HOK.out (by omega) T)
          clear HQ hrs HS HOK
          go_wp2_with fail
          refine C1.out.mono ?_
          clear C1 T; rintro e w3 ⟨v1, rfl, T⟩
          obtain ⟨A1, c1, rfl⟩ := list_shape T
          obtain ⟨A2, c2, hv, hrow, -, hA2⟩ := vec_rows TRRow_size T.drop (by omega) (by omega)
          subst hv
          have T0 := T
          have C2 : Calls Try.prog 9 #[.int .i64 n, .slice A2 rs.length c2] w3 fun e W' => ∃ v, e = .returned v ∧ Sts W (fun _ => False) W' (routR v (rlookM rs n) :: [listR (lookM n ds) (.slice A1 (lookM n ds).list.length c1), rowsR (.slice A2 rs.length c2) rs]) := by
            cases A2 with
            | none =>
              have h0 := hrow.nil rfl
              subst h0
              refine (rlook_nil n c2 w3 w3 (Sts.start0 w3)).mono ?_
              rintro e W' ⟨v, he, h⟩
              exact ⟨v, he, T.after h⟩
            | some q9 =>
              obtain ⟨g9, rfl⟩ := hA2 q9 rfl
              refine (rlookT n g9 c2 rs w3 w3 [] hrow (by omega) hkeys (Sts.start0 w3)).mono ?_
              rintro e W' ⟨v, he, h⟩
              exact ⟨v, he, T.after h⟩
          have C2 := Lib.hid C2
          clear T T0 hrow hA2 hkeys
          go_wp2_with fail
          refine C2.out.mono ?_
          clear C2; rintro e w4 ⟨v2, rfl, T⟩
          rw [hsame] at T
          have T := T.swap
          unfold listR at T
          generalize (lookM n ds).list = L at *
          have T := T.perm (.swap ..)
          obtain ⟨B2, d2, rfl⟩ := vec_shape1 T
          rw [List.length_map] at *
          clear hsame
          have hLl : L.length ≤ 9223372036854775807 := by
            rcases T.drop.vec.2 with ⟨-, h⟩ | ⟨g, cap, cur, -, _, hg, hn, hm, _⟩
            · omega
            · unfold maxLen at hm; omega
          go_wp2_with fail
          go_loopw [58] (fun i wr => ∃ k : Nat, k ≤ L.length ∧ i = .int .i64 k ∧ Sts W (fun _ => False) wr [routR (.slice B2 L.length d2) (L.map conv), vecR 49 4 (.slice A1 L.length c1) L.length (vl FV L), rowsR (.slice A2 rs.length c2) rs]) (fun i _ => L.length - (intOf i).toNat)
          case atStart => exact ⟨0, by omega, rfl, T⟩
          case round =>
            clear T
            obtain ⟨k, hk0, rfl, T⟩ := hrel
            by_cases hkl : k < L.length
            · have hkm : k < (L.map conv).length := by rw [List.length_map]; exact hkl
              obtain ⟨A', c', hv, hr1, -, hA'⟩ := vec_rows TFinding_size T.drop (by omega) hLl
              obtain ⟨rfl, -, -⟩ := Value.slice.inj hv
              clear hv
              obtain ⟨B', d', hv, hr2, -, hB'⟩ := vec_rows (l := L.map conv) TRFinding_size T (by omega) (by rw [List.length_map]; exact hLl)
              obtain ⟨rfl, -, -⟩ := Value.slice.inj hv
              clear hv
              cases A1 with
              | none => have := hr1.nil rfl; rw [this] at hkl; simp at hkl
              | some q1 =>
                cases B2 with
                | none => have := hr2.nil rfl; rw [this] at hkm; simp at hkm
                | some q2 =>
                  obtain ⟨ga, rfl⟩ := hA' q1 rfl
                  obtain ⟨gb, rfl⟩ := hB' q2 rfl
                  have f1 := fun y => hr1.one (ext_below wr y) hkl 0 (.int .i64 L[k].kind) rfl
                  have f2 := fun y => hr1.one (ext_below wr y) hkl 1 (.int .i64 L[k].rep) rfl
                  have f3 := fun y => hr1.part (P := Try.prog) (T := 28) (ext_below wr y) hkl 2 2 (IV L[k].item) (fun i v h => by match i with | 0 => exact h | 1 => exact h | (i + 2) => cases h) rfl TItem_und rfl (by kernel_rfl)
                  have g1 := fun y => hr2.one (ext_below wr y) hkm 0 (.int .i64 L[k].kind) (by rw [List.getElem_map]; rfl)
                  have g2 := fun y => hr2.one (ext_below wr y) hkm 1 (.int .i64 L[k].rep) (by rw [List.getElem_map]; rfl)
                  have g3 := fun y => hr2.part (P := Try.prog) (T := 28) (ext_below wr y) hkm 2 2 (IV L[k].item) (fun i v h => by rw [List.getElem_map]; match i with | 0 => exact h | 1 => exact h | (i + 2) => cases h) rfl TItem_und rfl (by kernel_rfl)
                  generalize L[k] = x at *
                  simp only [Nat.add_zero] at f1 g1
                  simp only [loadOf, row_ext] at f3 g3
                  have he : eqA (IV x.item) (IV x.item) = true := eqA_refl _
                  clear hr1 hr2 hA' hB'
                  go_upto_region 21 with fail
                  refine wp_region_ext (by kernel_rfl) (by kernel_rfl) ?_
                  repeat (go_big_quiet_step (fail))
                  refine wpQuiet_nil ?_
                  rintro _ ⟨x9, rfl⟩
                  have T := T.ext x9
                  clear f1 f2 f3 g1 g2 g3
                  generalize ext _ x9 = w9 at *
                  go_wp2
                  go_roundw
                  case rel => exact ⟨k + 1, by omega, by go_num, T⟩
                  case measure => simp [intOf]; omega
            · obtain rfl : k = L.length := by omega
              go_wp2
              try simp only [Exit.inBlock, Exit.then]
              go_ret
              exact ⟨rfl, T.below⟩
end Go.Proofs.Ytahajjfbkdocaaa
