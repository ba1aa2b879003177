/- Several texts in one. -/
import Derived.Test.YtahajjfbkdocaaaZ13
import Derived.Test.YtahajjfbkdocaaaZ2
/- Layer 24: one replica's dump. -/
namespace Go.Proofs.Ytahajjfbkdocaaa
open Go.RowKit
set_option linter.unusedVariables false
attribute [local go_sem] row_alloc row_drew row_drewN row_ext row_setCell row_setRow size_ext setRow_alloc setRow_drew loadOf storeOf piece_lit loadVal_at storeVal_at allOne_lit buildOf buildRes_some
attribute [local go_sem high] cell_alloc frozen_alloc setCell_alloc cell_ext frozen_ext cell_setRow frozen_setRow
attribute [local go_sem ↓] TDeed_ld0 TDeed_st0 TDeed_fd0 TDeed_bd0
attribute [local go_sem] TDeed_size TDeed_one TDeed_piece TDeed_c0 TDeed_c1 TDeed_c2 TDeed_c3 TDeed_c4 TDeed_c5 TDeed_set_kind TDeed_set_key TDeed_set_val TDeed_set_ver TDeed_set_ses TDeed_set_num TDeed_ld TDeed_st TDeed_f_kind TDeed_f_key TDeed_f_val TDeed_f_ver TDeed_f_ses TDeed_f_num TDeed_bd TDeed_fl TDeed_fl_kind TDeed_fl_key TDeed_fl_val TDeed_fl_ver TDeed_fl_ses TDeed_fl_num
attribute [local go_sem high] TDeed_eql TDeed_neq
attribute [local go_sem ↓] index_deps0 load_deps0 store_deps0
attribute [local go_sem] DV_piece DV_size DV_one index_deps load_deps store_deps
attribute [local go_sem high] TDeps_eql TDeps_neq
attribute [local go_sem ↓] TCall_ld0 TCall_st0 TCall_fd0 TCall_bd0
attribute [local go_sem] TCall_size TCall_one TCall_piece TCall_c0 TCall_c1 TCall_c2 TCall_c3 TCall_c4 TCall_c5 TCall_c6 TCall_c7 TCall_c8 TCall_c9 TCall_c10 TCall_c11 TCall_c12 TCall_c13 TCall_p_deed TCall_put_deed TCall_p_deps TCall_put_deps TCall_set_seq TCall_ld TCall_st TCall_f_deed TCall_f_deps TCall_f_seq TCall_bd TCall_fl TCall_fl_deed TCall_fl_deps TCall_fl_seq
attribute [local go_sem high] TCall_eql TCall_neq
attribute [local go_sem ↓] TItem_ld0 TItem_st0 TItem_fd0 TItem_bd0
attribute [local go_sem] TItem_size TItem_one TItem_piece TItem_c0 TItem_c1 TItem_set_rep TItem_set_num TItem_ld TItem_st TItem_f_rep TItem_f_num TItem_bd TItem_fl TItem_fl_rep TItem_fl_num
attribute [local go_sem high] TItem_eql TItem_neq
attribute [local go_sem ↓] TBallot_ld0 TBallot_st0 TBallot_fd0 TBallot_bd0
attribute [local go_sem] TBallot_size TBallot_one TBallot_piece TBallot_c0 TBallot_c1 TBallot_set_round TBallot_set_rep TBallot_ld TBallot_st TBallot_f_round TBallot_f_rep TBallot_bd TBallot_fl TBallot_fl_round TBallot_fl_rep
attribute [local go_sem high] TBallot_eql TBallot_neq
attribute [local go_sem ↓] TInst_ld0 TInst_st0 TInst_fd0 TInst_bd0
attribute [local go_sem] TInst_size TInst_one TInst_piece TInst_c0 TInst_c1 TInst_c2 TInst_c3 TInst_c4 TInst_c5 TInst_c6 TInst_c7 TInst_c8 TInst_c9 TInst_c10 TInst_c11 TInst_c12 TInst_c13 TInst_c14 TInst_c15 TInst_c16 TInst_c17 TInst_c18 TInst_c19 TInst_p_prom TInst_put_prom TInst_p_vote TInst_put_vote TInst_set_status TInst_p_call TInst_put_call TInst_set_same TInst_ld TInst_st TInst_f_prom TInst_f_vote TInst_f_status TInst_f_call TInst_f_same TInst_bd TInst_fl TInst_fl_prom TInst_fl_vote TInst_fl_status TInst_fl_call TInst_fl_same
attribute [local go_sem high] TInst_eql TInst_neq
attribute [local go_sem ↓] TEntry_ld0 TEntry_st0 TEntry_fd0 TEntry_bd0
attribute [local go_sem] TEntry_size TEntry_one TEntry_piece TEntry_c0 TEntry_c1 TEntry_c2 TEntry_c3 TEntry_c4 TEntry_c5 TEntry_c6 TEntry_c7 TEntry_c8 TEntry_c9 TEntry_c10 TEntry_c11 TEntry_c12 TEntry_c13 TEntry_c14 TEntry_c15 TEntry_c16 TEntry_c17 TEntry_c18 TEntry_c19 TEntry_c20 TEntry_c21 TEntry_p_item TEntry_put_item TEntry_p_inst TEntry_put_inst TEntry_ld TEntry_st TEntry_f_item TEntry_f_inst TEntry_bd TEntry_fl TEntry_fl_item TEntry_fl_inst
attribute [local go_sem high] TEntry_eql TEntry_neq
attribute [local go_sem ↓] TFinding_ld0 TFinding_st0 TFinding_fd0 TFinding_bd0
attribute [local go_sem] TFinding_size TFinding_one TFinding_piece TFinding_c0 TFinding_c1 TFinding_c2 TFinding_c3 TFinding_set_kind TFinding_set_rep TFinding_p_item TFinding_put_item TFinding_ld TFinding_st TFinding_f_kind TFinding_f_rep TFinding_f_item TFinding_bd TFinding_fl TFinding_fl_kind TFinding_fl_rep TFinding_fl_item
attribute [local go_sem high] TFinding_eql TFinding_neq
attribute [local go_sem] cellsR_0 cellsR_1 cellsR_2 cellsR_3
abbrev Seen := Item → Option Unit
noncomputable def dstep (rep : Int) (q : Rep × Seen) (e : Entry) : Rep × Seen :=
  if ((q.2 e.item).isSome || !goodI e.item q.1.n) = true then (tellM q.1 1 rep e.item, q.2) else (entryM q.1 rep e, putF q.2 e.item ())
noncomputable def dumpQ (s : Rep) (rep : Int) (l : List Entry) : Rep × Seen := l.foldl (dstep rep) (s, fun _ => none)
noncomputable def dumpM (s : Rep) (rep : Int) (l : List Entry) : Rep := (dumpQ s rep l).1
def seenR (b n : Nat) (f : Seen) : Res := mapR Try.prog 28 (fun x : Item => Value.agg (IV x)) (fun _ : Unit => Value.bool true) InI b n f
/-- So much is room for m entries more. -/
structure RoomR (s : Rep) (m : Nat) : Prop where
  list : s.list.length + 2 * m ≤ 800000
  order : s.order.length + m ≤ 800000
  cnt : s.cnt + m ≤ 800000
theorem RoomR.tell {s : Rep} {m : Nat} (h : RoomR s (m + 1)) (k rep : Int) (x : Item) : RoomR (tellM s k rep x) m := by
  obtain ⟨a, b, c⟩ := h
  refine ⟨?_, by show s.order.length + m ≤ _; omega, by show s.cnt + m ≤ _; omega⟩
  show (s.list ++ _).length + _ ≤ _
  rw [List.length_append]; simp; omega
theorem markM_len (s : Rep) (rep : Int) (e : Entry) : (markM s rep e).list.length ≤ s.list.length + 1 ∧ (markM s rep e).order.length ≤ s.order.length + 1 ∧ (markM s rep e).cnt ≤ s.cnt + 1 := by
  unfold markM
  split
  · exact ⟨by show s.list.length ≤ _; omega, by show (s.order ++ _).length ≤ _; simp, Nat.le_refl _⟩
  · split
    · exact ⟨by omega, by omega, by omega⟩
    · exact ⟨by show (s.list ++ _).length ≤ _; simp, by show s.order.length ≤ _; omega, by show s.cnt ≤ _; omega⟩
theorem entryM_len (s : Rep) (rep : Int) (e : Entry) : (entryM s rep e).list.length ≤ s.list.length + 2 ∧ (entryM s rep e).order.length ≤ s.order.length + 1 ∧ (entryM s rep e).cnt ≤ s.cnt + 1 := by
  have ht : ∀ k, (tellM s k rep e.item).list.length = s.list.length + 1 ∧ (tellM s k rep e.item).order = s.order ∧ (tellM s k rep e.item).cnt = s.cnt := fun k => ⟨by show (s.list ++ _).length = _; simp, rfl, rfl⟩
  unfold entryM
  split
  · obtain ⟨a, b, c⟩ := ht 2; rw [a, b, c]; omega
  · dsimp only
    have key : ∀ s1 : Rep, s1.list.length ≤ s.list.length + 1 → s1.order = s.order → s1.cnt = s.cnt → (if (e.inst.status == 3) = true then markM s1 rep e else s1).list.length ≤ s.list.length + 2 ∧ (if (e.inst.status == 3) = true then markM s1 rep e else s1).order.length ≤ s.order.length + 1 ∧ (if (e.inst.status == 3) = true then markM s1 rep e else s1).cnt ≤ s.cnt + 1 := by
      intro s1 h1 h2 h3
      split
      · obtain ⟨a, b, c⟩ := markM_len s1 rep e
        rw [h2] at b; rw [h3] at c
        omega
      · rw [h2, h3]; omega
    refine key (if lessBal e.inst.prom e.inst.vote = true then tellM s 3 rep e.item else s) ?_ ?_ ?_
    · split
      · have := (ht 3).1; omega
      · omega
    · split
      · exact (ht 3).2.1
      · rfl
    · split
      · exact (ht 3).2.2
      · rfl
theorem RoomR.entry {s : Rep} {m : Nat} (h : RoomR s (m + 1)) (rep : Int) (e : Entry) : RoomR (entryM s rep e) m := by
  obtain ⟨a, b, c⟩ := h
  obtain ⟨x, y, z⟩ := entryM_len s rep e
  exact ⟨by omega, by omega, by omega⟩
theorem RoomR.step {q : Rep × Seen} {m : Nat} (h : RoomR q.1 (m + 1)) (rep : Int) (e : Entry) : RoomR (dstep rep q e).1 m := by
  unfold dstep
  split
  · exact h.tell _ _ _
  · exact h.entry _ _
theorem lookSeen (b n : Nat) (f : Seen) {w W : World} {F : Nat → Prop} {R : List Res} (T : Sts w F W (seenR b n f :: R)) (x : Item) (hx : InI x) :
    (Instr.lookup 70 (.map (some b)) (.agg (IV x)) false).run Try.prog W = .ok (.bool (f x).isSome) W := by
  have h := T.map.look1 itemOk Try.underlying70 (z := .bool false) (fun w => by kernel_rfl) x hx
  rw [h]
  cases f x <;> rfl
theorem mkMap (t : TypeId) (w : World) : (Instr.makeMap t none).run Try.prog w = .ok (.map (some w.heap.size)) (w.alloc (.map #[] 0)) := rfl
attribute [local go_sem] mkMap
set_option maxHeartbeats 8000000 in
set_option maxRecDepth 10000 in
theorem dumpT (r : Nat) (s : Rep) (rep : Int) (A : Option Addr) (c : Nat) (l : List Entry) (w W : World) (R : List Res) (hx : RowsIn w A 22 AV l) (hs : ∀ x ∈ l, InI x.item) (hm : RoomR s l.length)
    (T : Sts w (fun _ => False) W (repR r s :: R)) :
    Calls Try.prog 11 #[.pointer (some ⟨r, 0, none⟩), .int .i64 rep, .slice A l.length c] W fun e W' => e = .returned (.tuple #[]) ∧ Sts w (fun _ => False) W' (repR r (dumpM s rep l) :: R) := by
  have hll := hx.len
  have T := T.mapNew (P := Try.prog) (k := 28) (kv := fun x : Item => Value.agg (IV x)) (ev := fun _ : Unit => Value.bool true) (ok := InI)
  go_enter Try.func11, Try.ntmps11
  go_wp2_with fail
  generalize W.heap.size = b at *
  go_loopw [12] (fun i wr => ∃ (k n : Nat) (q : Rep × Seen), k ≤ l.length ∧ i = .int .i64 k ∧ q = (l.take k).foldl (dstep rep) (s, fun _ => none) ∧ n ≤ k ∧ RoomR q.1 (l.length - k) ∧ Sts w (fun _ => False) wr (seenR b n q.2 :: repR r q.1 :: R)) (fun i _ => l.length - (intOf i).toNat)
  case atStart => exact ⟨0, 0, (s, fun _ => none), by omega, rfl, by simp, by omega, by simpa using hm, T⟩
  case round =>
    clear T
    obtain ⟨k, n, ⟨s0, f⟩, hk, rfl, hq, hn, hm, T⟩ := hrel
    dsimp only at T hm
    by_cases hkl : k < l.length
    · cases A with
      | none => have := hx.nil rfl; subst this; simp at hkl
      | some a =>
        have hld := hx.load (P := Try.prog) (T := 40) TEntry_size TEntry_und rfl (by kernel_rfl) T.below rfl hkl
        have hi := hs l[k] (List.getElem_mem hkl)
        have hq2 : dstep rep (s0, f) l[k] = (l.take (k + 1)).foldl (dstep rep) (s, fun _ => none) := by
          rw [hq, List.take_succ_eq_append_getElem hkl, List.foldl_append]; rfl
        have hm2 := hm
        rw [show l.length - k = (l.length - (k + 1)) + 1 from by omega] at hm2
        have hm3 := RoomR.step (q := (s0, f)) hm2 rep l[k]
        clear hm hq
        have HQ := Lib.hid hq2; clear hq2
        generalize l[k] = x at *
        have T := (T.new (AV x) 40).rot2
        -- rows: report, entry, seen
        obtain ⟨v1, v2, m, TO⟩ := T.repOpen
        have hcr := row_cell TO.row; have hlr := row_lt TO.row
        have hre := T.row1; have hle := row_lt hre; have hrc := row_cell hre
        have hlk := fun y => lookSeen b n f ((T.rot2).ext y) x.item hi
        have cg := itemGood_any x.item s0.n
        have hcg := Lib.hid cg; clear cg
        cases hsn : (f x.item).isSome
        case true =>
          rw [hsn] at hlk
          have hqe : dstep rep (s0, f) x = (tellM s0 1 rep x.item, f) := by unfold dstep; rw [if_pos (by simp [hsn])]
          have HQ2 := HQ.out; rw [hqe] at HQ2 hm3; have HQ := Lib.hid HQ2; clear HQ2 hqe
          go_upto_region 4 with fail
          refine wp_region_ext (by kernel_rfl) (by kernel_rfl) ?_
          repeat (go_big_quiet_step (first | (go_at_call 21; exact hcg.out.quiet)))
          refine wpQuiet_nil ?_
          rintro _ ⟨x9, rfl⟩
          have T := T.ext x9
          clear TO hcr hlr hre hle hrc hlk hcg
          generalize ext _ x9 = w1 at *
          have hre := T.row1; have hle := row_lt hre; have hrc := row_cell hre
          go_wp2_with fail
          refine (Does.at1 (tellD r s0 1 rep x.item (by have := hm2.list; omega)) T).mono ?_; clear T hre hle hrc; rintro e1 w2 ⟨rfl, T⟩
          go_wp2
          go_roundw
          case rel => exact ⟨k + 1, n, _, by omega, by go_num, HQ.out, by omega, hm3, T.swap.drop.swap⟩
          case measure => simp [intOf]; omega

        case false =>
          rw [hsn] at hlk
          cases hgi : goodI x.item s0.n
          all_goals rw [hgi] at hcg
          case false =>
            have hqe : dstep rep (s0, f) x = (tellM s0 1 rep x.item, f) := by unfold dstep; rw [if_pos (by simp [hgi])]
            have HQ2 := HQ.out; rw [hqe] at HQ2 hm3; have HQ := Lib.hid HQ2; clear HQ2 hqe
            go_upto_region 4 with fail
            refine wp_region_ext (by kernel_rfl) (by kernel_rfl) ?_
            repeat (go_big_quiet_step (first | (go_at_call 21; exact hcg.out.quiet)))
            refine wpQuiet_nil ?_
            rintro _ ⟨x9, rfl⟩
            have T := T.ext x9
            clear TO hcr hlr hre hle hrc hlk hcg
            generalize ext _ x9 = w1 at *
            have hre := T.row1; have hle := row_lt hre; have hrc := row_cell hre
            go_wp2_with fail
            refine (Does.at1 (tellD r s0 1 rep x.item (by have := hm2.list; omega)) T).mono ?_; clear T hre hle hrc; rintro e1 w2 ⟨rfl, T⟩
            go_wp2
            go_roundw
            case rel => exact ⟨k + 1, n, _, by omega, by go_num, HQ.out, by omega, hm3, T.swap.drop.swap⟩
            case measure => simp [intOf]; omega

          case true =>
            have hqe : dstep rep (s0, f) x = (entryM s0 rep x, putF f x.item ()) := by unfold dstep; rw [if_neg (by simp [hgi, hsn])]
            have HQ2 := HQ.out; rw [hqe] at HQ2 hm3; have HQ := Lib.hid HQ2; clear HQ2 hqe
            go_upto_region 4 with fail
            refine wp_region_ext (by kernel_rfl) (by kernel_rfl) ?_
            repeat (go_big_quiet_step (first | (go_at_call 21; exact hcg.out.quiet)))
            refine wpQuiet_nil ?_
            rintro _ ⟨x9, rfl⟩
            have T := T.ext x9
            clear TO hcr hlr hre hle hrc hlk hcg
            generalize ext _ x9 = w1 at *
            have hre := T.row1; have hle := row_lt hre; have hrc := row_cell hre

            obtain ⟨W9, hput, T9, -⟩ := T.rot2.mapPut itemOk Try.underlying70 (by have := hm2.cnt; unfold maxLen; omega) x.item hi ()
            go_upto_region 7 with fail
            clear hput T hre hle hrc
            have T := T9.swap; clear T9
            have hre := T.row2; have hle := row_lt hre; have hrc := row_cell hre
            go_wp2_with fail
            refine (Does.at1 (entryD r s0 rep x (by have := hm2.list; omega) (by have := hm2.order; omega) (by have := hm2.cnt; omega) hi) T).mono ?_; clear T hre hle hrc; rintro e1 w2 ⟨rfl, T⟩
            go_wp2
            go_roundw
            case rel => exact ⟨k + 1, n + 1, _, by omega, by go_num, HQ.out, by omega, hm3, T.rot2.drop.swap⟩
            case measure => simp [intOf]; omega
    · obtain rfl : k = l.length := by omega
      rw [List.take_length] at hq
      have hqq : dumpM s rep l = s0 := by unfold dumpM dumpQ; rw [← hq]
      have HQ := Lib.hid hqq; clear hqq hq
      go_wp2
      try simp only [Exit.inBlock, Exit.then]
      first | refine bodyPost_ret (results_none rfl _ _ _) rfl ?_ | refine bodyPost_end (results_none rfl _ _ _) rfl ?_
      exact ⟨rfl, by rw [HQ.out]; exact T.drop⟩
end Go.Proofs.Ytahajjfbkdocaaa
/- Layer 24: one finding more, the order and the calls left where they lie; rows of a slice of the call's own. -/
namespace Go.Proofs.Ytahajjfbkdocaaa
open Go.RowKit
set_option linter.unusedVariables false
attribute [local go_sem] row_alloc row_drew row_drewN row_ext row_setCell row_setRow size_ext setRow_alloc setRow_drew loadOf storeOf piece_lit loadVal_at storeVal_at allOne_lit buildOf buildRes_some
attribute [local go_sem high] cell_alloc frozen_alloc setCell_alloc cell_ext frozen_ext cell_setRow frozen_setRow
attribute [local go_sem ↓] TDeed_ld0 TDeed_st0 TDeed_fd0 TDeed_bd0
attribute [local go_sem] TDeed_size TDeed_one TDeed_piece TDeed_c0 TDeed_c1 TDeed_c2 TDeed_c3 TDeed_c4 TDeed_c5 TDeed_set_kind TDeed_set_key TDeed_set_val TDeed_set_ver TDeed_set_ses TDeed_set_num TDeed_ld TDeed_st TDeed_f_kind TDeed_f_key TDeed_f_val TDeed_f_ver TDeed_f_ses TDeed_f_num TDeed_bd TDeed_fl TDeed_fl_kind TDeed_fl_key TDeed_fl_val TDeed_fl_ver TDeed_fl_ses TDeed_fl_num
attribute [local go_sem high] TDeed_eql TDeed_neq
attribute [local go_sem ↓] index_deps0 load_deps0 store_deps0
attribute [local go_sem] DV_piece DV_size DV_one index_deps load_deps store_deps
attribute [local go_sem high] TDeps_eql TDeps_neq
attribute [local go_sem ↓] TCall_ld0 TCall_st0 TCall_fd0 TCall_bd0
attribute [local go_sem] TCall_size TCall_one TCall_piece TCall_c0 TCall_c1 TCall_c2 TCall_c3 TCall_c4 TCall_c5 TCall_c6 TCall_c7 TCall_c8 TCall_c9 TCall_c10 TCall_c11 TCall_c12 TCall_c13 TCall_p_deed TCall_put_deed TCall_p_deps TCall_put_deps TCall_set_seq TCall_ld TCall_st TCall_f_deed TCall_f_deps TCall_f_seq TCall_bd TCall_fl TCall_fl_deed TCall_fl_deps TCall_fl_seq
attribute [local go_sem high] TCall_eql TCall_neq
attribute [local go_sem ↓] TItem_ld0 TItem_st0 TItem_fd0 TItem_bd0
attribute [local go_sem] TItem_size TItem_one TItem_piece TItem_c0 TItem_c1 TItem_set_rep TItem_set_num TItem_ld TItem_st TItem_f_rep TItem_f_num TItem_bd TItem_fl TItem_fl_rep TItem_fl_num
attribute [local go_sem high] TItem_eql TItem_neq
attribute [local go_sem ↓] TFinding_ld0 TFinding_st0 TFinding_fd0 TFinding_bd0
attribute [local go_sem] TFinding_size TFinding_one TFinding_piece TFinding_c0 TFinding_c1 TFinding_c2 TFinding_c3 TFinding_set_kind TFinding_set_rep TFinding_p_item TFinding_put_item TFinding_ld TFinding_st TFinding_f_kind TFinding_f_rep TFinding_f_item TFinding_bd TFinding_fl TFinding_fl_kind TFinding_fl_rep TFinding_fl_item
attribute [local go_sem high] TFinding_eql TFinding_neq
attribute [local go_sem] cellsR_0 cellsR_1 cellsR_2 cellsR_3
attribute [local go_sem ↓] find_slice0
attribute [local go_sem] find_slice1
/-- The report's head: its block and its list. -/
def headR (r : Nat) (s : Rep) (v2 : Value) (m : Nat) : Res := exR fun v1 : Value => starR (rowR r (cellsR s v1 v2 m)) (listR s v1)
section
variable {w W : World} {F : Nat → Prop} {R : List Res} {r : Nat} {s : Rep}
theorem Sts.headOpen (T : Sts w F W (repR r s :: R)) : ∃ v2 m, Sts w F W (headR r s v2 m :: orderR s v2 :: callsR s m :: R) := by
  obtain ⟨v1, v2, m, T⟩ := T.repOpen
  exact ⟨v2, m, Sts.close v1 T.join⟩
theorem Sts.headShut {v2 : Value} {m : Nat} (T : Sts w F W (headR r s v2 m :: orderR s v2 :: callsR s m :: R)) : Sts w F W (repR r s :: R) := by
  obtain ⟨v1, T⟩ := T.open
  exact T.split.repShut
end
theorem add_none (b o j : Nat) : (⟨b, o, none⟩ : Addr).add j = ⟨b, o + j, none⟩ := by unfold Addr.add; split <;> simp_all
/-- A slice of the call's own lies like one that came in. -/
theorem vec_rows {α : Type} {V : α → Array Value} {size : Nat} (hV : ∀ x, (V x).size = size) {e : TypeId} {v : Value} {l : List α} {w W : World} {F : Nat → Prop} {R : List Res} (T : Sts w F W (vecR e size v l.length (vl V l) :: R)) (h0 : 0 < size) (hl : l.length ≤ 9223372036854775807) :
    ∃ A c, v = .slice A l.length c ∧ RowsIn W A size V l ∧ l.length ≤ c ∧ ∀ a, A = some a → ∃ g, a = ⟨g, 0, none⟩ := by
  have hown := T.vec
  rcases hown.2 with ⟨rfl, h⟩ | ⟨g, cap, cur, rfl, _, hg, hn, hm, hc, ht⟩
  · have : l = [] := List.eq_nil_of_length_eq_zero (by omega)
    subst this
    exact ⟨none, 0, rfl, ⟨fun _ => rfl, fun a ha => (by cases ha), by simp⟩, Nat.le_refl _, fun a ha => (by cases ha)⟩
  · refine ⟨some ⟨g, 0, none⟩, cap, rfl, ⟨fun ha => (by cases ha), fun a ha j hj i u hu => ?_, hl⟩, hn, fun a ha => by injection ha with ha; exact ⟨g, ha.symm⟩⟩
    injection ha with ha; subst ha
    obtain ⟨g', c', hv, _, hcell⟩ := vec_cell hV T h0 hj
    injection hv with e1
    injection e1 with e1
    injection e1 with e1
    subst e1
    have := hcell i u hu
    rw [add_none, add_none, Nat.zero_add]
    exact this
set_option maxHeartbeats 4000000 in
theorem tellH (r : Nat) (s : Rep) (v2 : Value) (m : Nat) (k rep : Int) (x : Item) (hn : s.list.length < 1000000) :
    Does Try.prog 22 #[.pointer (some ⟨r, 0, none⟩), .int .i64 k, .int .i64 rep, .agg (IV x)] [headR r s v2 m] (.tuple #[]) [headR r (tellM s k rep x) v2 m] := by
  intro W G hS
  obtain ⟨v1, T⟩ := (Sts.start hS).open
  have T := T.split.swap
  have T := T.swap
  clear hS
  have T := (T.new (IV x) 28).swap
  -- rows: report, item, list, order, calls
  obtain ⟨i0, hi, hz0, hz1, hz2⟩ := find_i
  have hS0 : SR W.heap.size (IV x) (W.alloc (.cells (IV x) 28)) := T.row1
  have hq2 : ∀ W0, SR W.heap.size (IV x) W0 → row? W0 W.heap.size = some (IV x) := fun W0 h => h
  have hcr := row_cell T.row
  have hlr := row_lt T.row
  have hlr0 : r < W.heap.size + 1 := by have := hlr; rw [World.size_alloc] at this; exact this
  have hlr2 : ¬ r = W.heap.size + 1 := by omega
  have hner : W.heap.size ≠ r := fun e => T.ne e.symm
  have hT1 : Sts W G ((W.alloc (.cells (IV x) 28)).alloc (.cells (FV ⟨k, rep, x⟩) 49)).drew [vecR 49 4 v1 s.list.length (vl FV s.list), rowR (W.heap.size + 1) (FV ⟨k, rep, x⟩), rowR r (cellsR s v1 v2 m), rowR W.heap.size (IV x)] := by
    have := (T.new (FV ⟨k, rep, x⟩) 49).rot3.drew
    simp only [World.size_alloc] at this
    exact this
  have hnews : ∀ j u, (FV ⟨k, rep, x⟩).toList[j]? = some u → ((W.alloc (.cells (IV x) 28)).alloc (.cells (FV ⟨k, rep, x⟩) 49)).drew.cell? ((⟨W.heap.size + 1, 0, none⟩ : Addr).add j) = some u := by
    intro j u hu
    have hadd : (⟨W.heap.size + 1, 0, none⟩ : Addr).add j = ⟨W.heap.size + 1, j, none⟩ := by unfold Addr.add; split <;> simp_all
    rw [hadd, row_cell hT1.row1]; simpa using hu
  have h1 : ∀ u ∈ (FV ⟨k, rep, x⟩).toList, u.oneCell' = true := by simp [FV, Value.oneCell']
  have h63 : s.list.length + 1 ≤ maxLen := by unfold maxLen; omega
  have hby : (s.list.length + 1) * 32 ≤ 140737488355328 := by omega
  have HT := Lib.hid hT1; clear hT1 T
  go_enter Try.func22, Try.ntmps22
  go_wp2_with fail
  go_region_law
    ((refine step_append_vec (by rfl) _ _ _ (by rfl) 49 i0 _ 4 32 Try.underlying43 hi hz0 hz1 hz2 rfl (by omega) v1 s.list.length (vl FV s.list) (by rfl) HT.out ⟨W.heap.size + 1, 0, none⟩ 1 1 (FV ⟨k, rep, x⟩).toList (by rfl) (by rfl) hnews h1 (by omega) h63 hby ?_; intro g cap w1 T1; have hc1 := row_cell T1.row2; have hf1 := row_frozen T1.row2; have hl1 := row_lt T1.row2))
  all_goals
    have T2 := (T1.swap.drop.swap).setCell 1 (.slice (some ⟨g, 0, none⟩) (s.list.length + 1) cap)
    rw [cellsR_set1] at T2
    have T3 := T2.rot2.drop
    have HT3 := Lib.hid T3; clear T1 T2 T3
    go_end0
    refine ⟨rfl, Sts.close (.slice (some ⟨g, 0, none⟩) (s.list.length + 1) cap) (Sts.join ?_)⟩
    unfold listR
    have e1 : (tellM s k rep x).list = s.list ++ [⟨k, rep, x⟩] := rfl
    rw [e1, vl_snoc, List.length_append]
    exact HT3.out
