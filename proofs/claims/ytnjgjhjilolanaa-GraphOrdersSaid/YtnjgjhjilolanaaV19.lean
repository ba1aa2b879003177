/- Several texts in one. -/
import Derived.Test.YtnjgjhjilolanaaV15
import Derived.Test.YtnjgjhjilolanaaV18
import Derived.Test.YtnjgjhjilolanaaV3
import Derived.Test.YtnjgjhjilolanaaV4
/- Layer 18: a graph, and the document's, step by step. -/
namespace Go.Proofs.Ytnjgjhjilolanaa
open Go.RowKit Go.Shelf
set_option linter.unusedVariables false
set_option maxRecDepth 20000
attribute [local go_sem] Oper.semAt_some
attribute [local go_sem] row_alloc row_drew row_drewN row_ext row_setCell row_setRow size_ext setRow_alloc setRow_drew loadOf storeOf piece_lit loadVal_at storeVal_at allOne_lit buildOf buildRes_some
attribute [local go_sem high] cell_alloc frozen_alloc setCell_alloc cell_ext frozen_ext cell_setRow frozen_setRow
attribute [local go_sem ↓] TDeed_ld0 TDeed_st0 TDeed_fd0 TDeed_bd0
attribute [local go_sem] TDeed_size TDeed_one TDeed_piece TDeed_c0 TDeed_c1 TDeed_c2 TDeed_c3 TDeed_c4 TDeed_c5 TDeed_set_kind TDeed_set_key TDeed_set_val TDeed_set_ver TDeed_set_ses TDeed_set_num TDeed_ld TDeed_st TDeed_f_kind TDeed_f_key TDeed_f_val TDeed_f_ver TDeed_f_ses TDeed_f_num TDeed_bd TDeed_fl TDeed_fl_kind TDeed_fl_key TDeed_fl_val TDeed_fl_ver TDeed_fl_ses TDeed_fl_num
attribute [local go_sem high] TDeed_eql TDeed_neq
attribute [local go_sem ↓] index_deps0 load_deps0 store_deps0
attribute [local go_sem] DV_piece DV_size DV_one index_deps load_deps store_deps
attribute [local go_sem high] TDeps_eql TDeps_neq
attribute [local go_sem ↓] TCall_ld0 TCall_st0 TCall_fd0 TCall_bd0
attribute [local go_sem] TCall_size TCall_one TCall_piece TCall_c0 TCall_c1 TCall_c2 TCall_c3 TCall_c4 TCall_c5 TCall_c6 TCall_c7 TCall_c8 TCall_c9 TCall_c10 TCall_c11 TCall_c12 TCall_c13 TCall_p_deed TCall_put_deed TCall_p_deps TCall_put_deps TCall_set_seq TCall_ld TCall_st TCall_f_deed TCall_f_deps TCall_f_seq TCall_bd TCall_fl TCall_fl_deed TCall_fl_deps TCall_fl_seq
attribute [local go_sem high] TCall_eql TCall_neq
attribute [local go_sem ↓] TItem_ld0 TItem_st0 TItem_fd0 TItem_bd0
attribute [local go_sem] TItem_size TItem_one TItem_piece TItem_c0 TItem_c1 TItem_set_rep TItem_set_num TItem_ld TItem_st TItem_f_rep TItem_f_num TItem_bd TItem_fl TItem_fl_rep TItem_fl_num
attribute [local go_sem high] TItem_eql TItem_neq
attribute [local go_sem ↓] TGStep_ld0 TGStep_st0 TGStep_fd0 TGStep_bd0
attribute [local go_sem] TGStep_size TGStep_one TGStep_piece TGStep_c0 TGStep_c1 TGStep_c2 TGStep_c3 TGStep_c4 TGStep_c5 TGStep_c6 TGStep_c7 TGStep_c8 TGStep_c9 TGStep_c10 TGStep_c11 TGStep_c12 TGStep_c13 TGStep_c14 TGStep_c15 TGStep_c16 TGStep_set_kind TGStep_p_item TGStep_put_item TGStep_p_call TGStep_put_call TGStep_ld TGStep_st TGStep_f_kind TGStep_f_item TGStep_f_call TGStep_bd TGStep_fl TGStep_fl_kind TGStep_fl_item TGStep_fl_call
attribute [local go_sem high] TGStep_eql TGStep_neq
attribute [local go_sem ↓] itm_slice0
attribute [local go_sem] itm_slice1
theorem cll_slice0 (len : Nat) (parts : Array (Nat × Value)) : Instr.buildSlice 31 len parts = buildSem 31 len parts := rfl
theorem cll_slice1 (w : World) (x : Call) : (buildSem 31 1 #[(0, .agg (CV x))]).run Try.prog w = .ok (.slice (some ⟨w.heap.size, 0, none⟩) 1 1) (w.alloc (.cells (CV x) 47)) :=
  build_slice1 Try.underlying31 (z := .agg (CV noCall)) (n := 14) (by kernel_rfl) (by omega) w rfl (by omega)
theorem itm_sliceB (w : World) (x y : Item) : (buildSem 30 2 #[(0, .agg (IV x)), (1, .agg (IV y))]).run Try.prog w = .ok (.slice (some ⟨w.heap.size, 0, none⟩) 2 2) (w.alloc (.cells (IV x ++ IV y) 35)) :=
  build_slice2 Try.underlying30 (z := .agg (IV noItem)) (n := 2) (by kernel_rfl) (by omega) w rfl rfl (by omega)
theorem cll_i : ∃ i, Try.prog.info? 47 = some i ∧ i.zero = some (.agg (CV noCall)) ∧ i.size = 14 ∧ i.bytes = 128 := by
  have h : (Try.prog.info? 47).map (fun i => (i.zero, i.size, i.bytes)) = some (some (.agg (CV noCall)), 14, 128) := by kernel_rfl
  cases hi : Try.prog.info? 47 with
  | none => rw [hi] at h; simp at h
  | some i => rw [hi] at h; simp at h; exact ⟨i, rfl, h.1, h.2.1, h.2.2⟩
theorem cll_one (x : Call) : ∀ u ∈ (CV x).toList, u.oneCell' = true := by simp [CV, Value.oneCell']
theorem doc_build0 (p : Array (Nat × Value)) : Instr.build 33 p = buildS 33 p := rfl
theorem doc_build (w : World) : (buildS 33 #[]).run Try.prog w = .ok (.agg (docC (.slice none 0 0) (.slice none 0 0) (.slice none 0 0))) w := by kernel_rfl
attribute [local go_sem ↓] cll_slice0 doc_build0
attribute [local go_sem] cll_slice1 itm_sliceB doc_build
section
variable {w W : World} {R : List Res}
def BuildPost (w : World) (R : List Res) (n : Int) (k : Nat) (e : Ending) (W' : World) : Prop :=
  ∃ b gc gd g vi vc vd m q items calls dn, e = .returned (.tuple #[.pointer (some ⟨b, 0, none⟩), .pointer (some ⟨g, 0, none⟩), .bool true]) ∧ GBld n k m q items calls dn ∧ Sts w (fun _ => False) W' (docL g vi vc vd items calls dn ++ (grL b gc gd m q ++ R))
set_option maxHeartbeats 16000000 in
theorem buildT (n : Int) (hn : n = 3 ∨ n = 5 ∨ n = 7) (A : Option Addr) (c : Nat) (l : List GStep) (hA : RowsIn w A 17 GSV l) (hl : l.length ≤ 25) (T : Sts w (fun _ => False) W R) :
    Calls Try.prog 12 #[.int .i64 n, .slice A l.length c] W fun e W' => BuildPost w R n l.length e W' := by
  have hnn : newN n = n := by unfold newN; rcases hn with rfl | rfl | rfl <;> rfl
  have HNW := Lib.hid (grNewT n (by omega) T)
  rw [hnn] at HNW
  have HA := Lib.hid hA
  clear T hA hnn
  go_enter Try.func12, Try.ntmps12
  go_wp2_with fail
  refine HNW.out.mono ?_
  clear HNW
  rintro e1 w1 ⟨b, gc, gd, rfl, T⟩
  have T : Sts w (fun _ => False) w1 (rowR b #[.pointer (some ⟨gc, 0, none⟩), .pointer (some ⟨gd, 0, none⟩)] :: rowsIRK gc ⟨n, fun _ => []⟩ :: rowsIRL gd ⟨n, fun _ => []⟩ :: R) := T
  have T1 := ((T.vecNil 35 2).vecNil 47 14).vecNil 35 2
  have T2 := T1.new (docC (.slice none 0 0) (.slice none 0 0) (.slice none 0 0)) 33
  have HT := Lib.hid (T2.ord [0, 3, 2, 1])
  clear T T1 T2
  go_wp2_with fail
  generalize w1.alloc _ = w2 at *
  generalize w1.heap.size = g at *
  go_loopw [20, 9] (fun u20 u9 wr => ∃ (i : Nat) (vi vc vd : Value) (m : RowsMK) (q : RowsML) (items : List Item) (calls : List Call) (dn : List Item), u20 = .int .i64 i ∧ u9 = .bool true ∧ i ≤ l.length ∧ GBld n i m q items calls dn ∧ Sts w (fun _ => False) wr (rowR g (docC vi vc vd) :: vecR 35 2 vi items.length (vl IV items) :: vecR 47 14 vc calls.length (vl CV calls) :: vecR 35 2 vd dn.length (vl IV dn) :: rowR b #[.pointer (some ⟨gc, 0, none⟩), .pointer (some ⟨gd, 0, none⟩)] :: rowsIRK gc m :: rowsIRL gd q :: R)) (fun u20 _ _ => l.length - (intOf u20).toNat)
  case atStart => exact ⟨0, _, _, _, _, _, [], [], [], rfl, rfl, Nat.zero_le _, GBld.new n, HT.out⟩
  case round =>
    clear HT
    obtain ⟨i, vi, vc, vd, m, q, items, calls, dn, hrel⟩ := hrel
    obtain ⟨rfl, rfl, hi, hB, T⟩ := hrel
    have HB := Lib.hid hB; clear hB
    by_cases hil : i < l.length
    · have hil' : (i : Int) < (l.length : Int) := by omega
      have hi0 : (0 : Int) ≤ (i : Int) := by omega
      cases A with
      | none => have := HA.out.nil rfl; subst this; simp at hil
      | some a =>
        have hld := HA.out.load (P := Try.prog) (T := 78) TGStep_size (by first | exact TGStep_und | exact Try.underlying78) rfl (by kernel_rfl) T.below rfl hil
        generalize l[i] = s at *
        have T2 := (T.new (GSV s) 78).ord [1, 0]
        have HT := Lib.hid T2
        clear T T2
        go_upto_region 6 with fail
        generalize wr.alloc _ = w3 at *
        generalize wr.heap.size = gx at *
        clear hld
        have hr := HT.out.row1; have hlt := row_lt hr
        have HGI := Lib.hid (ritemGood_any s.item n)
        obtain ⟨can, hcan⟩ : ∃ v, v = goodI s.item n := ⟨_, rfl⟩
        rw [← hcan] at HGI
        have HCAN := Lib.hid hcan; clear hcan
        go_wp2_with fail
        refine (Ans.at HGI.out HT.out).mono ?_
        clear HGI hr hlt HT
        rintro e4 w4 ⟨rfl, T⟩
        have hr := T.row1; have hlt := row_lt hr; have ck := row_cell hr 0
        have HT := Lib.hid T; clear T
        have hle : items.length ≤ 1000000 := by have := HB.out.lei; omega
        have hld : dn.length ≤ 1000000 := by have := HB.out.led; omega
        have hmb : 0 ≤ m.n ∧ m.n ≤ 7 := by rw [HB.out.mn]; omega
        have hqb : 0 ≤ q.n ∧ q.n ≤ 7 := by rw [HB.out.qn]; omega
        have HLE := Lib.hid hle; have HLD := Lib.hid hld; have HMB := Lib.hid hmb; have HQB := Lib.hid hqb
        clear hle hld hmb hqb
        cases hk : (s.kind == 1)
        case true =>
          have T1 : Sts w (fun _ => False) (w4.alloc (.cells (IV s.item ++ IV s.item) 35)) (vecR 35 2 (.slice (some ⟨w4.heap.size, 0, none⟩) 2 2) [s.item, s.item].length (vl IV [s.item, s.item]) :: (grL b gc gd m q ++ (rowR g (docC vi vc vd) :: rowR gx (GSV s) :: vecR 35 2 vi items.length (vl IV items) :: vecR 47 14 vc calls.length (vl CV calls) :: vecR 35 2 vd dn.length (vl IV dn) :: R))) := by
            have T0 := HT.out.vecNew (IV s.item ++ IV s.item) 35 2 2 rfl (by unfold maxLen; omega)
            have T1 := T0.ord [0, 6, 7, 8, 1, 2, 3, 4, 5]
            exact T1
          have HD := Lib.hid (grDoneT (m := m) (q := q) HQB.out [s.item, s.item] (by simp) T1)
          clear T1
          go_wp2_with fail
          refine HD.out.mono ?_
          clear HD hr hlt ck
          rintro e5 w5 ⟨rfl, T⟩
          have T : Sts w (fun _ => False) w5 (vecR 35 2 (.slice (some ⟨w4.heap.size, 0, none⟩) 2 2) [s.item, s.item].length (vl IV [s.item, s.item]) :: rowR b #[.pointer (some ⟨gc, 0, none⟩), .pointer (some ⟨gd, 0, none⟩)] :: rowsIRK gc m :: rowsIRL gd (doneM q [s.item, s.item]) :: rowR g (docC vi vc vd) :: rowR gx (GSV s) :: vecR 35 2 vi items.length (vl IV items) :: vecR 47 14 vc calls.length (vl CV calls) :: vecR 35 2 vd dn.length (vl IV dn) :: R) := T
          have T2 := T.drop.ord [3, 4, 5, 6, 7, 0, 1, 2]
          have HT := Lib.hid T2; clear T T2
          have hB2 := HB.out.done s.item
          rw [← HCAN.out] at hB2
          cases can
          case false =>
            rw [Bool.false_and, if_neg (by simp)] at hB2
            have HB2 := Lib.hid hB2; clear hB2
            go_wp2
            go_roundw
            case rel => exact ⟨i + 1, vi, vc, vd, m, doneM q [s.item, s.item], items, calls, dn, by go_num, rfl, by omega, HB2.out, (HT.out.ord [1, 0]).drop⟩
            case measure => simp [intOf]; omega
          case true =>
            have hr := HT.out.row1; have hlt := row_lt hr
            have HO := Lib.hid (docOverR g vi vc vd items calls dn HLD.out s.item)
            obtain ⟨ov, hov⟩ : ∃ v, v = decide (idxN s.item dn < dn.length) := ⟨_, rfl⟩
            rw [← hov] at HO hB2
            have HOVV := Lib.hid hov; clear hov
            have HB2 := Lib.hid hB2; clear hB2
            go_wp2_with fail
            refine (HO.out.at (R := rowR gx _ :: _) (by have T0 := HT.out.ord [0, 2, 3, 4, 1]; exact T0)).mono ?_
            clear HO hr hlt
            rintro e6 w6 ⟨rfl, hb⟩
            have T := HT.out.pure hb
            have HT2 := Lib.hid T; clear T hb HT
            cases ov
            case true =>
              have hB2 := HB2.out
              rw [if_neg (by simp)] at hB2
              have HB3 := Lib.hid hB2; clear hB2 HB2
              go_wp2
              go_roundw
              case rel => exact ⟨i + 1, vi, vc, vd, m, doneM q [s.item, s.item], items, calls, dn, by go_num, rfl, by omega, HB3.out, (HT2.out.ord [1, 0]).drop⟩
              case measure => simp [intOf]; omega
            case false =>
              have hB2 := HB2.out
              rw [if_pos (by simp)] at hB2
              have HB3 := Lib.hid hB2; clear hB2 HB2
              have hln := HLD.out
              have FS : ∀ W' X R', Sts w (fun _ => False) W' (rowR g X :: rowR gx (GSV s) :: R') → X[2]? = some vd → (W'.cell? ⟨g, 2, none⟩ = some vd ∧ row? W' gx = some (GSV s)) := fun W' X R' T h1 => ⟨by rw [row_cell T.row 2, h1], T.row1⟩
              have HFS := Lib.hid FS
              have HT0 := Lib.hid HT2.out.drew
              have S0 := HFS.out _ _ _ HT0.out rfl
              have HM := Lib.hid (show ∀ W' : World, (W'.cell? ⟨g, 2, none⟩ = some vd ∧ row? W' gx = some (GSV s)) → True from fun _ _ => trivial)
              clear HT2 FS
              go_upto_region 10 with fail
              refine wp_region_stage (fun W' => (W'.cell? ⟨g, 2, none⟩ = some vd ∧ row? W' gx = some (GSV s))) (fun _ => True) 11 (by kernel_rfl) S0 (fun hHeld => ?_)
              clear S0
              refine tk0 0 rfl (v := ?_) ?_ ?_
              rotate_left
              · intro w h; (try dsimp only at h); go_simp; try with_reducible rfl
              simp only [Act.put, List.getElem_toArray, List.getElem_cons_zero, List.setIfInBounds_toArray, List.set_cons_zero, List.set_cons_succ]
              refine tk0 1 rfl (v := ?_) ?_ ?_
              rotate_left
              · intro w h; (try dsimp only at h); go_simp; try with_reducible rfl
              go_frame
              refine tk0 2 rfl (v := ?_) ?_ ?_
              rotate_left
              · intro w h; (try dsimp only at h); go_simp; try with_reducible rfl
              go_frame
              refine tk0 3 rfl (v := ?_) ?_ ?_
              rotate_left
              · intro w h; (try dsimp only at h); go_simp; try with_reducible rfl
              go_frame
              refine tk0 4 rfl (v := ?_) ?_ ?_
              rotate_left
              · intro w h; (try dsimp only at h); go_simp; try with_reducible rfl
              go_frame
              refine tk0 5 rfl (v := ?_) ?_ ?_
              rotate_left
              · intro w h; (try dsimp only at h); go_simp; try with_reducible rfl
              go_frame
              refine tk0 6 rfl (v := ?_) ?_ ?_
              rotate_left
              · intro w h; (try dsimp only at h); go_simp; try with_reducible rfl
              go_frame
              generalize hw7 : World.drew _ = w7 at *
              clear hw7
              refine wpAnyL_ready (rs := [7]) (by kernel_rfl) (by simp) ?_
              refine AllReadyL.cons0 (o := _) rfl (by kernel_rfl) (fun K hK => ?_) AllReadyL.nil
              have Ta := HT0.out.new (IV s.item) 35
              have HTa := Lib.hid Ta; clear Ta HT0
              go_simp
              refine hK.out _ _ ?_ (fun hHeld => ?_)
              · exact HFS.out _ _ _ HTa.out.drop rfl
              clear hK K
              refine wpAnyL_ready (rs := [8]) (by kernel_rfl) (by simp) ?_
              refine AllReadyL.cons0 (o := _) rfl (by kernel_rfl) (fun K hK => ?_) AllReadyL.nil
              have Tb := HTa.out.ord [5, 0, 1, 2, 3, 4]
              clear HTa
              obtain ⟨i0, hi0', hz0, hz1, hz2⟩ := itm_i
              have HOK := Lib.hid (itm_one s.item)
              refine step_append_vec (by rfl) _ _ _ (by rfl) 35 i0 _ 2 16 Try.underlying30 hi0' hz0 hz1 hz2 rfl (by omega) vd dn.length (vl IV dn) (by rfl) Tb ⟨w7.heap.size, 0, none⟩ 1 1 (IV s.item).toList (by rfl) (by rfl) (news_row Tb.row1) HOK.out (by omega) (by unfold maxLen; omega) (by omega) ?_
              intro gv' cap1 w12 T1
              have T1 := (T1.ord [2, 3, 0, 1])
              refine hK.out _ _ ?_ (fun hHeld => ?_)
              · exact HFS.out _ _ _ T1 rfl
              clear hK K Tb HOK
              refine tk1 9 HM.out rfl (v := ?_) ?_ ?_
              rotate_left
              · intro w h; (try dsimp only at h); go_simp; try with_reducible rfl
              simp only [Act.put, List.getElem_toArray, List.getElem_cons_succ, List.getElem_cons_zero, List.setIfInBounds_toArray, List.set_cons_zero, List.set_cons_succ]
              refine tk0 10 rfl (v := ?_) ?_ ?_
              rotate_left
              · intro w h; (try dsimp only at h); go_simp; try with_reducible rfl
              simp only [Act.put, List.getElem_toArray, List.getElem_cons_succ, List.getElem_cons_zero, List.setIfInBounds_toArray, List.set_cons_zero, List.set_cons_succ]
              have hf := row_frozen T1.row 2
              have T2 := T1.setCell 2 (.slice (some ⟨gv', 0, none⟩) (dn.length + 1) cap1)
              have HT2 := Lib.hid T2; clear T1 T2
              refine wpAnyL_ready (rs := [11]) (by kernel_rfl) (by simp) ?_
              refine AllReadyL.cons1 (o := _) rfl (by kernel_rfl) (fun K hK => ?_) AllReadyL.nil
              go_simp
              refine hK.out _ _ trivial (fun hHeld => ?_)
              clear hK K hf HFS HM hi0' hz0 hz1 hz2
              refine wpAnyL_done (by kernel_rfl) ?_ _
              try simp only [Exit.then]
              generalize w12.setCell _ _ = w13 at *
              have T3 : Sts w (fun _ => False) w13 (rowR g (docC vi vc (.slice (some ⟨gv', 0, none⟩) (dn.length + 1) cap1)) :: rowR gx (GSV s) :: vecR 35 2 (.slice (some ⟨gv', 0, none⟩) (dn.length + 1) cap1) (dn.length + 1) (vl IV dn ++ (IV s.item).toList) :: rowR w7.heap.size (IV s.item) :: vecR 35 2 vi items.length (vl IV items) :: vecR 47 14 vc calls.length (vl CV calls) :: _) := HT2.out
              rw [show dn.length + 1 = (dn ++ [s.item]).length by simp, show vl IV dn ++ (IV s.item).toList = vl IV (dn ++ [s.item]) from (vl_snoc IV dn s.item).symm] at T3
              have T4 := (T3.ord [3, 0, 1, 4, 5, 2]).drop
              have HT := Lib.hid T4; clear HT2 T3 T4
              go_wp2
              go_roundw
              case rel => exact ⟨i + 1, vi, vc, _, m, doneM q [s.item, s.item], items, calls, dn ++ [s.item], by go_num, rfl, by omega, HB3.out, (HT.out.ord [1, 0]).drop⟩
              case measure => simp [intOf]; omega
        case false =>
          have HGD := Lib.hid (rgood_any s.call.deps 7)
          obtain ⟨gd5, hgd5⟩ : ∃ v, v = goodD s.call.deps 7 := ⟨_, rfl⟩
          rw [← hgd5] at HGD
          have HAT := Lib.hid (docAtR g vi vc vd items calls dn HLE.out s.item)
          obtain ⟨ai, hai⟩ : ∃ v, v = idxI s.item items := ⟨_, rfl⟩
          rw [← hai] at HAT
          have hcc := HB.out.can s.item s.call
          rw [← HCAN.out, ← hgd5, ← hai] at hcc
          have HCC := Lib.hid hcc
          clear hcc hgd5 hai
          cases can
          case false =>
            have hcv : canC m s.item s.call = false := by rw [HCC.out]; rfl
            go_wp2_with fail
            have HCM := Lib.hid (grCommitD b gc gd m q HMB.out s.item s.call)
            have HCV := Lib.hid hcv
            rw [hcv] at HCM
            clear hcv
            refine (Does.at (L := grL b gc gd m q) (R := rowR g (docC vi vc vd) :: _) HCM.out (by have T0 := HT.out.ord [5, 6, 7, 0, 1, 2, 3, 4]; exact T0)).mono ?_
            clear HCM hr hlt ck HT
            rintro e8 w8 ⟨rfl, T⟩
            have T : Sts w (fun _ => False) w8 (rowR b #[.pointer (some ⟨gc, 0, none⟩), .pointer (some ⟨gd, 0, none⟩)] :: rowsIRK gc (comC m s.item s.call) :: rowsIRL gd q :: rowR g (docC vi vc vd) :: rowR gx (GSV s) :: vecR 35 2 vi items.length (vl IV items) :: vecR 47 14 vc calls.length (vl CV calls) :: vecR 35 2 vd dn.length (vl IV dn) :: R) := T
            have HT2 := Lib.hid (T.ord [3, 4, 5, 6, 7, 0, 1, 2]); clear T
            have hB2 := HB.out.same HCV.out
            have HB2 := Lib.hid hB2
            clear hB2
            go_wp2
            go_roundw
            case rel => exact ⟨i + 1, vi, vc, vd, comC m s.item s.call, q, items, calls, dn, by go_num, by first | rfl | (rw [decide_eq_false (show ¬ ai < 0 by omega)]; rfl), by omega, HB2.out, (HT2.out.ord [1, 0]).drop⟩
            case measure => simp [intOf]; omega
          case true =>
            go_wp2_with fail
            refine (Ans.at HGD.out HT.out).mono ?_
            clear HGD hr hlt ck HT
            rintro e5 w5 ⟨rfl, T⟩
            have hr := T.row1; have hlt := row_lt hr; have ck := row_cell hr 0
            have HT := Lib.hid T; clear T
            cases gd5
            case false =>
              have hcv : canC m s.item s.call = false := by rw [HCC.out]; rfl
              go_wp2_with fail
              have HCM := Lib.hid (grCommitD b gc gd m q HMB.out s.item s.call)
              have HCV := Lib.hid hcv
              rw [hcv] at HCM
              clear hcv
              refine (Does.at (L := grL b gc gd m q) (R := rowR g (docC vi vc vd) :: _) HCM.out (by have T0 := HT.out.ord [5, 6, 7, 0, 1, 2, 3, 4]; exact T0)).mono ?_
              clear HCM hr hlt ck HT
              rintro e8 w8 ⟨rfl, T⟩
              have T : Sts w (fun _ => False) w8 (rowR b #[.pointer (some ⟨gc, 0, none⟩), .pointer (some ⟨gd, 0, none⟩)] :: rowsIRK gc (comC m s.item s.call) :: rowsIRL gd q :: rowR g (docC vi vc vd) :: rowR gx (GSV s) :: vecR 35 2 vi items.length (vl IV items) :: vecR 47 14 vc calls.length (vl CV calls) :: vecR 35 2 vd dn.length (vl IV dn) :: R) := T
              have HT2 := Lib.hid (T.ord [3, 4, 5, 6, 7, 0, 1, 2]); clear T
              have hB2 := HB.out.same HCV.out
              have HB2 := Lib.hid hB2
              clear hB2
              go_wp2
              go_roundw
              case rel => exact ⟨i + 1, vi, vc, vd, comC m s.item s.call, q, items, calls, dn, by go_num, by first | rfl | (rw [decide_eq_false (show ¬ ai < 0 by omega)]; rfl), by omega, HB2.out, (HT2.out.ord [1, 0]).drop⟩
              case measure => simp [intOf]; omega
            case true =>
              go_wp2_with fail
              refine (HAT.out.at (R := rowR gx _ :: _) (by have T0 := HT.out.ord [0, 2, 3, 4, 1]; exact T0)).mono ?_
              clear HAT hr hlt ck
              rintro e6 w6 ⟨rfl, hb⟩
              have T := HT.out.pure hb
              have hr := T.row1; have hlt := row_lt hr; have ck := row_cell hr 0
              clear HT hb
              have HT := Lib.hid T; clear T
              by_cases hneg : ai < 0
              · have hneg' : ¬ 0 ≤ ai := by omega
                have hcv : canC m s.item s.call = true := by rw [HCC.out, decide_eq_true hneg]; rfl
                go_wp2_with fail
                have HCM := Lib.hid (grCommitD b gc gd m q HMB.out s.item s.call)
                have HCV := Lib.hid hcv
                rw [hcv] at HCM
                clear hcv
                refine (Does.at (L := grL b gc gd m q) (R := rowR g (docC vi vc vd) :: _) HCM.out (by have T0 := HT.out.ord [5, 6, 7, 0, 1, 2, 3, 4]; exact T0)).mono ?_
                clear HCM hr hlt ck HT
                rintro e8 w8 ⟨rfl, T⟩
                have T : Sts w (fun _ => False) w8 (rowR b #[.pointer (some ⟨gc, 0, none⟩), .pointer (some ⟨gd, 0, none⟩)] :: rowsIRK gc (comC m s.item s.call) :: rowsIRL gd q :: rowR g (docC vi vc vd) :: rowR gx (GSV s) :: vecR 35 2 vi items.length (vl IV items) :: vecR 47 14 vc calls.length (vl CV calls) :: vecR 35 2 vd dn.length (vl IV dn) :: R) := T
                have HT2 := Lib.hid (T.ord [3, 4, 5, 6, 7, 0, 1, 2]); clear T
                have hB2 := HB.out.commit HCV.out
                have HB2 := Lib.hid hB2
                clear hB2
                have hln := HLE.out
                have hlc : calls.length ≤ 1000000 := by rw [HB.out.len]; exact hln
                have HLC := Lib.hid hlc; clear hlc
                have FS : ∀ W' X R', Sts w (fun _ => False) W' (rowR g X :: rowR gx (GSV s) :: R') → X[0]? = some vi → (W'.cell? ⟨g, 0, none⟩ = some vi ∧ row? W' gx = some (GSV s)) := fun W' X R' T h1 => ⟨by rw [row_cell T.row 0, h1], T.row1⟩
                have HFS := Lib.hid FS
                have HT0 := Lib.hid HT2.out.drew
                have S0 := HFS.out _ _ _ HT0.out rfl
                have HM := Lib.hid (show ∀ W' : World, (W'.cell? ⟨g, 0, none⟩ = some vi ∧ row? W' gx = some (GSV s)) → True from fun _ _ => trivial)
                clear HT2 FS
                go_upto_region 14 with fail
                refine wp_region_stage (fun W' => (W'.cell? ⟨g, 0, none⟩ = some vi ∧ row? W' gx = some (GSV s))) (fun _ => True) 11 (by kernel_rfl) S0 (fun hHeld => ?_)
                clear S0
                refine tk0 0 rfl (v := ?_) ?_ ?_
                rotate_left
                · intro w h; (try dsimp only at h); go_simp; try with_reducible rfl
                simp only [Act.put, List.getElem_toArray, List.getElem_cons_zero, List.setIfInBounds_toArray, List.set_cons_zero, List.set_cons_succ]
                refine tk0 1 rfl (v := ?_) ?_ ?_
                rotate_left
                · intro w h; (try dsimp only at h); go_simp; try with_reducible rfl
                go_frame
                refine tk0 2 rfl (v := ?_) ?_ ?_
                rotate_left
                · intro w h; (try dsimp only at h); go_simp; try with_reducible rfl
                go_frame
                refine tk0 3 rfl (v := ?_) ?_ ?_
                rotate_left
                · intro w h; (try dsimp only at h); go_simp; try with_reducible rfl
                go_frame
                refine tk0 4 rfl (v := ?_) ?_ ?_
                rotate_left
                · intro w h; (try dsimp only at h); go_simp; try with_reducible rfl
                go_frame
                refine tk0 5 rfl (v := ?_) ?_ ?_
                rotate_left
                · intro w h; (try dsimp only at h); go_simp; try with_reducible rfl
                go_frame
                refine tk0 6 rfl (v := ?_) ?_ ?_
                rotate_left
                · intro w h; (try dsimp only at h); go_simp; try with_reducible rfl
                go_frame
                generalize hw7 : World.drew _ = w7 at *
                clear hw7
                refine wpAnyL_ready (rs := [7]) (by kernel_rfl) (by simp) ?_
                refine AllReadyL.cons0 (o := _) rfl (by kernel_rfl) (fun K hK => ?_) AllReadyL.nil
                have Ta := HT0.out.new (IV s.item) 35
                have HTa := Lib.hid Ta; clear Ta HT0
                go_simp
                refine hK.out _ _ ?_ (fun hHeld => ?_)
                · exact HFS.out _ _ _ HTa.out.drop rfl
                clear hK K
                refine wpAnyL_ready (rs := [8]) (by kernel_rfl) (by simp) ?_
                refine AllReadyL.cons0 (o := _) rfl (by kernel_rfl) (fun K hK => ?_) AllReadyL.nil
                have Tb := HTa.out.ord [3, 0, 1, 2]
                clear HTa
                obtain ⟨i0, hi0', hz0, hz1, hz2⟩ := itm_i
                have HOK := Lib.hid (itm_one s.item)
                refine step_append_vec (by rfl) _ _ _ (by rfl) 35 i0 _ 2 16 Try.underlying30 hi0' hz0 hz1 hz2 rfl (by omega) vi items.length (vl IV items) (by rfl) Tb ⟨w7.heap.size, 0, none⟩ 1 1 (IV s.item).toList (by rfl) (by rfl) (news_row Tb.row1) HOK.out (by omega) (by unfold maxLen; omega) (by omega) ?_
                intro gv' cap1 w12 T1
                have T1 := (T1.ord [2, 3, 0, 1])
                refine hK.out _ _ ?_ (fun hHeld => ?_)
                · exact HFS.out _ _ _ T1 rfl
                clear hK K Tb HOK
                refine tk1 9 HM.out rfl (v := ?_) ?_ ?_
                rotate_left
                · intro w h; (try dsimp only at h); go_simp; try with_reducible rfl
                simp only [Act.put, List.getElem_toArray, List.getElem_cons_succ, List.getElem_cons_zero, List.setIfInBounds_toArray, List.set_cons_zero, List.set_cons_succ]
                refine tk0 10 rfl (v := ?_) ?_ ?_
                rotate_left
                · intro w h; (try dsimp only at h); go_simp; try with_reducible rfl
                simp only [Act.put, List.getElem_toArray, List.getElem_cons_succ, List.getElem_cons_zero, List.setIfInBounds_toArray, List.set_cons_zero, List.set_cons_succ]
                have hf := row_frozen T1.row 0
                have T2 := T1.setCell 0 (.slice (some ⟨gv', 0, none⟩) (items.length + 1) cap1)
                have HT2 := Lib.hid T2; clear T1 T2
                refine wpAnyL_ready (rs := [11]) (by kernel_rfl) (by simp) ?_
                refine AllReadyL.cons1 (o := _) rfl (by kernel_rfl) (fun K hK => ?_) AllReadyL.nil
                go_simp
                refine hK.out _ _ trivial (fun hHeld => ?_)
                clear hK K hf HFS HM hi0' hz0 hz1 hz2
                refine wpAnyL_done (by kernel_rfl) ?_ _
                try simp only [Exit.then]
                generalize w12.setCell _ _ = w13 at *
                have T3 : Sts w (fun _ => False) w13 (rowR g (docC (.slice (some ⟨gv', 0, none⟩) (items.length + 1) cap1) vc vd) :: rowR gx (GSV s) :: vecR 35 2 (.slice (some ⟨gv', 0, none⟩) (items.length + 1) cap1) (items.length + 1) (vl IV items ++ (IV s.item).toList) :: rowR w7.heap.size (IV s.item) :: vecR 47 14 vc calls.length (vl CV calls) :: vecR 35 2 vd dn.length (vl IV dn) :: _) := HT2.out
                rw [show items.length + 1 = (items ++ [s.item]).length by simp, show vl IV items ++ (IV s.item).toList = vl IV (items ++ [s.item]) from (vl_snoc IV items s.item).symm] at T3
                have T4 := (T3.ord [3, 0, 1, 2, 4, 5]).drop
                have HT := Lib.hid T4; clear HT2 T3 T4
                generalize hvi : Value.slice (some ⟨gv', 0, none⟩) (items ++ [s.item]).length cap1 = vi2 at *
                clear hvi
                have HT2 := HT; clear HT
                have hlc := HLC.out
                have FS : ∀ W' X R', Sts w (fun _ => False) W' (rowR g X :: rowR gx (GSV s) :: R') → X[1]? = some vc → (W'.cell? ⟨g, 1, none⟩ = some vc ∧ row? W' gx = some (GSV s)) := fun W' X R' T h1 => ⟨by rw [row_cell T.row 1, h1], T.row1⟩
                have HFS := Lib.hid FS
                have HT0 := Lib.hid HT2.out.drew
                have S0 := HFS.out _ _ _ HT0.out rfl
                have HM := Lib.hid (show ∀ W' : World, (W'.cell? ⟨g, 1, none⟩ = some vc ∧ row? W' gx = some (GSV s)) → True from fun _ _ => trivial)
                clear HT2 FS
                go_upto_region 15 with fail
                refine wp_region_stage (fun W' => (W'.cell? ⟨g, 1, none⟩ = some vc ∧ row? W' gx = some (GSV s))) (fun _ => True) 11 (by kernel_rfl) S0 (fun hHeld => ?_)
                clear S0
                refine tk0 0 rfl (v := ?_) ?_ ?_
                rotate_left
                · intro w h; (try dsimp only at h); go_simp; try with_reducible rfl
                simp only [Act.put, List.getElem_toArray, List.getElem_cons_zero, List.setIfInBounds_toArray, List.set_cons_zero, List.set_cons_succ]
                refine tk0 1 rfl (v := ?_) ?_ ?_
                rotate_left
                · intro w h; (try dsimp only at h); go_simp; try with_reducible rfl
                go_frame
                refine tk0 2 rfl (v := ?_) ?_ ?_
                rotate_left
                · intro w h; (try dsimp only at h); go_simp; try with_reducible rfl
                go_frame
                refine tk0 3 rfl (v := ?_) ?_ ?_
                rotate_left
                · intro w h; (try dsimp only at h); go_simp; try with_reducible rfl
                go_frame
                refine tk0 4 rfl (v := ?_) ?_ ?_
                rotate_left
                · intro w h; (try dsimp only at h); go_simp; try with_reducible rfl
                go_frame
                refine tk0 5 rfl (v := ?_) ?_ ?_
                rotate_left
                · intro w h; (try dsimp only at h); go_simp; try with_reducible rfl
                go_frame
                refine tk0 6 rfl (v := ?_) ?_ ?_
                rotate_left
                · intro w h; (try dsimp only at h); go_simp; try with_reducible rfl
                go_frame
                generalize hw7 : World.drew _ = w7 at *
                clear hw7
                refine wpAnyL_ready (rs := [7]) (by kernel_rfl) (by simp) ?_
                refine AllReadyL.cons0 (o := _) rfl (by kernel_rfl) (fun K hK => ?_) AllReadyL.nil
                have Ta := HT0.out.new (CV s.call) 47
                have HTa := Lib.hid Ta; clear Ta HT0
                go_simp
                refine hK.out _ _ ?_ (fun hHeld => ?_)
                · exact HFS.out _ _ _ HTa.out.drop rfl
                clear hK K
                refine wpAnyL_ready (rs := [8]) (by kernel_rfl) (by simp) ?_
                refine AllReadyL.cons0 (o := _) rfl (by kernel_rfl) (fun K hK => ?_) AllReadyL.nil
                have Tb := HTa.out.ord [4, 0, 1, 2, 3]
                clear HTa
                obtain ⟨i0, hi0', hz0, hz1, hz2⟩ := cll_i
                have HOK := Lib.hid (cll_one s.call)
                refine step_append_vec (by rfl) _ _ _ (by rfl) 47 i0 _ 14 128 Try.underlying31 hi0' hz0 hz1 hz2 rfl (by omega) vc calls.length (vl CV calls) (by rfl) Tb ⟨w7.heap.size, 0, none⟩ 1 1 (CV s.call).toList (by rfl) (by rfl) (news_row Tb.row1) HOK.out (by omega) (by unfold maxLen; omega) (by omega) ?_
                intro gv' cap1 w12 T1
                have T1 := (T1.ord [2, 3, 0, 1])
                refine hK.out _ _ ?_ (fun hHeld => ?_)
                · exact HFS.out _ _ _ T1 rfl
                clear hK K Tb HOK
                refine tk1 9 HM.out rfl (v := ?_) ?_ ?_
                rotate_left
                · intro w h; (try dsimp only at h); go_simp; try with_reducible rfl
                simp only [Act.put, List.getElem_toArray, List.getElem_cons_succ, List.getElem_cons_zero, List.setIfInBounds_toArray, List.set_cons_zero, List.set_cons_succ]
                refine tk0 10 rfl (v := ?_) ?_ ?_
                rotate_left
                · intro w h; (try dsimp only at h); go_simp; try with_reducible rfl
                simp only [Act.put, List.getElem_toArray, List.getElem_cons_succ, List.getElem_cons_zero, List.setIfInBounds_toArray, List.set_cons_zero, List.set_cons_succ]
                have hf := row_frozen T1.row 1
                have T2 := T1.setCell 1 (.slice (some ⟨gv', 0, none⟩) (calls.length + 1) cap1)
                have HT2 := Lib.hid T2; clear T1 T2
                refine wpAnyL_ready (rs := [11]) (by kernel_rfl) (by simp) ?_
                refine AllReadyL.cons1 (o := _) rfl (by kernel_rfl) (fun K hK => ?_) AllReadyL.nil
                go_simp
                refine hK.out _ _ trivial (fun hHeld => ?_)
                clear hK K hf HFS HM hi0' hz0 hz1 hz2
                refine wpAnyL_done (by kernel_rfl) ?_ _
                try simp only [Exit.then]
                generalize w12.setCell _ _ = w13 at *
                have T3 : Sts w (fun _ => False) w13 (rowR g (docC vi2 (.slice (some ⟨gv', 0, none⟩) (calls.length + 1) cap1) vd) :: rowR gx (GSV s) :: vecR 47 14 (.slice (some ⟨gv', 0, none⟩) (calls.length + 1) cap1) (calls.length + 1) (vl CV calls ++ (CV s.call).toList) :: rowR w7.heap.size (CV s.call) :: vecR 35 2 vi2 (items ++ [s.item]).length (vl IV (items ++ [s.item])) :: vecR 35 2 vd dn.length (vl IV dn) :: _) := HT2.out
                rw [show calls.length + 1 = (calls ++ [s.call]).length by simp, show vl CV calls ++ (CV s.call).toList = vl CV (calls ++ [s.call]) from (vl_snoc CV calls s.call).symm] at T3
                have T4 := (T3.ord [3, 0, 1, 4, 2, 5]).drop
                have HT := Lib.hid T4; clear HT2 T3 T4
                go_wp2
                go_roundw
                case rel => exact ⟨i + 1, vi2, _, vd, comC m s.item s.call, q, items ++ [s.item], calls ++ [s.call], dn, by go_num, rfl, by omega, HB2.out, (HT.out.ord [1, 0]).drop⟩
                case measure => simp [intOf]; omega
              · have hneg' : 0 ≤ ai := by omega
                have hcv : canC m s.item s.call = false := by rw [HCC.out, decide_eq_false hneg]; rfl
                go_wp2_with fail
                have HCM := Lib.hid (grCommitD b gc gd m q HMB.out s.item s.call)
                have HCV := Lib.hid hcv
                rw [hcv] at HCM
                clear hcv
                refine (Does.at (L := grL b gc gd m q) (R := rowR g (docC vi vc vd) :: _) HCM.out (by have T0 := HT.out.ord [5, 6, 7, 0, 1, 2, 3, 4]; exact T0)).mono ?_
                clear HCM hr hlt ck HT
                rintro e8 w8 ⟨rfl, T⟩
                have T : Sts w (fun _ => False) w8 (rowR b #[.pointer (some ⟨gc, 0, none⟩), .pointer (some ⟨gd, 0, none⟩)] :: rowsIRK gc (comC m s.item s.call) :: rowsIRL gd q :: rowR g (docC vi vc vd) :: rowR gx (GSV s) :: vecR 35 2 vi items.length (vl IV items) :: vecR 47 14 vc calls.length (vl CV calls) :: vecR 35 2 vd dn.length (vl IV dn) :: R) := T
                have HT2 := Lib.hid (T.ord [3, 4, 5, 6, 7, 0, 1, 2]); clear T
                have hB2 := HB.out.same HCV.out
                have HB2 := Lib.hid hB2
                clear hB2
                go_wp2
                go_roundw
                case rel => exact ⟨i + 1, vi, vc, vd, comC m s.item s.call, q, items, calls, dn, by go_num, by first | rfl | (rw [decide_eq_false (show ¬ ai < 0 by omega)]; rfl), by omega, HB2.out, (HT2.out.ord [1, 0]).drop⟩
                case measure => simp [intOf]; omega
    · have hil' : ¬ (i : Int) < (l.length : Int) := by omega
      obtain rfl : i = l.length := by omega
      have HT := Lib.hid T; clear T
      go_wp2
      refine bodyPost_ret (results_tmp3 rfl _ _ _) rfl ?_
      exact ⟨b, gc, gd, g, vi, vc, vd, m, q, items, calls, dn, rfl, HB.out, HT.out⟩
end
end Go.Proofs.Ytnjgjhjilolanaa
