/- Several texts in one. -/
import Derived.Test.YtnjgjhjilolanaaX39
import Derived.Test.YtnjgjhjilolanaaX3
/- RunLeft: what went is done, even if it is left while it is gone over. -/
namespace Go.Proofs.Ytnjgjhjilolanaa
open Go.RowKit Go.Shelf
set_option linter.unusedVariables false
set_option maxRecDepth 20000
attribute [local go_sem] Oper.semAt_some
attribute [local go_sem] row_alloc row_drew row_drewN row_ext row_setCell row_setRow size_ext setRow_alloc setRow_drew loadOf storeOf piece_lit loadVal_at storeVal_at allOne_lit buildOf buildRes_some
attribute [local go_sem high] cell_alloc frozen_alloc setCell_alloc cell_ext frozen_ext cell_setRow frozen_setRow
attribute [local go_sem ↓] TDeed_ld0 TDeed_st0 TDeed_fd0 TDeed_bd0
attribute [local go_sem] TDeed_size TDeed_one TDeed_piece TDeed_c0 TDeed_c1 TDeed_c2 TDeed_c3 TDeed_c4 TDeed_c5 TDeed_set_kind TDeed_set_key TDeed_set_val TDeed_set_ver TDeed_set_ses TDeed_set_num TDeed_ld TDeed_st TDeed_f_kind TDeed_f_key TDeed_f_val TDeed_f_ver TDeed_f_ses TDeed_f_num TDeed_bd TDeed_fl TDeed_fl_kind TDeed_fl_key TDeed_fl_val TDeed_fl_ver TDeed_fl_ses TDeed_fl_num
attribute [local go_sem high] TDeed_eql TDeed_neq
attribute [local go_sem ↓] index_deps0 load_deps0 store_deps0
attribute [local go_sem] DV_piece DV_size DV_one index_deps load_deps store_deps
attribute [local go_sem high] TDeps_eql TDeps_neq
attribute [local go_sem ↓] TCall_ld0 TCall_st0 TCall_fd0 TCall_bd0
attribute [local go_sem] TCall_size TCall_one TCall_piece TCall_c0 TCall_c1 TCall_c2 TCall_c3 TCall_c4 TCall_c5 TCall_c6 TCall_c7 TCall_c8 TCall_c9 TCall_c10 TCall_c11 TCall_c12 TCall_c13 TCall_p_deed TCall_put_deed TCall_p_deps TCall_put_deps TCall_set_seq TCall_ld TCall_st TCall_f_deed TCall_f_deps TCall_f_seq TCall_bd TCall_fl TCall_fl_deed TCall_fl_deps TCall_fl_seq
attribute [local go_sem high] TCall_eql TCall_neq
attribute [local go_sem ↓] TItem_ld0 TItem_st0 TItem_fd0 TItem_bd0
attribute [local go_sem] TItem_size TItem_one TItem_piece TItem_c0 TItem_c1 TItem_set_rep TItem_set_num TItem_ld TItem_st TItem_f_rep TItem_f_num TItem_bd TItem_fl TItem_fl_rep TItem_fl_num
attribute [local go_sem high] TItem_eql TItem_neq
attribute [local go_sem ↓] TRStep_ld0 TRStep_st0 TRStep_fd0 TRStep_bd0
attribute [local go_sem] TRStep_size TRStep_one TRStep_piece TRStep_c0 TRStep_c1 TRStep_c2 TRStep_c3 TRStep_c4 TRStep_c5 TRStep_c6 TRStep_c7 TRStep_c8 TRStep_c9 TRStep_c10 TRStep_c11 TRStep_c12 TRStep_c13 TRStep_c14 TRStep_c15 TRStep_c16 TRStep_p_item TRStep_put_item TRStep_p_call TRStep_put_call TRStep_set_goes TRStep_ld TRStep_st TRStep_f_item TRStep_f_call TRStep_f_goes TRStep_bd TRStep_fl TRStep_fl_item TRStep_fl_call TRStep_fl_goes
attribute [local go_sem high] TRStep_eql TRStep_neq
/-- What is open behind a commit. -/
noncomputable def nextO (m : RowsMK) (O : List Item) (x : Item) (c : Call) : List Item := if canC m x c = true then sortO (O ++ [x]) else O
theorem GBld.next {n : Int} {k : Nat} {m : RowsMK} {q : RowsML} {items : List Item} {calls : List Call} {O : List Item} (h : GBld n k m q items calls []) (hO : O.Perm items) (x : Item) (c : Call) :
    ∃ items' calls', GBld n (k + 1) (comC m x c) q items' calls' [] ∧ (nextO m O x c).Perm items' := by
  unfold nextO
  cases hc : canC m x c with
  | false =>
    rw [if_neg (by simp)]
    exact ⟨items, calls, h.same hc, hO⟩
  | true =>
    rw [if_pos rfl]
    exact ⟨_, _, h.commit hc, (sortO_perm _).trans (hO.append_right [x])⟩
section
variable {w W : World} {F : Nat → Prop} {R : List Res}
set_option maxHeartbeats 32000000 in
theorem law_left (n : Int) (A : Option Addr) (c : Nat) (l : List RStep) (stop : Int) (W : World) (hl : RowsIn W A 17 RSV l) :
    Calls Try.prog 7 #[.int .i64 n, .slice A l.length c, .int .i64 stop] W fun e W' => e = .returned (.bool true) ∧ Below W.heap.size W W' := by
  have hlen := hl.len
  have HL := Lib.hid hl; clear hl
  refine (callsIn_wide (n := 4)).1 ?_
  refine callsIn_of_wp_marks Try.func7 rfl trivial ?_ rfl
  simp only [Try.ntmps7, List.size_toArray, List.length_cons, List.length_nil, Nat.reduceAdd, Nat.reduceSub, Array.replicate_succ, Array.replicate_zero, List.push_toArray, List.append_toArray, List.nil_append, List.cons_append]
  refine wpIn_wide.2 ?_
  have T := (Sts.start0 W).new #[.int .i64 stop] 3
  have HAL := Lib.hid (alive19 T)
  clear T
  go_wp2_with fail
  refine HAL.out.mono ?_
  clear HAL
  rintro e1 w1 ⟨rfl, T⟩
  have HT := Lib.hid T; clear T
  generalize hgs : W.heap.size = gs at *
  obtain ⟨gb, hgb⟩ : ∃ v, v = greatG n l.length := ⟨_, rfl⟩
  have HG := Lib.hid (fun w => great19 n A l.length c (by omega) w)
  rw [← hgb] at HG
  have HGB := Lib.hid hgb; clear hgb
  go_wp2_with fail
  refine (HG.out _).mono ?_
  clear HG
  rintro e2 w2 ⟨rfl, rfl⟩
  cases gb
  case true =>
    go_wp2
    refine retM0 (results_tmp rfl _ _ _) ⟨rfl, ?_⟩ rfl
    first | exact HT.out.below | (rw [← hgs]; exact HT.out.below)
  case false =>
    obtain ⟨hn, hl25⟩ := great_no HGB.out.symm
    have hnn : newN n = n := by unfold newN; rcases hn with rfl | rfl | rfl <;> rfl
    have HN1 := Lib.hid (runNewT n (by omega) HT.out)
    have HHN := Lib.hid hn
    clear hn
    go_wp2_with fail
    refine HN1.out.mono ?_
    clear HN1 HT
    rintro e3 w3 ⟨ra, rfl, T⟩
    have hHN := HHN.out
    have HN2 := Lib.hid (runNewT n (by omega) T)
    clear T hHN
    go_wp2_with fail
    refine HN2.out.mono ?_
    clear HN2
    rintro e4 w4 ⟨rb, rfl, T⟩
    rw [hnn] at T
    have HT := Lib.hid (T.ord [1, 0, 2]); clear T
    go_wp2_with fail
    go_loopw [23] (fun u23 wr => ∃ (i : Nat) (m : RowsMK) (O items : List Item) (calls : List Call), u23 = .int .i64 i ∧ i ≤ l.length ∧ GBld n i m ⟨n, fun _ => []⟩ items calls [] ∧ O.Perm items ∧ Sts W (fun _ => False) wr [runR ra m ⟨n, fun _ => []⟩ [] O, runR rb m ⟨n, fun _ => []⟩ [] O, rowR gs #[.int .i64 stop]]) (fun u23 _ => l.length - (intOf u23).toNat)
    case atStart => exact ⟨0, _, [], [], [], rfl, Nat.zero_le _, GBld.new n, List.Perm.refl _, HT.out⟩
    case round =>
      clear HT
      obtain ⟨i, m, O, items, calls, hrel⟩ := hrel
      obtain ⟨rfl, hi, hB, hO, T⟩ := hrel
      have HB := Lib.hid hB; have HO := Lib.hid hO; clear hB hO
      by_cases hil : i < l.length
      · have hil' : (i : Int) < (l.length : Int) := by omega
        have hi0 : (0 : Int) ≤ (i : Int) := by omega
        cases A with
        | none => have := HL.out.nil rfl; subst this; simp at hil
        | some a =>
          have hbel : Below W.heap.size W wr := by first | exact T.below | (rw [hgs]; exact T.below)
          have hld := HL.out.load (P := Try.prog) (T := 59) TRStep_size (by first | exact TRStep_und | exact Try.underlying59) rfl (by kernel_rfl) hbel rfl hil
          generalize l[i] = s at *
          have T2 := (T.new (RSV s) 59).ord [1, 2, 0, 3]
          have hOl : O.length < 49 := by rw [HO.out.length_eq]; have := HB.out.lei; omega
          have hmb : 0 ≤ m.n ∧ m.n ≤ 7 := by rw [HB.out.mn]; rcases HHN.out with h | h | h <;> omega
          have hr := T2.row2; have hlt := row_lt hr
          have HC1 := Lib.hid (runCommitT hmb hOl s.item s.call T2)
          have HOL := Lib.hid hOl; have HMB := Lib.hid hmb
          clear T T2 hbel hOl hmb
          go_upto_region 9 with fail
          generalize wr.alloc _ = w5 at *
          generalize wr.heap.size = gx at *
          clear hld
          go_wp2_with fail
          refine HC1.out.mono ?_
          clear HC1 hr hlt
          rintro e6 w6 ⟨rfl, T⟩
          have T2 := T.ord [1, 0, 2]
          have hr := T2.row2; have hlt := row_lt hr
          have HC2 := Lib.hid (runCommitT HMB.out HOL.out s.item s.call T2)
          clear T T2
          go_wp2_with fail
          refine HC2.out.mono ?_
          clear HC2 hr hlt
          rintro e7 w7 ⟨rfl, T⟩
          obtain ⟨items', calls', hB2, hO2⟩ := HB.out.next HO.out s.item s.call
          have HB2 := Lib.hid hB2; have HO2 := Lib.hid hO2
          have HT := Lib.hid (T.ord [2, 1, 0]).drop
          clear T hB2 hO2
          go_wp2
          go_roundw
          case rel => exact ⟨i + 1, _, _, _, _, by go_num, by omega, HB2.out, HO2.out, HT.out⟩
          case measure => simp [intOf]; omega
      · have hil' : ¬ (i : Int) < (l.length : Int) := by omega
        have hOl : O.length ≤ 25 := by rw [HO.out.length_eq]; have := HB.out.lei; omega
        have hil2 : items.length ≤ 25 := by have := HB.out.lei; omega
        have hmb : 0 ≤ m.n ∧ m.n ≤ 7 := by rw [HB.out.mn]; rcases HHN.out with h | h | h <;> omega
        have hqb : 0 ≤ n ∧ n ≤ 7 := by rcases HHN.out with h | h | h <;> omega
        have hG : GInv m items := HB.out.inv (by omega)
        have hOI : ∀ y ∈ O, InI y := fun y hy => hG.fits y (HO.out.mem_iff.1 hy)
        have hOc : ∀ y ∈ O, (getMK m y).isSome = true := fun y hy => (HB.out.is y).2 (HO.out.mem_iff.1 hy)
        have HOC := Lib.hid hOc; have HOI := Lib.hid hOI; have HGI := Lib.hid hG; have HMN := Lib.hid (show m.n = (⟨n, fun _ => []⟩ : RowsML).n from HB.out.mn)
        have HP1 := Lib.hid (passT (q := ⟨n, fun _ => []⟩) hmb hqb hG (by omega) (by omega) hOI (by simp) T)
        clear T hOc hOI
        go_wp2_with fail
        refine HP1.out.mono ?_
        clear HP1
        rintro e5 w5 ⟨rfl, T⟩
        have T2 := T.new #[.int .i64 0] 3
        have T3 := T2.ord [2, 1, 0, 3]
        have HG2 := Lib.hid (runGoT (r := rb) T3)
        clear T T2 T3
        go_wp2_with fail
        generalize w5.alloc _ = w6 at *
        generalize w5.heap.size = gk at *
        refine HG2.out.mono ?_
        clear HG2
        rintro e7 w7 ⟨g1, rfl, T⟩
        have T0 : Sts W (fun _ => False) w7 ([rowR gk #[.int .i64 ((([] : List Item).length : Nat) : Int)], rowR gs #[.int .i64 stop]] ++ ([rowR g1 #[.pointer (some ⟨rb, 0, none⟩)], runR rb m ⟨n, fun _ => []⟩ [] O] ++ [goneR ra m items ⟨n, fun _ => []⟩ [] O])) := by
          have T1 := T.ord [3, 4, 0, 1, 2]
          exact T1
        have HT0 := Lib.hid T0
        clear T T0
        go_wp2_with fail
        refine (wpIn_wide (n := 4)).1 ?_
        refine wp_rangeT (gf := 57) (lb := #[.pointer (some ⟨g1, 0, none⟩)]) (enc := fun x : Item => #[.agg (IV x), .agg (CV (callM m x))]) (O := fun xs => ∃ q1 O1, GoR m items O ⟨n, fun _ => []⟩ O q1 O1 xs)
          (fun pre => [rowR gk #[.int .i64 ((pre.length : Nat) : Int)], rowR gs #[.int .i64 stop]]) (fun c _ => match c with | .exit 2 => [] | _ => [noR]) [rowR g1 #[.pointer (some ⟨rb, 0, none⟩)], runR rb m ⟨n, fun _ => []⟩ [] O] [rowR g1 #[.pointer (some ⟨rb, 0, none⟩)], goneR rb m items ⟨n, fun _ => []⟩ [] O] [goneR ra m items ⟨n, fun _ => []⟩ [] O]
          (fun pre y a' own' => own' = [rowR gk #[.int .i64 ((pre.length : Nat) : Int)], rowR gs #[.int .i64 stop]] ∧ a' = { tmps := List.toArray (.int .i64 n :: .slice A l.length c :: .int .i64 stop :: undef :: undef :: .pointer (some ⟨gs, 0, none⟩) :: .bool false :: .pointer (some ⟨ra, 0, none⟩) :: .pointer (some ⟨rb, 0, none⟩) :: undef :: u10 :: .pointer (some ⟨gk, 0, none⟩) :: .bool true :: .bool false :: .int .i64 n :: .slice A l.length c :: .bool false :: .int .i64 n :: .pointer (some ⟨ra, 0, none⟩) :: .int .i64 n :: .pointer (some ⟨rb, 0, none⟩) :: .slice A l.length c :: .int .i64 l.length :: .int .i64 i :: .bool false :: u25 :: u26 :: u27 :: u28 :: u29 :: u30 :: u31 :: u32 :: u33 :: u34 :: u35 :: u36 :: u37 :: u38 :: u39 :: .pointer (some ⟨ra, 0, none⟩) :: .tuple #[] :: .pointer (some ⟨rb, 0, none⟩) :: .func (.func 57) #[] #[.pointer (some ⟨g1, 0, none⟩)] :: .agg (IV y) :: .agg (CV (callM m y)) :: undef :: undef :: undef :: undef :: undef :: undef :: undef :: undef :: undef :: undef :: undef :: undef :: undef :: undef :: undef :: undef :: undef :: undef :: undef :: []), defers := [] })
          rfl (enters_of Try.func57 (by kernel_rfl) rfl) (fun _ => rfl) (runGoG hmb hqb HGI.out (by omega) (by omega) HOI.out (by simp)) HT0.out ?assign ?body ?done ?stop
        case assign =>
          intro lr pre x w F W1 R K hx T1 hK
          clear HT0
          gi_wp2
          exact hK _ _ _ ⟨rfl, by first | rfl | kernel_rfl | simp⟩ T1
        case body =>
          rintro lr pre x _ _ w F W1 R ⟨post, q1, O1, hx⟩ ⟨rfl, rfl⟩ T1
          clear HT0
          have hpl : pre.length ≤ 2401 := by
            have h1 := hx.len HGI.out (by omega)
            rw [List.length_append] at h1
            omega
          have T1 : Sts w F W1 (rowR gk #[.int .i64 ((pre.length : Nat) : Int)] :: rowR gs #[.int .i64 stop] :: rowR g1 #[.pointer (some ⟨rb, 0, none⟩)] :: goneR rb m items ⟨n, fun _ => []⟩ [] O :: R) := T1
          obtain ⟨k, hk⟩ : ∃ k, k = pre.length := ⟨_, rfl⟩
          have HK := Lib.hid hk
          rw [← hk] at T1 hpl
          have hw : IntKind.i64.wrap ((k : Int) + 1) = ((k + 1 : Nat) : Int) := by rw [IntKind.wrap_i64] <;> omega
          have r0 := T1.row; have l0 := row_lt r0; have c0 := row_cell r0 0; have f0 := row_frozen r0 0
          have r1 := T1.row1; have l1 := row_lt r1; have c1 := row_cell r1 0
          have hne := T1.ne; have hne2 := hne.symm
          have T2 := T1.setCell 0 (.int .i64 ((k + 1 : Nat) : Int))
          have HT := Lib.hid T2
          clear T1 T2 hx hk
          by_cases hst : stop ≤ ((k + 1 : Nat) : Int)
          · gi_wp2
            exact HT.out.drop.drop
          · gi_wp2
            have T3 := HT.out
            have e1 : ((pre ++ [x]).length : Nat) = k + 1 := by rw [List.length_append, HK.out]; rfl
            show Sts w F _ ([rowR gk #[.int .i64 (((pre ++ [x]).length : Nat) : Int)], rowR gs #[.int .i64 stop]] ++ _)
            rw [e1]
            exact T3
        case done =>
          intro D1 W1 xs hxs T1
          clear HT0
          have T : Sts W (fun _ => False) W1 [objR D1 (.deferred (some [])), goneR rb m items ⟨n, fun _ => []⟩ [] O, goneR ra m items ⟨n, fun _ => []⟩ [] O] := by
            have T1 : Sts W (fun _ => False) W1 (objR D1 (.deferred (some [])) :: rowR gk #[.int .i64 ((xs.length : Nat) : Int)] :: rowR gs #[.int .i64 stop] :: rowR g1 #[.pointer (some ⟨rb, 0, none⟩)] :: goneR rb m items ⟨n, fun _ => []⟩ [] O :: goneR ra m items ⟨n, fun _ => []⟩ [] O :: []) := T1
            exact (T1.ord [1, 2, 3, 0, 4, 5]).drop.drop.drop
          clear T1 hxs
          obtain ⟨q1, O1, l1, hgo, Ta⟩ := (T.ord [2, 0, 1]).goneOpen
          have Tb : Sts W (fun _ => False) W1 [runR rb m q1 l1 O1, runR ra m q1 l1 O1, objR D1 (.deferred (some []))] := (Ta.ord [2, 0, 1]).goneSame hgo
          have hbd := hgo.bad HGI.out HMN.out (fun y _ => by rw [getML_new]; rfl) HOC.out
          have hl1 : l1.length ≤ 2401 := by have := hgo.len HGI.out (by omega); omega
          have hO1 : O1.length ≤ 25 := Nat.le_trans hgo.sub.length_le hOl
          have hq1 : 0 ≤ q1.n ∧ q1.n ≤ 7 := by rw [hgo.done, doneM_n]; exact hqb
          have hbad : ∀ y ∈ O1, Bad m q1 y := fun y hy => hbd.2.2.2 y ((hbd.1 y).1 hy).1 ((hbd.1 y).1 hy).2
          have HBAD := Lib.hid hbad
          have HP := Lib.hid (passT (its := items) hmb hq1 HGI.out (by omega) (by omega) (fun y hy => HOI.out y (hgo.sub.mem hy)) (by omega) Tb)
          clear T Ta Tb hbd hgo hbad hq1
          go_wp2_with fail
          refine HP.out.mono ?_
          clear HP
          rintro e8 w8 ⟨rfl, T⟩
          obtain ⟨q2, O2, l2, hgo2, Ta⟩ := T.goneOpen
          obtain ⟨rfl, rfl, rfl⟩ := GoR.none HGI.out HBAD.out hgo2
          rw [List.append_nil] at Ta
          have HD1 := Lib.hid (runDoneT (D := l1) (by omega) (Ta.ord [1, 0, 2]))
          clear T Ta hgo2 HBAD
          go_wp2_with fail
          refine HD1.out.mono ?_
          clear HD1
          rintro e9 w9 ⟨va, rfl, T⟩
          have HD2 := Lib.hid (runDoneT (D := l1) (by omega) (T.ord [2, 0, 1, 3]))
          clear T
          go_wp2_with fail
          refine HD2.out.mono ?_
          clear HD2
          rintro e10 w10 ⟨vb, rfl, T⟩
          have HR := Lib.hid (rowSameT (l := l1) (by omega) (T.ord [2, 0, 1, 3, 4]))
          clear T
          go_wp2_with fail
          refine HR.out.mono ?_
          clear HR
          rintro e11 w11 ⟨rfl, T⟩
          have HD1 := Lib.hid (runOpenT (O := O2) (by omega) (T.drop.drop.ord [1, 0, 2]))
          clear T
          go_wp2_with fail
          refine HD1.out.mono ?_
          clear HD1
          rintro e12 w12 ⟨va2, rfl, T⟩
          have HD2 := Lib.hid (runOpenT (O := O2) (by omega) (T.ord [2, 0, 1, 3]))
          clear T
          go_wp2_with fail
          refine HD2.out.mono ?_
          clear HD2
          rintro e13 w13 ⟨vb2, rfl, T⟩
          have HR := Lib.hid (rowSameT (l := O2) (by omega) (T.ord [2, 0, 1, 3, 4]))
          clear T
          go_wp2_with fail
          refine HR.out.mono ?_
          clear HR
          rintro e14 w14 ⟨rfl, T⟩
          have T2 := T.ord [4, 0, 1, 2, 3]
          have hD := T2.obj
          have T6 := T2.putObj (.deferred none)
          have HT := Lib.hid T6; have HD := Lib.hid hD; clear T T2 T6 hD
          go_wp2
          refine retM1 HD.out (results_tmp rfl _ _ _) ⟨rfl, ?_⟩ rfl
          first | exact HT.out.below | (rw [← hgs]; exact HT.out.below)
        case stop =>
          intro D1 c1 pre W1 T1
          clear HT0
          by_cases hc1 : c1 = .exit 2
          · subst hc1
            have T : Sts W (fun _ => False) W1 [objR D1 (.deferred (some [])), goneR rb m items ⟨n, fun _ => []⟩ [] O, goneR ra m items ⟨n, fun _ => []⟩ [] O] := by
              have T1 : Sts W (fun _ => False) W1 (objR D1 (.deferred (some [])) :: rowR g1 #[.pointer (some ⟨rb, 0, none⟩)] :: goneR rb m items ⟨n, fun _ => []⟩ [] O :: goneR ra m items ⟨n, fun _ => []⟩ [] O :: []) := T1
              exact (T1.ord [1, 0, 2, 3]).drop
            clear T1
            refine wpIn_wide.2 ?_
            obtain ⟨q1, O1, l1, hgo, Ta⟩ := (T.ord [2, 0, 1]).goneOpen
            have Tb : Sts W (fun _ => False) W1 [runR rb m q1 l1 O1, runR ra m q1 l1 O1, objR D1 (.deferred (some []))] := (Ta.ord [2, 0, 1]).goneSame hgo
            have hbd := hgo.bad HGI.out HMN.out (fun y _ => by rw [getML_new]; rfl) HOC.out
            have hl1 : l1.length ≤ 2401 := by have := hgo.len HGI.out (by omega); omega
            have hO1 : O1.length ≤ 25 := Nat.le_trans hgo.sub.length_le hOl
            have hq1 : 0 ≤ q1.n ∧ q1.n ≤ 7 := by rw [hgo.done, doneM_n]; exact hqb
            have hbad : ∀ y ∈ O1, Bad m q1 y := fun y hy => hbd.2.2.2 y ((hbd.1 y).1 hy).1 ((hbd.1 y).1 hy).2
            have HBAD := Lib.hid hbad
            have HP := Lib.hid (passT (its := items) hmb hq1 HGI.out (by omega) (by omega) (fun y hy => HOI.out y (hgo.sub.mem hy)) (by omega) Tb)
            clear T Ta Tb hbd hgo hbad hq1
            go_wp2_with fail
            refine HP.out.mono ?_
            clear HP
            rintro e8 w8 ⟨rfl, T⟩
            obtain ⟨q2, O2, l2, hgo2, Ta⟩ := T.goneOpen
            obtain ⟨rfl, rfl, rfl⟩ := GoR.none HGI.out HBAD.out hgo2
            rw [List.append_nil] at Ta
            have HD1 := Lib.hid (runDoneT (D := l1) (by omega) (Ta.ord [1, 0, 2]))
            clear T Ta hgo2 HBAD
            go_wp2_with fail
            refine HD1.out.mono ?_
            clear HD1
            rintro e9 w9 ⟨va, rfl, T⟩
            have HD2 := Lib.hid (runDoneT (D := l1) (by omega) (T.ord [2, 0, 1, 3]))
            clear T
            go_wp2_with fail
            refine HD2.out.mono ?_
            clear HD2
            rintro e10 w10 ⟨vb, rfl, T⟩
            have HR := Lib.hid (rowSameT (l := l1) (by omega) (T.ord [2, 0, 1, 3, 4]))
            clear T
            go_wp2_with fail
            refine HR.out.mono ?_
            clear HR
            rintro e11 w11 ⟨rfl, T⟩
            have HD1 := Lib.hid (runOpenT (O := O2) (by omega) (T.drop.drop.ord [1, 0, 2]))
            clear T
            go_wp2_with fail
            refine HD1.out.mono ?_
            clear HD1
            rintro e12 w12 ⟨va2, rfl, T⟩
            have HD2 := Lib.hid (runOpenT (O := O2) (by omega) (T.ord [2, 0, 1, 3]))
            clear T
            go_wp2_with fail
            refine HD2.out.mono ?_
            clear HD2
            rintro e13 w13 ⟨vb2, rfl, T⟩
            have HR := Lib.hid (rowSameT (l := O2) (by omega) (T.ord [2, 0, 1, 3, 4]))
            clear T
            go_wp2_with fail
            refine HR.out.mono ?_
            clear HR
            rintro e14 w14 ⟨rfl, T⟩
            have T2 := T.ord [4, 0, 1, 2, 3]
            have hD := T2.obj
            have T6 := T2.putObj (.deferred none)
            have HT := Lib.hid T6; have HD := Lib.hid hD; clear T T2 T6 hD
            go_wp2
            refine retM1 HD.out (results_tmp rfl _ _ _) ⟨rfl, ?_⟩ rfl
            first | exact HT.out.below | (rw [← hgs]; exact HT.out.below)
          · exfalso
            split at T1
            · exact hc1 rfl
            · exact Sts.no T1.drop
end
end Go.Proofs.Ytnjgjhjilolanaa
