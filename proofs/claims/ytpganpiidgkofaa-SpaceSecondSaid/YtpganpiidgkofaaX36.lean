/- Several texts in one. -/
import Derived.Test.YtpganpiidgkofaaX31
import Derived.Test.YtpganpiidgkofaaX23
import Derived.Test.YtpganpiidgkofaaX32
import Derived.Test.YtpganpiidgkofaaX6
import Derived.Test.YtpganpiidgkofaaX4
/- Layer 12: the space is alive. -/
namespace Go.Proofs.Ytpganpiidgkofaa
open Go.RowKit
set_option linter.unusedVariables false
set_option maxRecDepth 20000
attribute [local go_sem] row_alloc row_drew row_drewN row_ext row_setCell row_setRow size_ext setRow_alloc setRow_drew loadOf storeOf piece_lit loadVal_at storeVal_at allOne_lit buildOf buildRes_some
attribute [local go_sem high] cell_alloc frozen_alloc setCell_alloc cell_ext frozen_ext cell_setRow frozen_setRow
attribute [local go_sem ↓] TDeed_ld0 TDeed_st0 TDeed_fd0 TDeed_bd0
attribute [local go_sem] TDeed_size TDeed_one TDeed_piece TDeed_c0 TDeed_c1 TDeed_c2 TDeed_c3 TDeed_c4 TDeed_c5 TDeed_set_kind TDeed_set_key TDeed_set_val TDeed_set_ver TDeed_set_ses TDeed_set_num TDeed_ld TDeed_st TDeed_f_kind TDeed_f_key TDeed_f_val TDeed_f_ver TDeed_f_ses TDeed_f_num TDeed_bd TDeed_fl TDeed_fl_kind TDeed_fl_key TDeed_fl_val TDeed_fl_ver TDeed_fl_ses TDeed_fl_num
attribute [local go_sem high] TDeed_eql TDeed_neq
attribute [local go_sem ↓] index_deps0 load_deps0 store_deps0
attribute [local go_sem] DV_piece DV_size DV_one index_deps load_deps store_deps
attribute [local go_sem high] TDeps_eql TDeps_neq
attribute [local go_sem ↓] TCall_ld0 TCall_st0 TCall_fd0 TCall_bd0
attribute [local go_sem] TCall_size TCall_one TCall_piece TCall_c0 TCall_c1 TCall_c2 TCall_c3 TCall_c4 TCall_c5 TCall_c6 TCall_c7 TCall_c8 TCall_c9 TCall_c10 TCall_c11 TCall_c12 TCall_c13 TCall_p_deed TCall_put_deed TCall_p_deps TCall_put_deps TCall_set_seq TCall_ld TCall_st TCall_f_deed TCall_f_deps TCall_f_seq TCall_bd TCall_fl TCall_fl_deed TCall_fl_deps TCall_fl_seq
attribute [local go_sem high] TCall_eql TCall_neq
attribute [local go_sem ↓] TItem_ld0 TItem_st0 TItem_fd0 TItem_bd0
attribute [local go_sem] TItem_size TItem_one TItem_piece TItem_c0 TItem_c1 TItem_set_rep TItem_set_num TItem_ld TItem_st TItem_f_rep TItem_f_num TItem_bd TItem_fl TItem_fl_rep TItem_fl_num
attribute [local go_sem high] TItem_eql TItem_neq
attribute [local go_sem ↓] TBallot_ld0 TBallot_st0 TBallot_fd0 TBallot_bd0
attribute [local go_sem] TBallot_size TBallot_one TBallot_piece TBallot_c0 TBallot_c1 TBallot_set_round TBallot_set_rep TBallot_ld TBallot_st TBallot_f_round TBallot_f_rep TBallot_bd TBallot_fl TBallot_fl_round TBallot_fl_rep
attribute [local go_sem high] TBallot_eql TBallot_neq
attribute [local go_sem ↓] TInst_ld0 TInst_st0 TInst_fd0 TInst_bd0
attribute [local go_sem] TInst_size TInst_one TInst_piece TInst_c0 TInst_c1 TInst_c2 TInst_c3 TInst_c4 TInst_c5 TInst_c6 TInst_c7 TInst_c8 TInst_c9 TInst_c10 TInst_c11 TInst_c12 TInst_c13 TInst_c14 TInst_c15 TInst_c16 TInst_c17 TInst_c18 TInst_c19 TInst_p_prom TInst_put_prom TInst_p_vote TInst_put_vote TInst_set_status TInst_p_call TInst_put_call TInst_set_same TInst_ld TInst_st TInst_f_prom TInst_f_vote TInst_f_status TInst_f_call TInst_f_same TInst_bd TInst_fl TInst_fl_prom TInst_fl_vote TInst_fl_status TInst_fl_call TInst_fl_same
attribute [local go_sem high] TInst_eql TInst_neq
def aliveD : Deed := ⟨2, ⟨#[97]⟩, ⟨#[]⟩, 0, 0, 0⟩
def aliveS : Inst := { noInst with status := 1, call := ⟨aliveD, fun _ => 0, 4⟩ }
theorem aliveS_good : goodN aliveS 3 = true := by
  unfold goodN
  have h1 : goodBal aliveS.prom 3 = true := by decide
  have h2 : goodBal aliveS.vote 3 = true := by decide
  have h3 : goodC aliveS.call 3 = true := by decide
  rw [h1, h2, h3]
  have h4 : (aliveS.status != 0) = true := by decide
  rw [h4]
  decide
theorem aliveS_add : addM [] 0 ⟨3, fun _ => []⟩ aliveX aliveS = (recOf (aliveX, aliveS), 0, setM ⟨3, fun _ => []⟩ aliveX aliveS, 0) := by
  have hl : (recOf (aliveX, aliveS)).length ≤ 310 := recOf_len (goodI_in alive_goodI (by omega)).1 (goodI_in alive_goodI (by omega)).2 (goodN_in aliveS_good (by omega))
  have ht : tightP [] 0 ⟨3, fun _ => []⟩ (recOf (aliveX, aliveS)).length = ([], 0, 0) := by unfold tightP; rw [if_neg (by simp; omega)]
  unfold addM
  rw [if_pos ⟨alive_goodI, aliveS_good⟩, ht, if_pos rfl, if_pos (by simp; omega)]
  rfl
theorem alive_know : knowI idx0 [] 0 ⟨3, fun _ => []⟩ aliveX aliveS = ⟨1, updK (fun _ => []) aliveD.key [aliveX], [], fun _ => []⟩ := by
  unfold knowI
  rw [aliveS_add]
  have hw : wasM ⟨3, fun _ => []⟩ aliveX = noDeed := by unfold wasM; rw [getM_new]; rfl
  have hne : eqA (EV noDeed) (EV aliveS.call.deed) = false := eqA_no.2 fun e => by
    have h := congrArg (fun a : Array Value => a[0]?) e
    simp [EV, noDeed, aliveS, aliveD] at h
  rw [hw, if_pos ⟨rfl, hne⟩]
  rw [findM_key (by decide) (by decide), findS_no (by decide)]
  rfl
def aliveW : WayR := ⟨withD (fun _ => 0) 1 2, 5⟩
theorem alive_way : wayM (setM ⟨3, fun _ => []⟩ aliveX aliveS) aliveD noItem [aliveX] = aliveW := by
  show wayStep _ _ _ noWay aliveX = _
  unfold wayStep
  have hg : getM (setM ⟨3, fun _ => []⟩ aliveX aliveS) aliveX = some aliveS := getM_set_same _ alive_goodI
  rw [hg]
  have h1 : eqA (IV aliveX) (IV noItem) = false := eqA_no.2 fun e => by
    have h := IV_inj e
    simp [aliveX, noItem] at h
  have h2 : clashB aliveS.call.deed aliveD = true := by simp [clashB, touchB, aboutB, writes, aliveS, aliveD]
  simp only [Option.getD]
  rw [if_pos ⟨h1, h2⟩]
  rfl
theorem alive_deps : eqA (DV aliveW.out) #[.int .i64 0, .int .i64 2, .int .i64 0, .int .i64 0, .int .i64 0, .int .i64 0, .int .i64 0] = true := by
  have : DV aliveW.out = #[.int .i64 0, .int .i64 2, .int .i64 0, .int .i64 0, .int .i64 0, .int .i64 0, .int .i64 0] := rfl
  rw [this, eqA_refl]
set_option maxHeartbeats 4000000 in
theorem alive12 : Ans Try.prog 30 #[] (.bool true) := by
  refine Ans.of_sts fun w => ?_
  have T := Sts.start0 w
  go_enter Try.func30, Try.ntmps30
  go_wp2_with fail
  refine (newT T).mono ?_
  clear T
  rintro e w1 ⟨rfl, T⟩
  go_wp2_with fail
  refine (spOpenT T (by simp) 3 rfl).mono ?_
  clear T
  rintro e w2 ⟨s, lg, g, bk, bs, rfl, T⟩
  rw [goT_nil] at T
  generalize w.heap.size = p at *
  have T : Sts w (fun _ => False) w2 (spL s lg p g bk bs idx0 [] 0 ⟨3, fun _ => []⟩) := by
    have h : ents ⟨3, fun _ => []⟩ = [] := ents_nil (by omega)
    have T := T
    rw [show mK 3 [] = ⟨3, fun _ => []⟩ from rfl, h] at T
    exact T
  have HT := Lib.hid T; clear T
  go_wp2_with fail
  have hkn := spKnowD s lg p g bk bs idx0 idx0_ok (by decide) [] 0 ⟨3, fun _ => []⟩ (RowsOk.new (by omega)) (RowsGood.new 3) (by simp) aliveX aliveS
  rw [aliveS_add, alive_know] at hkn
  dsimp only at hkn
  have hmo : RowsOk (setM ⟨3, fun _ => []⟩ aliveX aliveS) := (RowsOk.new (by omega)).set _ _
  have hmg : RowsGood (setM ⟨3, fun _ => []⟩ aliveX aliveS) := (RowsGood.new 3).set alive_goodI aliveS_good
  have hio : IdxOk ⟨1, updK (fun _ => []) aliveD.key [aliveX], [], fun _ => []⟩ := by
    have := (idx0_ok.find (x := aliveX) (d := aliveD) (by decide)).1
    rw [show findM idx0 aliveX aliveD = ⟨1, updK (fun _ => []) aliveD.key [aliveX], [], fun _ => []⟩ by rw [findM_key (by decide) (by decide), findS_no (by decide)]; rfl] at this
    exact this
  have T2 := (HT.out.new (EV aliveD) 33).ord [1, 2, 3, 4, 0]
  have HT2 := Lib.hid T2; have HKN := Lib.hid hkn; clear T2 hkn
  refine (Does.at (R := [rowR w2.heap.size (EV aliveD)]) HKN.out HT2.out).mono ?_
  clear HT HT2 HKN
  rintro e w3 ⟨rfl, T⟩
  have hway := fun {W : World} {R : List Res} (T : Sts w (fun _ => False) W (spL s lg p g bk bs ⟨1, updK (fun _ => []) aliveD.key [aliveX], [], fun _ => []⟩ (recOf (aliveX, aliveS)) 0 (setM ⟨3, fun _ => []⟩ aliveX aliveS) ++ R)) => spWayT hmo hmg aliveD noItem (fun xs => xs = [aliveX]) (fun c1 c2 W0 H hS => by
    have h := nearG s lg bk bs c1 c2 ⟨1, updK (fun _ => []) aliveD.key [aliveX], [], fun _ => []⟩ hio aliveD (by decide) (by decide) (by unfold intKOk; decide) W0 H hS
    dsimp only at h
    rw [updK_same] at h
    exact h) (by decide) T
  have T3 : Sts w (fun _ => False) w3 [idxR s lg bk bs ⟨1, updK (fun _ => []) aliveD.key [aliveX], [], fun _ => []⟩, rowR lg (ledCells p g (setM ⟨3, fun _ => []⟩ aliveX aliveS).n), plR p (recOf (aliveX, aliveS)) 0, rowsIR g (setM ⟨3, fun _ => []⟩ aliveX aliveS), rowR w2.heap.size (EV aliveD)] := T
  have r3 := (T3.ord [4, 0, 1, 2, 3]).row; have l3 := row_lt r3
  have HW := Lib.hid (hway T)
  clear hway T T3
  generalize w2.heap.size = g3 at *
  go_wp2_with fail
  refine HW.out.mono ?_
  clear HW r3 l3
  rintro e w4 ⟨xs, rfl, rfl, T⟩
  have hdv : DV aliveW.out = #[.int .i64 0, .int .i64 2, .int .i64 0, .int .i64 0, .int .i64 0, .int .i64 0, .int .i64 0] := rfl
  have hsq : aliveW.seq = 5 := rfl
  rw [alive_way, hdv, hsq]
  have HT := Lib.hid T; clear T
  have heq : ∀ w, (Op.equalIn 10000 35 (.agg #[.int .i64 0, .int .i64 2, .int .i64 0, .int .i64 0, .int .i64 0, .int .i64 0, .int .i64 0]) (.agg #[.int .i64 0, .int .i64 2, .int .i64 0, .int .i64 0, .int .i64 0, .int .i64 0, .int .i64 0])).run Try.prog w = .ok true w := fun w => by
    have h := TDeps_eq 9998 aliveW.out aliveW.out w
    rw [eqA_refl] at h
    exact h
  clear hdv hsq
  go_wp2
  go_ret
  exact ⟨rfl, HT.out.nil.keep _⟩
end Go.Proofs.Ytpganpiidgkofaa
/- Layer 12: more than is played? -/
namespace Go.Proofs.Ytpganpiidgkofaa
open Go.RowKit
set_option linter.unusedVariables false
set_option maxRecDepth 20000
attribute [local go_sem] row_alloc row_drew row_drewN row_ext row_setCell row_setRow size_ext setRow_alloc setRow_drew loadOf storeOf piece_lit loadVal_at storeVal_at allOne_lit buildOf buildRes_some
attribute [local go_sem high] cell_alloc frozen_alloc setCell_alloc cell_ext frozen_ext cell_setRow frozen_setRow
attribute [local go_sem ↓] TDeed_ld0 TDeed_st0 TDeed_fd0 TDeed_bd0
attribute [local go_sem] TDeed_size TDeed_one TDeed_piece TDeed_c0 TDeed_c1 TDeed_c2 TDeed_c3 TDeed_c4 TDeed_c5 TDeed_set_kind TDeed_set_key TDeed_set_val TDeed_set_ver TDeed_set_ses TDeed_set_num TDeed_ld TDeed_st TDeed_f_kind TDeed_f_key TDeed_f_val TDeed_f_ver TDeed_f_ses TDeed_f_num TDeed_bd TDeed_fl TDeed_fl_kind TDeed_fl_key TDeed_fl_val TDeed_fl_ver TDeed_fl_ses TDeed_fl_num
attribute [local go_sem high] TDeed_eql TDeed_neq
attribute [local go_sem ↓] index_deps0 load_deps0 store_deps0
attribute [local go_sem] DV_piece DV_size DV_one index_deps load_deps store_deps
attribute [local go_sem high] TDeps_eql TDeps_neq
attribute [local go_sem ↓] TCall_ld0 TCall_st0 TCall_fd0 TCall_bd0
attribute [local go_sem] TCall_size TCall_one TCall_piece TCall_c0 TCall_c1 TCall_c2 TCall_c3 TCall_c4 TCall_c5 TCall_c6 TCall_c7 TCall_c8 TCall_c9 TCall_c10 TCall_c11 TCall_c12 TCall_c13 TCall_p_deed TCall_put_deed TCall_p_deps TCall_put_deps TCall_set_seq TCall_ld TCall_st TCall_f_deed TCall_f_deps TCall_f_seq TCall_bd TCall_fl TCall_fl_deed TCall_fl_deps TCall_fl_seq
attribute [local go_sem high] TCall_eql TCall_neq
attribute [local go_sem ↓] TItem_ld0 TItem_st0 TItem_fd0 TItem_bd0
attribute [local go_sem] TItem_size TItem_one TItem_piece TItem_c0 TItem_c1 TItem_set_rep TItem_set_num TItem_ld TItem_st TItem_f_rep TItem_f_num TItem_bd TItem_fl TItem_fl_rep TItem_fl_num
attribute [local go_sem high] TItem_eql TItem_neq
attribute [local go_sem ↓] TBallot_ld0 TBallot_st0 TBallot_fd0 TBallot_bd0
attribute [local go_sem] TBallot_size TBallot_one TBallot_piece TBallot_c0 TBallot_c1 TBallot_set_round TBallot_set_rep TBallot_ld TBallot_st TBallot_f_round TBallot_f_rep TBallot_bd TBallot_fl TBallot_fl_round TBallot_fl_rep
attribute [local go_sem high] TBallot_eql TBallot_neq
attribute [local go_sem ↓] TInst_ld0 TInst_st0 TInst_fd0 TInst_bd0
attribute [local go_sem] TInst_size TInst_one TInst_piece TInst_c0 TInst_c1 TInst_c2 TInst_c3 TInst_c4 TInst_c5 TInst_c6 TInst_c7 TInst_c8 TInst_c9 TInst_c10 TInst_c11 TInst_c12 TInst_c13 TInst_c14 TInst_c15 TInst_c16 TInst_c17 TInst_c18 TInst_c19 TInst_p_prom TInst_put_prom TInst_p_vote TInst_put_vote TInst_set_status TInst_p_call TInst_put_call TInst_set_same TInst_ld TInst_st TInst_f_prom TInst_f_vote TInst_f_status TInst_f_call TInst_f_same TInst_bd TInst_fl TInst_fl_prom TInst_fl_vote TInst_fl_status TInst_fl_call TInst_fl_same
attribute [local go_sem high] TInst_eql TInst_neq
attribute [local go_sem ↓] TSCall_ld0 TSCall_st0 TSCall_fd0 TSCall_bd0
attribute [local go_sem] TSCall_size TSCall_one TSCall_piece TSCall_c0 TSCall_c1 TSCall_c2 TSCall_c3 TSCall_c4 TSCall_c5 TSCall_c6 TSCall_c7 TSCall_c8 TSCall_c9 TSCall_c10 TSCall_c11 TSCall_c12 TSCall_c13 TSCall_c14 TSCall_c15 TSCall_c16 TSCall_c17 TSCall_c18 TSCall_c19 TSCall_c20 TSCall_c21 TSCall_c22 TSCall_c23 TSCall_c24 TSCall_set_kind TSCall_p_item TSCall_put_item TSCall_p_inst TSCall_put_inst TSCall_set_keep TSCall_set_spoil TSCall_ld TSCall_st TSCall_f_kind TSCall_f_item TSCall_f_inst TSCall_f_keep TSCall_f_spoil TSCall_bd TSCall_fl TSCall_fl_kind TSCall_fl_item TSCall_fl_inst TSCall_fl_keep TSCall_fl_spoil
attribute [local go_sem high] TSCall_eql TSCall_neq
def overS (x : SCall) : Bool := decide ((200 : Int) < (x.inst.call.deed.key.size : Int) + (x.inst.call.deed.val.size : Int))
def greatS (l : List SCall) : Bool := l.any overS || decide ((60 : Int) < (l.length : Int))
def FitS (l : List SCall) : Prop := ∀ x ∈ l, x.inst.call.deed.key.size ≤ 140737488351232 ∧ x.inst.call.deed.val.size ≤ 140737488351232
set_option maxHeartbeats 4000000 in
theorem great12 (A : Option Addr) (c : Nat) (l : List SCall) (w W : World) (R : List Res) (hx : RowsIn w A 25 SCV l) (hf : FitS l) (T : Sts w (fun _ => False) W R) :
    Calls Try.prog 31 #[.slice A l.length c] W fun e W' => e = .returned (.bool (greatS l)) ∧ Sts w (fun _ => False) W' R := by
  have hll := hx.len
  go_enter Try.func31, Try.ntmps31
  go_wp2_with fail
  go_loopw [7] (fun i wr => ∃ k : Nat, k ≤ l.length ∧ i = .int .i64 k ∧ (l.take k).any overS = false ∧ Sts w (fun _ => False) wr R) (fun i _ => l.length - (intOf i).toNat)
  case atStart => exact ⟨0, by omega, rfl, rfl, T⟩
  case round =>
    clear T
    obtain ⟨k, hk0, rfl, hno, T⟩ := hrel
    by_cases hkl : k < l.length
    · cases A with
      | none => have := hx.nil rfl; subst this; simp at hkl
      | some a =>
        have hld := hx.load (P := Try.prog) (T := 72) TSCall_size TSCall_und rfl (by kernel_rfl) T.below rfl hkl
        obtain ⟨hk1, hk2⟩ := hf l[k] (List.getElem_mem hkl)
        have hoj : l[k]? = some l[k] := List.getElem?_eq_getElem hkl
        have hme : l[k] ∈ l := List.getElem_mem hkl
        have HF := Lib.hid hf; clear hf
        generalize l[k] = x at *
        have T := T.new (SCV x) 72
        have hr := T.row; have hlt := row_lt hr; have hc := row_cell hr
        have HM := Lib.hid hme; have HO := Lib.hid hoj; have HNO := Lib.hid hno; have HT := Lib.hid T
        clear hme hoj hno T
        cases hov : overS x
        case false =>
          have hg : decide ((200 : Int) < (x.inst.call.deed.key.size : Int) + (x.inst.call.deed.val.size : Int)) = false := hov
          go_wp2
          go_roundw
          case rel => exact ⟨k + 1, by omega, by go_num, by rw [List.take_add_one, HO.out, List.any_append, HNO.out]; simp [hov], HT.out.drop⟩
          case measure => simp [intOf]; omega
        case true =>
          have hg : decide ((200 : Int) < (x.inst.call.deed.key.size : Int) + (x.inst.call.deed.val.size : Int)) = true := hov
          have hm : greatS l = true := by
            unfold greatS
            rw [Bool.or_eq_true]; left
            rw [List.any_eq_true]
            exact ⟨x, HM.out, hov⟩
          have HG := Lib.hid hm; clear hm
          go_wp2
          go_ret
          exact ⟨by rw [HG.out]; rfl, HT.out.drop⟩
    · obtain rfl : k = l.length := by omega
      rw [List.take_length] at hno
      have hm : greatS l = decide ((60 : Int) < (l.length : Int)) := by unfold greatS; rw [hno]; rfl
      have HG := Lib.hid hm; have HT := Lib.hid T; clear hm T
      go_wp2
      go_ret
      exact ⟨by rw [HG.out]; rfl, HT.out⟩
end Go.Proofs.Ytpganpiidgkofaa
