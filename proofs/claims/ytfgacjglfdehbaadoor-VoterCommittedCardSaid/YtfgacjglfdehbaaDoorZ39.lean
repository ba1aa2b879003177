/- Several texts in one. -/
import Derived.Test.YtfgacjglfdehbaaDoorZ38
import Derived.Test.YtfgacjglfdehbaaDoorZ29
import Derived.Test.YtfgacjglfdehbaaDoorZ32
import Derived.Test.YtfgacjglfdehbaaDoorZ31
import Derived.Test.YtfgacjglfdehbaaDoorZ22
import Derived.Test.YtfgacjglfdehbaaDoorZ28
/- Layer 15: what the document tells. -/
namespace Go.Proofs.YtfgacjglfdehbaaDoor
open Go.RowKit
set_option linter.unusedVariables false
set_option maxRecDepth 20000
attribute [local go_sem] row_alloc row_drew row_drewN row_ext row_setCell row_setRow size_ext setRow_alloc setRow_drew loadOf storeOf piece_lit loadVal_at storeVal_at allOne_lit buildOf buildRes_some
attribute [local go_sem high] cell_alloc frozen_alloc setCell_alloc cell_ext frozen_ext cell_setRow frozen_setRow
attribute [local go_sem ↓] TDeed_ld0 TDeed_st0 TDeed_fd0 TDeed_bd0
attribute [local go_sem] TDeed_size TDeed_one TDeed_piece TDeed_c0 TDeed_c1 TDeed_c2 TDeed_c3 TDeed_c4 TDeed_c5 TDeed_set_kind TDeed_set_key TDeed_set_val TDeed_set_ver TDeed_set_ses TDeed_set_num TDeed_ld TDeed_st TDeed_f_kind TDeed_f_key TDeed_f_val TDeed_f_ver TDeed_f_ses TDeed_f_num TDeed_bd TDeed_fl TDeed_fl_kind TDeed_fl_key TDeed_fl_val TDeed_fl_ver TDeed_fl_ses TDeed_fl_num
attribute [local go_sem high] TDeed_eql TDeed_neq
attribute [local go_sem ↓] index_deps0 load_deps0 store_deps0
attribute [local go_sem] DV_piece DV_size DV_one index_deps load_deps store_deps
attribute [local go_sem high] TDeps_eql TDeps_neq
attribute [local go_sem ↓] TCall_ld0 TCall_st0 TCall_fd0 TCall_bd0
attribute [local go_sem] TCall_size TCall_one TCall_piece TCall_c0 TCall_c1 TCall_c2 TCall_c3 TCall_c4 TCall_c5 TCall_c6 TCall_c7 TCall_c8 TCall_c9 TCall_c10 TCall_c11 TCall_c12 TCall_c13 TCall_p_deed TCall_put_deed TCall_p_deps TCall_put_deps TCall_set_seq TCall_ld TCall_st TCall_f_deed TCall_f_deps TCall_f_seq TCall_bd TCall_fl TCall_fl_deed TCall_fl_deps TCall_fl_seq
attribute [local go_sem high] TCall_eql TCall_neq
attribute [local go_sem ↓] TItem_ld0 TItem_st0 TItem_fd0 TItem_bd0
attribute [local go_sem] TItem_size TItem_one TItem_piece TItem_c0 TItem_c1 TItem_set_rep TItem_set_num TItem_ld TItem_st TItem_f_rep TItem_f_num TItem_bd TItem_fl TItem_fl_rep TItem_fl_num
attribute [local go_sem high] TItem_eql TItem_neq
attribute [local go_sem ↓] TBallot_ld0 TBallot_st0 TBallot_fd0 TBallot_bd0
attribute [local go_sem] TBallot_size TBallot_one TBallot_piece TBallot_c0 TBallot_c1 TBallot_set_round TBallot_set_rep TBallot_ld TBallot_st TBallot_f_round TBallot_f_rep TBallot_bd TBallot_fl TBallot_fl_round TBallot_fl_rep
attribute [local go_sem high] TBallot_eql TBallot_neq
attribute [local go_sem ↓] TInst_ld0 TInst_st0 TInst_fd0 TInst_bd0
attribute [local go_sem] TInst_size TInst_one TInst_piece TInst_c0 TInst_c1 TInst_c2 TInst_c3 TInst_c4 TInst_c5 TInst_c6 TInst_c7 TInst_c8 TInst_c9 TInst_c10 TInst_c11 TInst_c12 TInst_c13 TInst_c14 TInst_c15 TInst_c16 TInst_c17 TInst_c18 TInst_c19 TInst_p_prom TInst_put_prom TInst_p_vote TInst_put_vote TInst_set_status TInst_p_call TInst_put_call TInst_set_same TInst_ld TInst_st TInst_f_prom TInst_f_vote TInst_f_status TInst_f_call TInst_f_same TInst_bd TInst_fl TInst_fl_prom TInst_fl_vote TInst_fl_status TInst_fl_call TInst_fl_same
attribute [local go_sem high] TInst_eql TInst_neq
attribute [local go_sem ↓] TMsg_ld0 TMsg_st0 TMsg_fd0 TMsg_bd0
attribute [local go_sem] TMsg_size TMsg_one TMsg_piece TMsg_c0 TMsg_c1 TMsg_c2 TMsg_c3 TMsg_c4 TMsg_c5 TMsg_c6 TMsg_c7 TMsg_c8 TMsg_c9 TMsg_c10 TMsg_c11 TMsg_c12 TMsg_c13 TMsg_c14 TMsg_c15 TMsg_c16 TMsg_c17 TMsg_c18 TMsg_c19 TMsg_c20 TMsg_c21 TMsg_c22 TMsg_c23 TMsg_c24 TMsg_set_kind TMsg_set_frm TMsg_set_to TMsg_p_item TMsg_put_item TMsg_p_bal TMsg_put_bal TMsg_p_vote TMsg_put_vote TMsg_set_status TMsg_set_same TMsg_p_call TMsg_put_call TMsg_ld TMsg_st TMsg_f_kind TMsg_f_frm TMsg_f_to TMsg_f_item TMsg_f_bal TMsg_f_vote TMsg_f_status TMsg_f_same TMsg_f_call TMsg_bd TMsg_fl TMsg_fl_kind TMsg_fl_frm TMsg_fl_to TMsg_fl_item TMsg_fl_bal TMsg_fl_vote TMsg_fl_status TMsg_fl_same TMsg_fl_call
attribute [local go_sem high] TMsg_eql TMsg_neq
def aliveM : Msg := ⟨6, 0, 1, ⟨0, 1⟩, ⟨1, 0⟩, noBallot, 0, false, noCall⟩
theorem VotI.open {n : Int} (hs : sizeB n = true) : VotI n 0 (idxF (ents (mK n (goT n [])))) (openD n []) (mK n (goT n [])) := by
  refine ⟨SpI.open (sizeB_n hs) (by simp) 0, ?_, ?_⟩
  · simp [openD, goT_nil]
  · unfold sizeB at hs; simp at hs; omega
theorem alive_good : goodM aliveM 3 = true := by
  have h1 : noC aliveM = true := by unfold noC; exact eqA_refl _
  have h2 : noVote aliveM = true := by unfold noVote; exact eqA_refl _
  have h3 : knownB aliveM.kind = false := by decide
  have h4 : callsB aliveM.kind = false := by decide
  unfold goodM
  rw [h1, h2, h3, h4]
  decide
theorem alive_ans : ansM ⟨3, fun _ => []⟩ 1 aliveM = ⟨⟨7, 1, 0, ⟨0, 1⟩, ⟨1, 0⟩, noBallot, 0, false, noCall⟩, true, ⟨⟨1, 0⟩, noBallot, 0, noCall, false⟩⟩ := by
  have ha : atM ⟨3, fun _ => []⟩ aliveM.item = noInst := rfl
  unfold ansM
  rw [if_neg (by rintro (h | h) <;> first | exact h rfl | (rw [show goodM aliveM (RowsM.mk 3 fun _ => []).n = true from alive_good] at h; cases h)), ha]
  rfl
set_option maxHeartbeats 4000000 in
theorem alive15 {t : TypeId} {w W : World} {F : Nat → Prop} {R : List Res} (T : Sts w F W (kndR t :: R)) : Calls Tryd.prog 7 #[] W fun e W' => e = .returned (.bool true) ∧ Sts w F W' (kndR t :: R) := by
  go_enter Tryd.func7, Tryd.ntmps7
  go_wp2_with fail
  refine (newT T).mono ?_
  clear T
  rintro e w1 ⟨rfl, T⟩
  go_wp2_with fail
  refine (spOpenT T (by simp) 3 rfl).mono ?_
  clear T
  rintro e w2 ⟨s, lg, g, bk, bs, rfl, T⟩
  rw [goT_nil] at T
  generalize W.heap.size = p at *
  have T : Sts w F w2 (spL s lg p g bk bs idx0 [] 0 ⟨3, fun _ => []⟩ ++ kndR t :: R) := by
    have h : ents ⟨3, fun _ => []⟩ = [] := ents_nil (by omega)
    have T := T
    rw [show mK 3 [] = ⟨3, fun _ => []⟩ from rfl, h] at T
    exact T
  have hv : VotI 3 0 idx0 [] ⟨3, fun _ => []⟩ := by
    have h := VotI.open (n := 3) rfl
    rw [goT_nil, show mK 3 [] = ⟨3, fun _ => []⟩ from rfl, show ents ⟨3, fun _ => []⟩ = [] from ents_nil (by omega), show openD 3 [] = [] by simp [openD, goT_nil]] at h
    exact h
  have HA := Lib.hid (vans hv (by omega) 1 aliveM T); clear T hv
  go_wp2_with fail
  refine HA.out.mono ?_
  clear HA
  rintro e w3 ⟨rfl, I', D', safe', -, T⟩
  rw [alive_ans] at T ⊢
  have T1 := T.drop.drop.drop.drop
  have HT := Lib.hid (T1.new (MV ⟨7, 1, 0, ⟨0, 1⟩, ⟨1, 0⟩, noBallot, 0, false, noCall⟩) 34).drop; clear T T1
  go_wp2
  go_ret
  exact ⟨rfl, HT.out⟩
end Go.Proofs.YtfgacjglfdehbaaDoor
/- Layer 7: calls that answer in each world that bears the kinds. -/
namespace Go.Proofs.YtfgacjglfdehbaaDoor
open Go.RowKit
set_option linter.unusedVariables false
/-- A call that answers in each world that bears the kinds. -/
def AnsL (f : FuncId) (args : Array Value) (v : Value) : Prop := ∀ (t : TypeId) (W : World), W.heap[0]? = some (.cells KndV t (0, 0)) → Calls Tryd.prog f args W fun e W' => e = .returned v ∧ Below W.heap.size W W'
theorem AnsL.of_sts {f : FuncId} {args : Array Value} {v : Value} (h : ∀ (t : TypeId) (w : World), w.heap[0]? = some (.cells KndV t (0, 0)) → Calls Tryd.prog f args w fun e W' => e = .returned v ∧ Sts w (fun k => k = 0) W' [kndR t]) : AnsL f args v := fun t W h0 => (h t W h0).mono fun e W' ⟨he, hS⟩ => ⟨he, hS.belowK h0⟩
theorem AnsL.at {t : TypeId} {f : FuncId} {args : Array Value} {v : Value} {w W : World} {F : Nat → Prop} {L : List Res} (h : AnsL f args v) (T : Sts w F W (kndR t :: L)) : Calls Tryd.prog f args W fun e W' => e = .returned v ∧ Sts w F W' (kndR t :: L) := by
  obtain ⟨_, ha⟩ := T.at0
  exact (h t W ha.2).mono fun _ _ ⟨he, hb⟩ => ⟨he, T.pure hb⟩
end Go.Proofs.YtfgacjglfdehbaaDoor
/- VoterNacks: a refusal tells of a greater ballot than the one that was asked for, the one that is promised, and changes nothing. -/
namespace Go.Proofs.YtfgacjglfdehbaaDoor
open Go.RowKit
set_option linter.unusedVariables false
set_option maxRecDepth 20000
attribute [local go_sem] row_alloc row_drew row_drewN row_ext row_setCell row_setRow size_ext setRow_alloc setRow_drew loadOf storeOf piece_lit loadVal_at storeVal_at allOne_lit buildOf buildRes_some
attribute [local go_sem high] cell_alloc frozen_alloc setCell_alloc cell_ext frozen_ext cell_setRow frozen_setRow
attribute [local go_sem ↓] TDeed_ld0 TDeed_st0 TDeed_fd0 TDeed_bd0
attribute [local go_sem] TDeed_size TDeed_one TDeed_piece TDeed_c0 TDeed_c1 TDeed_c2 TDeed_c3 TDeed_c4 TDeed_c5 TDeed_set_kind TDeed_set_key TDeed_set_val TDeed_set_ver TDeed_set_ses TDeed_set_num TDeed_ld TDeed_st TDeed_f_kind TDeed_f_key TDeed_f_val TDeed_f_ver TDeed_f_ses TDeed_f_num TDeed_bd TDeed_fl TDeed_fl_kind TDeed_fl_key TDeed_fl_val TDeed_fl_ver TDeed_fl_ses TDeed_fl_num
attribute [local go_sem high] TDeed_eql TDeed_neq
attribute [local go_sem ↓] index_deps0 load_deps0 store_deps0
attribute [local go_sem] DV_piece DV_size DV_one index_deps load_deps store_deps
attribute [local go_sem high] TDeps_eql TDeps_neq
attribute [local go_sem ↓] TCall_ld0 TCall_st0 TCall_fd0 TCall_bd0
attribute [local go_sem] TCall_size TCall_one TCall_piece TCall_c0 TCall_c1 TCall_c2 TCall_c3 TCall_c4 TCall_c5 TCall_c6 TCall_c7 TCall_c8 TCall_c9 TCall_c10 TCall_c11 TCall_c12 TCall_c13 TCall_p_deed TCall_put_deed TCall_p_deps TCall_put_deps TCall_set_seq TCall_ld TCall_st TCall_f_deed TCall_f_deps TCall_f_seq TCall_bd TCall_fl TCall_fl_deed TCall_fl_deps TCall_fl_seq
attribute [local go_sem high] TCall_eql TCall_neq
attribute [local go_sem ↓] TItem_ld0 TItem_st0 TItem_fd0 TItem_bd0
attribute [local go_sem] TItem_size TItem_one TItem_piece TItem_c0 TItem_c1 TItem_set_rep TItem_set_num TItem_ld TItem_st TItem_f_rep TItem_f_num TItem_bd TItem_fl TItem_fl_rep TItem_fl_num
attribute [local go_sem high] TItem_eql TItem_neq
attribute [local go_sem ↓] TBallot_ld0 TBallot_st0 TBallot_fd0 TBallot_bd0
attribute [local go_sem] TBallot_size TBallot_one TBallot_piece TBallot_c0 TBallot_c1 TBallot_set_round TBallot_set_rep TBallot_ld TBallot_st TBallot_f_round TBallot_f_rep TBallot_bd TBallot_fl TBallot_fl_round TBallot_fl_rep
attribute [local go_sem high] TBallot_eql TBallot_neq
attribute [local go_sem ↓] TInst_ld0 TInst_st0 TInst_fd0 TInst_bd0
attribute [local go_sem] TInst_size TInst_one TInst_piece TInst_c0 TInst_c1 TInst_c2 TInst_c3 TInst_c4 TInst_c5 TInst_c6 TInst_c7 TInst_c8 TInst_c9 TInst_c10 TInst_c11 TInst_c12 TInst_c13 TInst_c14 TInst_c15 TInst_c16 TInst_c17 TInst_c18 TInst_c19 TInst_p_prom TInst_put_prom TInst_p_vote TInst_put_vote TInst_set_status TInst_p_call TInst_put_call TInst_set_same TInst_ld TInst_st TInst_f_prom TInst_f_vote TInst_f_status TInst_f_call TInst_f_same TInst_bd TInst_fl TInst_fl_prom TInst_fl_vote TInst_fl_status TInst_fl_call TInst_fl_same
attribute [local go_sem high] TInst_eql TInst_neq
attribute [local go_sem ↓] TMsg_ld0 TMsg_st0 TMsg_fd0 TMsg_bd0
attribute [local go_sem] TMsg_size TMsg_one TMsg_piece TMsg_c0 TMsg_c1 TMsg_c2 TMsg_c3 TMsg_c4 TMsg_c5 TMsg_c6 TMsg_c7 TMsg_c8 TMsg_c9 TMsg_c10 TMsg_c11 TMsg_c12 TMsg_c13 TMsg_c14 TMsg_c15 TMsg_c16 TMsg_c17 TMsg_c18 TMsg_c19 TMsg_c20 TMsg_c21 TMsg_c22 TMsg_c23 TMsg_c24 TMsg_set_kind TMsg_set_frm TMsg_set_to TMsg_p_item TMsg_put_item TMsg_p_bal TMsg_put_bal TMsg_p_vote TMsg_put_vote TMsg_set_status TMsg_set_same TMsg_p_call TMsg_put_call TMsg_ld TMsg_st TMsg_f_kind TMsg_f_frm TMsg_f_to TMsg_f_item TMsg_f_bal TMsg_f_vote TMsg_f_status TMsg_f_same TMsg_f_call TMsg_bd TMsg_fl TMsg_fl_kind TMsg_fl_frm TMsg_fl_to TMsg_fl_item TMsg_fl_bal TMsg_fl_vote TMsg_fl_status TMsg_fl_same TMsg_fl_call
attribute [local go_sem high] TMsg_eql TMsg_neq
theorem great_V {n : Int} {l : List Msg} (h : greatV n l = false) : sizeB n = true ∧ l.length ≤ 80 := by
  unfold greatV at h
  rw [Bool.or_eq_false_iff] at h
  have h2 := h.2
  unfold sizeB
  simp at h2 ⊢
  omega
theorem Sts.dropL {w W : World} {F : Nat → Prop} {R : List Res} : ∀ {L : List Res}, Sts w F W (L ++ R) → Sts w F W R
  | [], h => h
  | _ :: L, h => Sts.dropL (L := L) (Sts.drop h)
theorem Sts.only1 {w W : World} {F : Nat → Prop} {R : List Res} {r : Res} (h : Sts w F W (r :: R)) : Sts w F W [r] :=
  Sts.dropL (L := R) (h.perm (List.perm_append_comm (l₁ := [r]) (l₂ := R)))
theorem spAtV {w W : World} {F : Nat → Prop} {R : List Res} {s lg p g bk bs : Nat} {I : Idx} {D : List UInt8} {safe : Nat} {m : RowsM} (hm : RowsOk m) (x : Item) (T : Sts w F W (spL s lg p g bk bs I D safe m ++ R)) :
    Calls Tryd.prog 12 #[.pointer (some ⟨s, 0, none⟩), .agg (IV x)] W fun e W' => e = .returned (.agg (NV (atM m x))) ∧ Sts w F W' (spL s lg p g bk bs I D safe m ++ R) :=
  (Reads.at (L := spL s lg p g bk bs I D safe m) (spAtR s lg p g bk bs I D safe m hm x) T).mono fun _ _ ⟨h, hb⟩ => ⟨h, T.pure hb⟩
set_option maxHeartbeats 16000000 in
theorem law_nacks (n self : Int) (A : Option Addr) (c : Nat) (l : List Msg) (t : TypeId) (W : World) (h0 : W.heap[0]? = some (.cells KndV t (0, 0))) (hx : RowsIn W A 25 MV l) (hf : FitV l) :
    Calls Tryd.prog 4 #[.int .i64 n, .int .i64 self, .slice A l.length c] W fun e W' => e = .returned (.bool true) ∧ Below W.heap.size W W' := by
  have T := Sts.startK h0
  have HB : Hid (∀ W', Sts W (fun k => k = 0) W' [kndR t] → Below W.heap.size W W') := Lib.hid fun W' T => T.belowK h0
  have hll := hx.len
  go_enter Tryd.func4, Tryd.ntmps4
  go_wp2_with fail
  refine (alive15 T).mono ?_
  clear T
  rintro e w1 ⟨rfl, T⟩
  go_wp2_with fail
  refine (great15 n A c l W w1 _ _ HB.out hx hf T).mono ?_
  clear T
  rintro e w2 ⟨rfl, T⟩
  cases hg : greatV n l
  case true =>
    have HT := Lib.hid T; clear T
    go_wp2
    go_ret
    exact ⟨rfl, HB.out _ HT.out⟩
  case false =>
    obtain ⟨hs, h80⟩ := great_V hg
    have HX := Lib.hid hx; clear hx
    go_wp2_with fail
    refine (newT T).mono ?_
    clear T
    rintro e w3 ⟨rfl, T⟩
    generalize w2.heap.size = p at *
    go_wp2_with fail
    refine (spOpenT T (by simp) n hs).mono ?_
    clear T
    rintro e w4 ⟨s, lg, g, bk, bs, rfl, T⟩
    have hv := VotI.open hs
    generalize idxF (ents (mK n (goT n []))) = I0 at *
    generalize mK n (goT n []) = m0 at *
    generalize openD n [] = D0 at *
    generalize openF n [] 0 = f0 at *
    have T : Sts W (fun k => k = 0) w4 (spL s lg p g bk bs I0 D0 f0 m0 ++ [kndR t]) := T
    have HT := Lib.hid T; have HV := Lib.hid hv; clear T hv
    go_wp2_with fail
    go_loopw [28] (fun i wr => ∃ (j : Nat) (I : Idx) (D : List UInt8) (safe : Nat) (m : RowsM), j ≤ l.length ∧ i = .int .i64 j ∧ VotI n j I D m ∧ Sts W (fun k => k = 0) wr (spL s lg p g bk bs I D safe m ++ [kndR t])) (fun i _ => l.length - (intOf i).toNat)
    case atStart => exact ⟨0, I0, D0, f0, m0, by omega, rfl, HV.out, HT.out⟩
    case round =>
      clear HT HV
      obtain ⟨j, I, D, safe, m, hj0, rfl, hI, T⟩ := hrel
      by_cases hjl : j < l.length
      · cases A with
        | none => have := HX.out.nil rfl; subst this; simp at hjl
        | some a =>
          have TK : Sts W (fun k => k = 0) wr [kndR t] := T.drop.drop.drop.drop
          have hld := HX.out.load (P := Tryd.prog) (T := 34) TMsg_size TMsg_und rfl (by kernel_rfl) (HB.out _ TK) rfl hjl
          clear TK
          generalize l[j] = x at *
          have T1 : Sts W (fun k => k = 0) wr (idxR s lg bk bs I :: rowR lg (ledCells p g m.n) :: plR p D safe :: rowsIR g m :: [kndR t]) := T
          have T2 := (T1.new (MV x) 34).ord [1, 2, 3, 4, 0]
          have r0 := T2.row4; have l0 := row_lt r0; have c0 := row_cell r0
          generalize hgx : wr.heap.size = gx at *
          have T3 : Sts W (fun k => k = 0) _ (spL s lg p g bk bs I D safe m ++ [rowR gx (MV x), kndR t]) := T2
          have HAT := Lib.hid (spAtV hI.sp.ok x.item T3); have HI := Lib.hid hI
          have hat2 := at_after (m := m) (self := self) (x := x)
          unfold afterM at hat2
          have hans := fun h => ans_nack (m := m) (self := self) (x := x) h
          have hva := fun (W' : World) (R : List Res) (T : Sts W (fun k => k = 0) W' (spL s lg p g bk bs I D safe m ++ kndR t :: R)) => vans hI (by omega) self x T
          clear T T1 T2 T3 hI
          generalize hwas : atM m x.item = was at *
          generalize ansM m self x = q at *
          obtain ⟨out, ok, now⟩ := q
          dsimp only at hat2 hans hva
          have HAN := Lib.hid hans; have HA2 := Lib.hid hat2; have HVA := Lib.hid hva
          clear hans hat2 hva hwas
          go_wp2_with fail
          refine HAT.out.mono ?_
          clear HAT r0 l0 c0
          rintro e w5 ⟨rfl, T⟩
          have T1 : Sts W (fun k => k = 0) w5 (idxR s lg bk bs I :: rowR lg (ledCells p g m.n) :: plR p D safe :: rowsIR g m :: rowR gx (MV x) :: [kndR t]) := T
          have T2 := (T1.new (NV was) 46).ord [1, 2, 3, 4, 6, 0, 5]
          have T3 : Sts W (fun k => k = 0) _ (spL s lg p g bk bs I D safe m ++ kndR t :: [rowR w5.heap.size (NV was), rowR gx (MV x)]) := T2
          have r0 := (T2.ord [6, 0, 1, 2, 3, 4, 5]).row; have l0 := row_lt r0
          have HV := Lib.hid (HVA.out _ _ T3); clear HVA T T1 T2 T3
          generalize hgy : w5.heap.size = gy at *
          go_wp2_with fail
          refine HV.out.mono ?_
          clear HV r0 l0
          rintro e w6 ⟨rfl, I2, D2, safe2, hI2, T⟩
          dsimp only at hI2 T
          have hI3 := hI2.up (j := j + 1) (by have := growV_le m x.item now; omega)
          have hok2 := hI2.sp.ok
          have T1 : Sts W (fun k => k = 0) w6 (idxR s lg bk bs I2 :: rowR lg (ledCells p g (nowR m x.item now).n) :: plR p D2 safe2 :: rowsIR g (nowR m x.item now) :: kndR t :: rowR gy (NV was) :: rowR gx (MV x) :: []) := T
          have T2 := (T1.new (MV out) 34).ord [1, 2, 3, 4, 0, 6, 7, 5]
          have T3 : Sts W (fun k => k = 0) _ (spL s lg p g bk bs I2 D2 safe2 (nowR m x.item now) ++ [rowR w6.heap.size (MV out), rowR gy (NV was), rowR gx (MV x), kndR t]) := T2
          have r0 := (T2.ord [6, 0, 1, 2, 3, 4, 5, 7]).row; have l0 := row_lt r0; have c0 := row_cell r0
          have hat3 := spAtV hok2 x.item T3
          rw [HA2.out] at hat3
          have HAT := Lib.hid hat3; have HI2 := Lib.hid hI3
          clear HA2 T T1 T2 T3 hI2 hI3 hok2 hat3
          generalize hgz : w6.heap.size = gz at *
          go_wp2_with fail
          refine HAT.out.mono ?_
          clear HAT r0 l0 c0
          rintro e w7 ⟨rfl, T⟩
          have T1 : Sts W (fun k => k = 0) w7 (idxR s lg bk bs I2 :: rowR lg (ledCells p g (nowR m x.item now).n) :: plR p D2 safe2 :: rowsIR g (nowR m x.item now) :: rowR gz (MV out) :: rowR gy (NV was) :: rowR gx (MV x) :: [kndR t]) := T
          have T2 := (T1.new (NV now) 46).ord [0, 5, 6, 7, 1, 2, 3, 4, 8]
          have HT := Lib.hid T2; clear T T1 T2
          generalize hgn : w7.heap.size = gn at *
          cases ok
          case false =>
            have HT9 := Lib.hid (show Sts W (fun k => k = 0) _ (spL s lg p g bk bs I2 D2 safe2 (nowR m x.item now) ++ [kndR t]) from HT.out.drop.drop.drop.drop)
            clear HT HAN
            go_wp2
            go_roundw
            case rel => exact ⟨j + 1, I2, D2, safe2, _, by omega, by go_num, HI2.out, HT9.out⟩
            case measure => simp [intOf]; omega
          case true =>
            have HT9 := Lib.hid (show Sts W (fun k => k = 0) _ (spL s lg p g bk bs I2 D2 safe2 (nowR m x.item now) ++ [kndR t]) from HT.out.drop.drop.drop.drop)
            obtain ⟨a1, a2⟩ := HAN.out rfl
            clear HAN
            have rz := HT.out.row1; have lz := row_lt rz; have cz := row_cell rz
            have ry := HT.out.row2; have ly := row_lt ry; have cy := row_cell ry
            have rn := HT.out.row; have ln := row_lt rn; have cn := row_cell rn
            have rx := HT.out.row3; have lx := row_lt rx; have cx := row_cell rx
            cases k8 : (out.kind == 8)
            case true =>
              have k8n : (out.kind != 8) = false := by simp [bne, k8]
              obtain ⟨b1, b2, b3⟩ := a1 (by simpa using k8)
              have hl := rless_any x.bal out.bal
              rw [b1] at hl
              have he1 : eqA (BV out.bal) (BV now.prom) = true := by rw [b2]; exact eqA_refl _
              have he2 : eqA (NV now) (NV was) = true := by rw [b3]; exact eqA_refl _
              have HL := Lib.hid hl
              clear a1 a2 b1 b2 b3 hl HT9
              go_wp2_with fail
              refine (Ans.at HL.out HT.out).mono ?_
              clear HL HT rz lz cz ry ly cy rn ln cn rx lx cx
              rintro e w8 ⟨rfl, T⟩
              have HT := Lib.hid T; clear T
              have rz := HT.out.row1; have lz := row_lt rz; have cz := row_cell rz
              have ry := HT.out.row2; have ly := row_lt ry; have cy := row_cell ry
              have rn := HT.out.row; have ln := row_lt rn; have cn := row_cell rn
              have rx := HT.out.row3; have lx := row_lt rx; have cx := row_cell rx
              have HT9 := Lib.hid (show Sts W (fun k => k = 0) _ (spL s lg p g bk bs I2 D2 safe2 (nowR m x.item now) ++ [kndR t]) from HT.out.drop.drop.drop.drop)
              go_wp2
              go_roundw
              case rel => exact ⟨j + 1, I2, D2, safe2, _, by omega, by go_num, HI2.out, HT9.out⟩
              case measure => simp [intOf]; omega
            case false =>
              have k8n : (out.kind != 8) = true := by simp [bne, k8]
              cases k5 : (out.kind != 5)
              case false =>
                clear a1 a2
                go_wp2
                go_roundw
                case rel => exact ⟨j + 1, I2, D2, safe2, _, by omega, by go_num, HI2.out, HT9.out⟩
                case measure => simp [intOf]; omega
              case true =>
                obtain ⟨b1, b2⟩ := a2 (by simpa using k8) (by simpa using k5)
                have he1 : eqA (BV now.prom) (BV x.bal) = true := by rw [b1]; exact eqA_refl _
                have hl := rless_any x.bal was.prom
                rw [b2] at hl
                have HL := Lib.hid hl
                clear a1 a2 b1 b2 hl HT9
                go_wp2_with fail
                refine (Ans.at HL.out HT.out).mono ?_
                clear HL
                rintro e w8 ⟨rfl, T⟩
                have HT9 := Lib.hid (show Sts W (fun k => k = 0) _ (spL s lg p g bk bs I2 D2 safe2 (nowR m x.item now) ++ [kndR t]) from T.drop.drop.drop.drop)
                clear HT T
                go_wp2
                go_roundw
                case rel => exact ⟨j + 1, I2, D2, safe2, _, by omega, by go_num, HI2.out, HT9.out⟩
                case measure => simp [intOf]; omega
      · obtain rfl : j = l.length := by omega
        have TK : Sts W (fun k => k = 0) wr [kndR t] := T.drop.drop.drop.drop
        have HT := Lib.hid TK; clear T TK
        go_wp2
        go_ret
        exact ⟨rfl, HB.out _ HT.out⟩
end Go.Proofs.YtfgacjglfdehbaaDoor
/- Layer 15: what a space knows, as a book. -/
namespace Go.Proofs.YtfgacjglfdehbaaDoor
open Go.RowKit Go.Shelf
set_option linter.unusedVariables false
set_option maxRecDepth 20000
attribute [local go_sem] Oper.semAt_some
attribute [local go_sem] row_alloc row_drew row_drewN row_ext row_setCell row_setRow size_ext setRow_alloc setRow_drew loadOf storeOf piece_lit loadVal_at storeVal_at allOne_lit buildOf buildRes_some
attribute [local go_sem high] cell_alloc frozen_alloc setCell_alloc cell_ext frozen_ext cell_setRow frozen_setRow
attribute [local go_sem ↓] TDeed_ld0 TDeed_st0 TDeed_fd0 TDeed_bd0
attribute [local go_sem] TDeed_size TDeed_one TDeed_piece TDeed_c0 TDeed_c1 TDeed_c2 TDeed_c3 TDeed_c4 TDeed_c5 TDeed_set_kind TDeed_set_key TDeed_set_val TDeed_set_ver TDeed_set_ses TDeed_set_num TDeed_ld TDeed_st TDeed_f_kind TDeed_f_key TDeed_f_val TDeed_f_ver TDeed_f_ses TDeed_f_num TDeed_bd TDeed_fl TDeed_fl_kind TDeed_fl_key TDeed_fl_val TDeed_fl_ver TDeed_fl_ses TDeed_fl_num
attribute [local go_sem high] TDeed_eql TDeed_neq
attribute [local go_sem ↓] index_deps0 load_deps0 store_deps0
attribute [local go_sem] DV_piece DV_size DV_one index_deps load_deps store_deps
attribute [local go_sem high] TDeps_eql TDeps_neq
attribute [local go_sem ↓] TCall_ld0 TCall_st0 TCall_fd0 TCall_bd0
attribute [local go_sem] TCall_size TCall_one TCall_piece TCall_c0 TCall_c1 TCall_c2 TCall_c3 TCall_c4 TCall_c5 TCall_c6 TCall_c7 TCall_c8 TCall_c9 TCall_c10 TCall_c11 TCall_c12 TCall_c13 TCall_p_deed TCall_put_deed TCall_p_deps TCall_put_deps TCall_set_seq TCall_ld TCall_st TCall_f_deed TCall_f_deps TCall_f_seq TCall_bd TCall_fl TCall_fl_deed TCall_fl_deps TCall_fl_seq
attribute [local go_sem high] TCall_eql TCall_neq
attribute [local go_sem ↓] TItem_ld0 TItem_st0 TItem_fd0 TItem_bd0
attribute [local go_sem] TItem_size TItem_one TItem_piece TItem_c0 TItem_c1 TItem_set_rep TItem_set_num TItem_ld TItem_st TItem_f_rep TItem_f_num TItem_bd TItem_fl TItem_fl_rep TItem_fl_num
attribute [local go_sem high] TItem_eql TItem_neq
attribute [local go_sem ↓] TBallot_ld0 TBallot_st0 TBallot_fd0 TBallot_bd0
attribute [local go_sem] TBallot_size TBallot_one TBallot_piece TBallot_c0 TBallot_c1 TBallot_set_round TBallot_set_rep TBallot_ld TBallot_st TBallot_f_round TBallot_f_rep TBallot_bd TBallot_fl TBallot_fl_round TBallot_fl_rep
attribute [local go_sem high] TBallot_eql TBallot_neq
attribute [local go_sem ↓] TInst_ld0 TInst_st0 TInst_fd0 TInst_bd0
attribute [local go_sem] TInst_size TInst_one TInst_piece TInst_c0 TInst_c1 TInst_c2 TInst_c3 TInst_c4 TInst_c5 TInst_c6 TInst_c7 TInst_c8 TInst_c9 TInst_c10 TInst_c11 TInst_c12 TInst_c13 TInst_c14 TInst_c15 TInst_c16 TInst_c17 TInst_c18 TInst_c19 TInst_p_prom TInst_put_prom TInst_p_vote TInst_put_vote TInst_set_status TInst_p_call TInst_put_call TInst_set_same TInst_ld TInst_st TInst_f_prom TInst_f_vote TInst_f_status TInst_f_call TInst_f_same TInst_bd TInst_fl TInst_fl_prom TInst_fl_vote TInst_fl_status TInst_fl_call TInst_fl_same
attribute [local go_sem high] TInst_eql TInst_neq
section
variable {w W : World} {F : Nat → Prop} {R : List Res} {s lg p g bk bs : Nat} {I : Idx} {D : List UInt8} {safe : Nat} {m : RowsM}
def BookPostV (w : World) (F : Nat → Prop) (R : List Res) (s lg p g bk bs : Nat) (I : Idx) (D : List UInt8) (safe : Nat) (m : RowsM) (e : Ending) (W' : World) : Prop := ∃ b, e = .returned (.pointer (some ⟨b, 0, none⟩)) ∧ Sts w F W' (bookR b (ents m) :: (spL s lg p g bk bs I D safe m ++ R))
set_option maxHeartbeats 4000000 in
theorem bookV (hm : RowsOk m) (T : Sts w F W (spL s lg p g bk bs I D safe m ++ R)) :
    Calls Tryd.prog 17 #[.pointer (some ⟨s, 0, none⟩)] W (BookPostV w F R s lg p g bk bs I D safe m) := by
  refine (callsIn_wide (n := 4)).1 ?_
  refine callsIn_of_wp_marks Tryd.func17 rfl trivial ?_ rfl
  simp only [Tryd.ntmps17, List.size_toArray, List.length_cons, List.length_nil, Nat.reduceAdd, Nat.reduceSub, Array.replicate_succ, Array.replicate_zero, List.push_toArray, List.append_toArray, List.nil_append, List.cons_append]
  refine wpIn_wide.2 ?_
  have T1 := T.bookNew.new #[.pointer (some ⟨W.heap.size, 0, none⟩)] 56
  rw [World.size_alloc] at T1
  have T1 : Sts w F _ (rowR (W.heap.size + 1) #[.pointer (some ⟨W.heap.size, 0, none⟩)] :: bookR W.heap.size [] :: idxR s lg bk bs I :: rowR lg (ledCells p g m.n) :: plR p D safe :: rowsIR g m :: R) := T1
  have T1 := T1.ord [2, 3, 4, 5, 0, 1]
  have HT1 := Lib.hid T1
  clear T1 T
  go_wp2_with fail
  refine (spAllT (R := rowR (W.heap.size + 1) #[.pointer (some ⟨W.heap.size, 0, none⟩)] :: bookR W.heap.size [] :: R) HT1.out).mono ?_
  clear HT1
  rintro e w1 ⟨c, rfl, T⟩
  have HT := Lib.hid T; clear T
  go_wp2_with fail
  have T := HT.out; clear HT
  try simp only [World.size_alloc] at T ⊢
  generalize hb : W.heap.size + 1 = b at *
  generalize hb0 : W.heap.size = b0 at *
  clear hb hb0
  have T0 : Sts w F w1 ([bookR b0 ((ents m).take 0)] ++ (iterIR c g m ++ rowR b #[.pointer (some ⟨b0, 0, none⟩)] :: idxR s lg bk bs I :: rowR lg (ledCells p g m.n) :: plR p D safe :: R)) := by
    have T : Sts w F w1 (rowR c #[.pointer (some ⟨g, 0, none⟩)] :: rowsIR g m :: idxR s lg bk bs I :: rowR lg (ledCells p g m.n) :: plR p D safe :: rowR b #[.pointer (some ⟨b0, 0, none⟩)] :: bookR b0 [] :: R) := T
    have := T.ord [6, 0, 1, 5, 2, 3, 4]
    exact this
  clear T
  refine (wpIn_wide (n := 4)).1 ?_
  refine wp_rangeSts (gf := 71) (lb := #[.pointer (some ⟨c, 0, none⟩)]) (enc := fun x : Item × Inst => #[.agg (IV x.1), .agg (NV x.2)]) (xs := ents m)
    (fun k => [bookR b0 ((ents m).take k)]) (fun _ _ => [noR]) (iterIR c g m ++ rowR b #[.pointer (some ⟨b0, 0, none⟩)] :: idxR s lg bk bs I :: rowR lg (ledCells p g m.n) :: plR p D safe :: R)
    (fun k x a' own' => ∃ b1 b2, own' = [rowR b2 (NV x.2), rowR b1 (IV x.1), bookR b0 ((ents m).take k)] ∧ a' = { tmps := #[.pointer (some ⟨s, 0, none⟩), undef, .pointer none, .pointer (some ⟨b, 0, none⟩), .pointer (some ⟨b1, 0, none⟩), .pointer (some ⟨b2, 0, none⟩), .agg #[.slice none 0 0, .slice none 0 0], .pointer (some ⟨b0, 0, none⟩), .pointer (some ⟨s, 0, none⟩), .func (.func 71) #[] #[.pointer (some ⟨c, 0, none⟩)], .agg (IV x.1), .agg (NV x.2), undef, undef, undef, undef, undef], defers := [] })
    rfl (enters_of Tryd.func71 (by kernel_rfl) rfl) (fun _ => rfl) (Gives.part fun H hS => irAllG c g m hm _ H hS) T0 ?calm ?calmX ?assign ?body ?done ?stop
  case calm => exact fun k => calmL_cons (bookR_calm _ _ _) (calmL_nil _)
  case calmX => exact fun _ _ => calmL_cons (noR_calm _) (calmL_nil _)
  case assign =>
    intro lr k x W1 G1 K hx T1 hK
    have T2 := ((T1.new (IV x.1) 24).new (NV x.2) 46)
    rw [World.size_alloc] at T2
    have HT2 := Lib.hid T2
    clear T0 T1 T2
    gi_wp2
    exact hK _ _ _ ⟨_, _, rfl, rfl⟩ HT2.out
  case body =>
    rintro lr k x _ _ W1 G1 hx ⟨b1, b2, rfl, rfl⟩ T1 hread
    clear T0
    obtain ⟨F', w', TL⟩ := hread T1
    have TL : Sts w' F' W1 (rowR b2 (NV x.2) :: rowR b1 (IV x.1) :: bookR b0 ((ents m).take k) :: rowR c #[.pointer (some ⟨g, 0, none⟩)] :: rowsIR g m :: rowR b #[.pointer (some ⟨b0, 0, none⟩)] :: idxR s lg bk bs I :: rowR lg (ledCells p g m.n) :: plR p D safe :: R) := TL
    have rb := (TL.ord [5, 0, 1, 2, 3, 4]).row
    have lb := row_lt rb
    have cb : W1.cell? ⟨b, 0, none⟩ = some (.pointer (some ⟨b0, 0, none⟩)) := row_cell rb 0
    have r1 := T1.row; have r2 := T1.row1; have l1 := row_lt r1; have l2 := row_lt r2
    have hnx := setB_ents hm hx
    have hlen : ((ents m).take k).length ≤ 1000000 := by
      have h2 := ents_len hm
      have h3 : ((ents m).take k).length ≤ (ents m).length := List.length_take_le' _ _
      omega
    have hset := bookSetD b0 ((ents m).take k) hlen x.1 x.2
    rw [hnx] at hset
    have HSET := Lib.hid hset; have HT := Lib.hid T1
    clear hset hnx hlen TL hread T1 rb
    gi_wp2_with fail
    refine ⟨trivial, ?_⟩
    refine (CallsIn.inRound lr (callsIn_wide.2 (Does.at (R := [rowR b2 (NV x.2), rowR b1 (IV x.1)]) HSET.out (HT.out.ord [2, 0, 1])))).mono ?_
    rintro e w2 ⟨rfl, T⟩
    have T6 := (T.ord [1, 2, 0]).drop.drop
    have H6 := Lib.hid T6; clear T T6 HT HSET cb r1 r2
    gi_wp2
    exact H6.out
  case done =>
    intro D1 W1 T1
    clear T0
    rw [List.take_length] at T1
    have T1 : Sts w F W1 (objR D1 (.deferred (some [])) :: bookR b0 (ents m) :: rowR c #[.pointer (some ⟨g, 0, none⟩)] :: rowsIR g m :: rowR b #[.pointer (some ⟨b0, 0, none⟩)] :: idxR s lg bk bs I :: rowR lg (ledCells p g m.n) :: plR p D safe :: R) := T1
    have T2 := (T1.ord [2, 4, 0, 1, 5, 6, 7, 3])
    have rb := T2.row1
    have lb := row_lt rb
    have cb : W1.cell? ⟨b, 0, none⟩ = some (.pointer (some ⟨b0, 0, none⟩)) := row_cell rb 0
    have T3 := (T2.drop.ord [1, 0])
    have hD := T3.obj
    have T6 : Sts w F (W1.putObj D1 (.deferred none)) (bookR b0 (ents m) :: (spL s lg p g bk bs I D safe m ++ R)) := (T3.putObj (.deferred none)).drop.drop
    have HT := Lib.hid T6; have HD := Lib.hid hD; clear T1 T2 T3 T6 hD
    go_wp2
    exact retM1 HD.out (results_tmp rfl _ _ _) ⟨b0, rfl, HT.out⟩ rfl
  case stop =>
    intro D1 c1 k W1 _ _ T1
    exact (Sts.no T1.drop).elim
end
end Go.Proofs.YtfgacjglfdehbaaDoor
