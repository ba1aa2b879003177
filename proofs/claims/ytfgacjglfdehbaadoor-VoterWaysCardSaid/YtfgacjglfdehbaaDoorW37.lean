/- Several texts in one. -/
import Derived.Test.YtfgacjglfdehbaaDoorW36
import Derived.Test.YtfgacjglfdehbaaDoorW27
import Derived.Test.YtfgacjglfdehbaaDoorW30
import Derived.Test.YtfgacjglfdehbaaDoorW29
import Derived.Test.YtfgacjglfdehbaaDoorW5
import Derived.Test.YtfgacjglfdehbaaDoorW23
import Derived.Deep.LoopGhost
/- Layer 15: what the document tells. -/
namespace Go.Proofs.YtfgacjglfdehbaaDoor
open Go.RowKit
set_option linter.unusedVariables false
set_option maxRecDepth 20000
attribute [local go_sem] row_alloc row_drew row_drewN row_ext row_setCell row_setRow size_ext setRow_alloc setRow_drew loadOf storeOf piece_lit loadVal_at storeVal_at allOne_lit buildOf buildRes_some
attribute [local go_sem high] cell_alloc frozen_alloc setCell_alloc cell_ext frozen_ext cell_setRow frozen_setRow
attribute [local go_sem ↓] TDeed_ld0 TDeed_st0 TDeed_fd0 TDeed_bd0
attribute [local go_sem] TDeed_size TDeed_one TDeed_piece TDeed_c0 TDeed_c1 TDeed_c2 TDeed_c3 TDeed_c4 TDeed_c5 TDeed_set_kind TDeed_set_key TDeed_set_val TDeed_set_ver TDeed_set_ses TDeed_set_num TDeed_ld TDeed_st TDeed_f_kind TDeed_f_key TDeed_f_val TDeed_f_ver TDeed_f_ses TDeed_f_num TDeed_bd TDeed_fl TDeed_fl_kind TDeed_fl_key TDeed_fl_val TDeed_fl_ver TDeed_fl_ses TDeed_fl_num
attribute [local go_sem high] TDeed_eql TDeed_neq
attribute [local go_sem ↓] index_deps0 load_deps0 store_deps0
attribute [local go_sem] DV_piece DV_size DV_one index_deps load_deps store_deps
attribute [local go_sem high] TDeps_eql TDeps_neq
attribute [local go_sem ↓] TCall_ld0 TCall_st0 TCall_fd0 TCall_bd0
attribute [local go_sem] TCall_size TCall_one TCall_piece TCall_c0 TCall_c1 TCall_c2 TCall_c3 TCall_c4 TCall_c5 TCall_c6 TCall_c7 TCall_c8 TCall_c9 TCall_c10 TCall_c11 TCall_c12 TCall_c13 TCall_p_deed TCall_put_deed TCall_p_deps TCall_put_deps TCall_set_seq TCall_ld TCall_st TCall_f_deed TCall_f_deps TCall_f_seq TCall_bd TCall_fl TCall_fl_deed TCall_fl_deps TCall_fl_seq
attribute [local go_sem high] TCall_eql TCall_neq
attribute [local go_sem ↓] TItem_ld0 TItem_st0 TItem_fd0 TItem_bd0
attribute [local go_sem] TItem_size TItem_one TItem_piece TItem_c0 TItem_c1 TItem_set_rep TItem_set_num TItem_ld TItem_st TItem_f_rep TItem_f_num TItem_bd TItem_fl TItem_fl_rep TItem_fl_num
attribute [local go_sem high] TItem_eql TItem_neq
attribute [local go_sem ↓] TBallot_ld0 TBallot_st0 TBallot_fd0 TBallot_bd0
attribute [local go_sem] TBallot_size TBallot_one TBallot_piece TBallot_c0 TBallot_c1 TBallot_set_round TBallot_set_rep TBallot_ld TBallot_st TBallot_f_round TBallot_f_rep TBallot_bd TBallot_fl TBallot_fl_round TBallot_fl_rep
attribute [local go_sem high] TBallot_eql TBallot_neq
attribute [local go_sem ↓] TInst_ld0 TInst_st0 TInst_fd0 TInst_bd0
attribute [local go_sem] TInst_size TInst_one TInst_piece TInst_c0 TInst_c1 TInst_c2 TInst_c3 TInst_c4 TInst_c5 TInst_c6 TInst_c7 TInst_c8 TInst_c9 TInst_c10 TInst_c11 TInst_c12 TInst_c13 TInst_c14 TInst_c15 TInst_c16 TInst_c17 TInst_c18 TInst_c19 TInst_p_prom TInst_put_prom TInst_p_vote TInst_put_vote TInst_set_status TInst_p_call TInst_put_call TInst_set_same TInst_ld TInst_st TInst_f_prom TInst_f_vote TInst_f_status TInst_f_call TInst_f_same TInst_bd TInst_fl TInst_fl_prom TInst_fl_vote TInst_fl_status TInst_fl_call TInst_fl_same
attribute [local go_sem high] TInst_eql TInst_neq
attribute [local go_sem ↓] TMsg_ld0 TMsg_st0 TMsg_fd0 TMsg_bd0
attribute [local go_sem] TMsg_size TMsg_one TMsg_piece TMsg_c0 TMsg_c1 TMsg_c2 TMsg_c3 TMsg_c4 TMsg_c5 TMsg_c6 TMsg_c7 TMsg_c8 TMsg_c9 TMsg_c10 TMsg_c11 TMsg_c12 TMsg_c13 TMsg_c14 TMsg_c15 TMsg_c16 TMsg_c17 TMsg_c18 TMsg_c19 TMsg_c20 TMsg_c21 TMsg_c22 TMsg_c23 TMsg_c24 TMsg_set_kind TMsg_set_frm TMsg_set_to TMsg_p_item TMsg_put_item TMsg_p_bal TMsg_put_bal TMsg_p_vote TMsg_put_vote TMsg_set_status TMsg_set_same TMsg_p_call TMsg_put_call TMsg_ld TMsg_st TMsg_f_kind TMsg_f_frm TMsg_f_to TMsg_f_item TMsg_f_bal TMsg_f_vote TMsg_f_status TMsg_f_same TMsg_f_call TMsg_bd TMsg_fl TMsg_fl_kind TMsg_fl_frm TMsg_fl_to TMsg_fl_item TMsg_fl_bal TMsg_fl_vote TMsg_fl_status TMsg_fl_same TMsg_fl_call
attribute [local go_sem high] TMsg_eql TMsg_neq
def aliveM : Msg := ⟨6, 0, 1, ⟨0, 1⟩, ⟨1, 0⟩, noBallot, 0, false, noCall⟩
theorem VotI.open {n : Int} (hs : sizeB n = true) : VotI n 0 (idxF (ents (mK n (goT n [])))) (openD n []) (mK n (goT n [])) := by
  refine ⟨SpI.open (sizeB_n hs) (by simp) 0, ?_, ?_⟩
  · simp [openD, goT_nil]
  · unfold sizeB at hs; simp at hs; omega
theorem alive_good : goodM aliveM 3 = true := by
  have h1 : noC aliveM = true := by unfold noC; exact eqA_refl _
  have h2 : noVote aliveM = true := by unfold noVote; exact eqA_refl _
  have h3 : knownB aliveM.kind = false := by decide
  have h4 : callsB aliveM.kind = false := by decide
  unfold goodM
  rw [h1, h2, h3, h4]
  decide
theorem alive_ans : ansM ⟨3, fun _ => []⟩ 1 aliveM = ⟨⟨7, 1, 0, ⟨0, 1⟩, ⟨1, 0⟩, noBallot, 0, false, noCall⟩, true, ⟨⟨1, 0⟩, noBallot, 0, noCall, false⟩⟩ := by
  have ha : atM ⟨3, fun _ => []⟩ aliveM.item = noInst := rfl
  unfold ansM
  rw [if_neg (by rintro (h | h) <;> first | exact h rfl | (rw [show goodM aliveM (RowsM.mk 3 fun _ => []).n = true from alive_good] at h; cases h)), ha]
  rfl
set_option maxHeartbeats 4000000 in
theorem alive15 {t : TypeId} {w W : World} {F : Nat → Prop} {R : List Res} (T : Sts w F W (kndR t :: R)) : Calls Tryd.prog 7 #[] W fun e W' => e = .returned (.bool true) ∧ Sts w F W' (kndR t :: R) := by
  go_enter Tryd.func7, Tryd.ntmps7
  go_wp2_with fail
  refine (newT T).mono ?_
  clear T
  rintro e w1 ⟨rfl, T⟩
  go_wp2_with fail
  refine (spOpenT T (by simp) 3 rfl).mono ?_
  clear T
  rintro e w2 ⟨s, lg, g, bk, bs, rfl, T⟩
  rw [goT_nil] at T
  generalize W.heap.size = p at *
  have T : Sts w F w2 (spL s lg p g bk bs idx0 [] 0 ⟨3, fun _ => []⟩ ++ kndR t :: R) := by
    have h : ents ⟨3, fun _ => []⟩ = [] := ents_nil (by omega)
    have T := T
    rw [show mK 3 [] = ⟨3, fun _ => []⟩ from rfl, h] at T
    exact T
  have hv : VotI 3 0 idx0 [] ⟨3, fun _ => []⟩ := by
    have h := VotI.open (n := 3) rfl
    rw [goT_nil, show mK 3 [] = ⟨3, fun _ => []⟩ from rfl, show ents ⟨3, fun _ => []⟩ = [] from ents_nil (by omega), show openD 3 [] = [] by simp [openD, goT_nil]] at h
    exact h
  have HA := Lib.hid (vans hv (by omega) 1 aliveM T); clear T hv
  go_wp2_with fail
  refine HA.out.mono ?_
  clear HA
  rintro e w3 ⟨rfl, I', D', safe', -, T⟩
  rw [alive_ans] at T ⊢
  have T1 := T.drop.drop.drop.drop
  have HT := Lib.hid (T1.new (MV ⟨7, 1, 0, ⟨0, 1⟩, ⟨1, 0⟩, noBallot, 0, false, noCall⟩) 34).drop; clear T T1
  go_wp2
  go_ret
  exact ⟨rfl, HT.out⟩
end Go.Proofs.YtfgacjglfdehbaaDoor
/- Layer 7: calls that answer in each world that bears the kinds. -/
namespace Go.Proofs.YtfgacjglfdehbaaDoor
open Go.RowKit
set_option linter.unusedVariables false
/-- A call that answers in each world that bears the kinds. -/
def AnsL (f : FuncId) (args : Array Value) (v : Value) : Prop := ∀ (t : TypeId) (W : World), W.heap[0]? = some (.cells KndV t (0, 0)) → Calls Tryd.prog f args W fun e W' => e = .returned v ∧ Below W.heap.size W W'
theorem AnsL.of_sts {f : FuncId} {args : Array Value} {v : Value} (h : ∀ (t : TypeId) (w : World), w.heap[0]? = some (.cells KndV t (0, 0)) → Calls Tryd.prog f args w fun e W' => e = .returned v ∧ Sts w (fun k => k = 0) W' [kndR t]) : AnsL f args v := fun t W h0 => (h t W h0).mono fun e W' ⟨he, hS⟩ => ⟨he, hS.belowK h0⟩
theorem AnsL.at {t : TypeId} {f : FuncId} {args : Array Value} {v : Value} {w W : World} {F : Nat → Prop} {L : List Res} (h : AnsL f args v) (T : Sts w F W (kndR t :: L)) : Calls Tryd.prog f args W fun e W' => e = .returned v ∧ Sts w F W' (kndR t :: L) := by
  obtain ⟨_, ha⟩ := T.at0
  exact (h t W ha.2).mono fun _ _ ⟨he, hb⟩ => ⟨he, T.pure hb⟩
end Go.Proofs.YtfgacjglfdehbaaDoor
/- VoterNacks: a refusal tells of a greater ballot than the one that was asked for, the one that is promised, and changes nothing. -/
namespace Go.Proofs.YtfgacjglfdehbaaDoor
open Go.RowKit
set_option linter.unusedVariables false
set_option maxRecDepth 20000
attribute [local go_sem] row_alloc row_drew row_drewN row_ext row_setCell row_setRow size_ext setRow_alloc setRow_drew loadOf storeOf piece_lit loadVal_at storeVal_at allOne_lit buildOf buildRes_some
attribute [local go_sem high] cell_alloc frozen_alloc setCell_alloc cell_ext frozen_ext cell_setRow frozen_setRow
attribute [local go_sem ↓] TDeed_ld0 TDeed_st0 TDeed_fd0 TDeed_bd0
attribute [local go_sem] TDeed_size TDeed_one TDeed_piece TDeed_c0 TDeed_c1 TDeed_c2 TDeed_c3 TDeed_c4 TDeed_c5 TDeed_set_kind TDeed_set_key TDeed_set_val TDeed_set_ver TDeed_set_ses TDeed_set_num TDeed_ld TDeed_st TDeed_f_kind TDeed_f_key TDeed_f_val TDeed_f_ver TDeed_f_ses TDeed_f_num TDeed_bd TDeed_fl TDeed_fl_kind TDeed_fl_key TDeed_fl_val TDeed_fl_ver TDeed_fl_ses TDeed_fl_num
attribute [local go_sem high] TDeed_eql TDeed_neq
attribute [local go_sem ↓] index_deps0 load_deps0 store_deps0
attribute [local go_sem] DV_piece DV_size DV_one index_deps load_deps store_deps
attribute [local go_sem high] TDeps_eql TDeps_neq
attribute [local go_sem ↓] TCall_ld0 TCall_st0 TCall_fd0 TCall_bd0
attribute [local go_sem] TCall_size TCall_one TCall_piece TCall_c0 TCall_c1 TCall_c2 TCall_c3 TCall_c4 TCall_c5 TCall_c6 TCall_c7 TCall_c8 TCall_c9 TCall_c10 TCall_c11 TCall_c12 TCall_c13 TCall_p_deed TCall_put_deed TCall_p_deps TCall_put_deps TCall_set_seq TCall_ld TCall_st TCall_f_deed TCall_f_deps TCall_f_seq TCall_bd TCall_fl TCall_fl_deed TCall_fl_deps TCall_fl_seq
attribute [local go_sem high] TCall_eql TCall_neq
attribute [local go_sem ↓] TItem_ld0 TItem_st0 TItem_fd0 TItem_bd0
attribute [local go_sem] TItem_size TItem_one TItem_piece TItem_c0 TItem_c1 TItem_set_rep TItem_set_num TItem_ld TItem_st TItem_f_rep TItem_f_num TItem_bd TItem_fl TItem_fl_rep TItem_fl_num
attribute [local go_sem high] TItem_eql TItem_neq
attribute [local go_sem ↓] TBallot_ld0 TBallot_st0 TBallot_fd0 TBallot_bd0
attribute [local go_sem] TBallot_size TBallot_one TBallot_piece TBallot_c0 TBallot_c1 TBallot_set_round TBallot_set_rep TBallot_ld TBallot_st TBallot_f_round TBallot_f_rep TBallot_bd TBallot_fl TBallot_fl_round TBallot_fl_rep
attribute [local go_sem high] TBallot_eql TBallot_neq
attribute [local go_sem ↓] TInst_ld0 TInst_st0 TInst_fd0 TInst_bd0
attribute [local go_sem] TInst_size TInst_one TInst_piece TInst_c0 TInst_c1 TInst_c2 TInst_c3 TInst_c4 TInst_c5 TInst_c6 TInst_c7 TInst_c8 TInst_c9 TInst_c10 TInst_c11 TInst_c12 TInst_c13 TInst_c14 TInst_c15 TInst_c16 TInst_c17 TInst_c18 TInst_c19 TInst_p_prom TInst_put_prom TInst_p_vote TInst_put_vote TInst_set_status TInst_p_call TInst_put_call TInst_set_same TInst_ld TInst_st TInst_f_prom TInst_f_vote TInst_f_status TInst_f_call TInst_f_same TInst_bd TInst_fl TInst_fl_prom TInst_fl_vote TInst_fl_status TInst_fl_call TInst_fl_same
attribute [local go_sem high] TInst_eql TInst_neq
attribute [local go_sem ↓] TMsg_ld0 TMsg_st0 TMsg_fd0 TMsg_bd0
attribute [local go_sem] TMsg_size TMsg_one TMsg_piece TMsg_c0 TMsg_c1 TMsg_c2 TMsg_c3 TMsg_c4 TMsg_c5 TMsg_c6 TMsg_c7 TMsg_c8 TMsg_c9 TMsg_c10 TMsg_c11 TMsg_c12 TMsg_c13 TMsg_c14 TMsg_c15 TMsg_c16 TMsg_c17 TMsg_c18 TMsg_c19 TMsg_c20 TMsg_c21 TMsg_c22 TMsg_c23 TMsg_c24 TMsg_set_kind TMsg_set_frm TMsg_set_to TMsg_p_item TMsg_put_item TMsg_p_bal TMsg_put_bal TMsg_p_vote TMsg_put_vote TMsg_set_status TMsg_set_same TMsg_p_call TMsg_put_call TMsg_ld TMsg_st TMsg_f_kind TMsg_f_frm TMsg_f_to TMsg_f_item TMsg_f_bal TMsg_f_vote TMsg_f_status TMsg_f_same TMsg_f_call TMsg_bd TMsg_fl TMsg_fl_kind TMsg_fl_frm TMsg_fl_to TMsg_fl_item TMsg_fl_bal TMsg_fl_vote TMsg_fl_status TMsg_fl_same TMsg_fl_call
attribute [local go_sem high] TMsg_eql TMsg_neq
theorem great_V {n : Int} {l : List Msg} (h : greatV n l = false) : sizeB n = true ∧ l.length ≤ 80 := by
  unfold greatV at h
  rw [Bool.or_eq_false_iff] at h
  have h2 := h.2
  unfold sizeB
  simp at h2 ⊢
  omega
theorem Sts.dropL {w W : World} {F : Nat → Prop} {R : List Res} : ∀ {L : List Res}, Sts w F W (L ++ R) → Sts w F W R
  | [], h => h
  | _ :: L, h => Sts.dropL (L := L) (Sts.drop h)
theorem Sts.only1 {w W : World} {F : Nat → Prop} {R : List Res} {r : Res} (h : Sts w F W (r :: R)) : Sts w F W [r] :=
  Sts.dropL (L := R) (h.perm (List.perm_append_comm (l₁ := [r]) (l₂ := R)))
theorem spAtV {w W : World} {F : Nat → Prop} {R : List Res} {s lg p g bk bs : Nat} {I : Idx} {D : List UInt8} {safe : Nat} {m : RowsM} (hm : RowsOk m) (x : Item) (T : Sts w F W (spL s lg p g bk bs I D safe m ++ R)) :
    Calls Tryd.prog 12 #[.pointer (some ⟨s, 0, none⟩), .agg (IV x)] W fun e W' => e = .returned (.agg (NV (atM m x))) ∧ Sts w F W' (spL s lg p g bk bs I D safe m ++ R) :=
  (Reads.at (L := spL s lg p g bk bs I D safe m) (spAtR s lg p g bk bs I D safe m hm x) T).mono fun _ _ ⟨h, hb⟩ => ⟨h, T.pure hb⟩
end Go.Proofs.YtfgacjglfdehbaaDoor
/- VoterWays, plain: what is pre-accepted reaches to all that clashes with it here, and has a greater rank. No walk stands here. -/
namespace Go.Proofs.YtfgacjglfdehbaaDoor
open Go.RowKit
set_option linter.unusedVariables false
attribute [local instance 10] Classical.propDecidable
theorem getM_after {m : RowsM} {self : Int} {x : Msg} {y : Item} (hne : eqA (IV y) (IV x.item) = false) : getM (afterM m self x) y = getM m y := by
  have e : y ≠ x.item := fun e => by subst e; rw [eqA_refl] at hne; cases hne
  rcases afterM_cases m self x with ⟨_, e2⟩ | ⟨_, e2⟩
  · rw [e2]
  · rw [e2]
    by_cases hg : goodI x.item m.n = true
    · exact getM_set_other _ hg (fun h => e h.symm)
    · unfold setM; rw [if_neg hg]
theorem ways_clash {m : RowsM} (hm : RowsOk m) {self : Int} {x : Msg} {y : Item} {i : Inst} (hy : (y, i) ∈ ents (afterM m self x)) (hne : eqA (IV y) (IV x.item) = false) (hc : clashB i.call.deed x.call.deed = true) :
    y.num ≤ (mergeC x.call (wayK m x.call.deed x.item)).deps y.rep.toNat ∧ ((mergeC x.call (wayK m x.call.deed x.item)).seq ≤ i.call.seq → 1099511627776 ≤ (mergeC x.call (wayK m x.call.deed x.item)).seq) := by
  have hg := ents_mem hy
  rw [getM_after hne] at hg
  have hk : y ∈ (ents m).map Prod.fst := (ents_key hm y).2 (by rw [hg]; rfl)
  have hgi := getM_good hg
  unfold goodI at hgi
  rw [decide_eq_true_iff] at hgi
  have hhit : hitG (getM m) x.call.deed x.item y := ⟨hne, by rw [hg]; exact hc⟩
  have h1 : outG (getM m) x.call.deed x.item y.rep.toNat y ≤ (wayK m x.call.deed x.item).out y.rep.toNat := mx_ge hk
  have h2 : seqG (getM m) x.call.deed x.item y ≤ (wayK m x.call.deed x.item).seq := mx_ge hk
  unfold outG at h1
  rw [if_pos ⟨hhit, by omega⟩] at h1
  unfold seqG at h2
  rw [if_pos hhit, hg] at h2
  simp only [Option.getD_some] at h2
  constructor
  · unfold mergeC rjoin
    dsimp only
    omega
  · have h3 := le_maxI_right x.call.seq (wayK m x.call.deed x.item).seq
    have h4 : (mergeC x.call (wayK m x.call.deed x.item)).seq = maxI x.call.seq (wayK m x.call.deed x.item).seq := rfl
    rw [h4]
    intro h5
    unfold lowI at h2
    split at h2 <;> omega
theorem ways_asked (c : Call) (w : WayR) : (∀ i, c.deps i ≤ (mergeC c w).deps i) ∧ c.seq ≤ (mergeC c w).seq ∧ (mergeC c w).deed = c.deed := by
  refine ⟨fun i => ?_, le_maxI_left _ _, rfl⟩
  unfold mergeC rjoin
  dsimp only
  omega
theorem ents_rep {m : RowsM} (hm : RowsOk m) {y : Item} {i : Inst} (hy : (y, i) ∈ ents m) : 0 ≤ y.rep ∧ y.rep < 7 := by
  have hgi : goodI y m.n = true := getM_good (ents_mem hy)
  unfold goodI at hgi
  rw [decide_eq_true_iff] at hgi
  have := hm.n.2
  omega
end Go.Proofs.YtfgacjglfdehbaaDoor
/- append of a slice that comes in to a slice of the call's own. Nothing of the program stands here. -/
namespace Go.Proofs.YtfgacjglfdehbaaDoor
open Go.RowKit
set_option linter.unusedVariables false
theorem addr_add' (a : Addr) (o i : Nat) : (a.add o).add i = a.add (o + i) := by
  cases a
  unfold Addr.add
  by_cases h : o = 0
  · simp [h]
  · by_cases h2 : i = 0
    · simp [h2]
    · simp [h, h2, Nat.add_assoc]
section
variable {P : Program} {w W : World} {F : Nat → Prop} {R : List Res}
/-- append of nothing. -/
theorem run_append_none (W : World) (t ty e : TypeId) (i : TypeInfo) (ht : P.underlying t = some (.slice e)) (hi : P.info? e = some i) (b : Option Addr) (n cap c : Nat) (A : Option Addr) (hn : n ≤ cap) :
    (Builtin.append_ #[t, t] ty #[.slice b n cap, .slice A 0 c]).run P W = .ok (.slice b n cap) W := by
  have hz : ∀ size, (Builtin.firstCells size 0 (.slice A 0 c)).run P W = .ok #[] W := fun size => by
    cases A with
    | none => rfl
    | some a => simp [Builtin.firstCells, loadCells, loadCellsFrom]
  have hst : ∀ a : Addr, (storeCells a ([] : List Value)).run P W = .ok () W := fun a => by simp [storeCells]
  unfold Builtin.append_
  cases b <;> simp [Sem.run_bind, run_underlying ht W, sizeOf, typeInfo, hi, Builtin.lenOf, hn, hz, hst]
theorem step_append_in {α : Type} {V : α → Array Value} {ops : Array Oper} {o : Oper} {a : Act} {K : Act → World → Prop} {Q : Exit → Act → World → Prop} {E : Prop} (hgd : o.guard = none) (s x : Operand) (t : TypeId)
    (ho : o.op = .call { callee := .builtin .append, args := #[s, x], argTypes := #[t, t] })
    (e : TypeId) (i : TypeInfo) (z : Value) (size bytes : Nat) (ht : P.underlying t = some (.slice e)) (hi : P.info? e = some i) (hz : i.zero = some z)
    (hsize : i.size = size) (hby : i.bytes = bytes) (hzs : z.cells.size = size) (hsz : 0 < size)
    (g0 c0 n : Nat) (xs : List Value) (hs : a.eval s = .slice (some ⟨g0, 0, none⟩) n c0) (T : Sts w F W (vecR e size (.slice (some ⟨g0, 0, none⟩) n c0) n xs :: R))
    (A : Option Addr) (c : Nat) (l : List α) {w0 : World} (hx : a.eval x = .slice A l.length c) (hr : RowsIn w0 A size V l) (hb : Below w0.heap.size w0 W) (hV : ∀ x, (V x).size = size) (h1 : ∀ x ∈ l, ∀ u ∈ (V x).toList, u.oneCell' = true)
    (h63 : n + l.length ≤ maxLen) (hbytes : (n + l.length) * bytes ≤ 140737488355328)
    (h : ∀ g cap w', Sts w F w' (vecR e size (.slice (some ⟨g, 0, none⟩) (n + l.length) cap) (n + l.length) (xs ++ vl V l) :: R) → K (a.put o.dst (.slice (some ⟨g, 0, none⟩) (n + l.length) cap)) w') :
    if Region.wanted o (yielded ops a.tmps) = true then Oper.wp P o a W K Q else E := by
  cases A with
  | none =>
    have := hr.nil rfl
    subst this
    have hn : n ≤ c0 := by
      rcases T.vec.2 with ⟨h, _⟩ | ⟨g, cap, cur, h, _, _, h3, _⟩
      · cases h
      · injection h with _ _ h
        subst h; exact h3
    have hrun := run_append_none (P := P) W t o.type e i ht hi (some ⟨g0, 0, none⟩) n c0 c none hn
    have hT := h g0 c0 W (by simpa [vl_nil] using T)
    rw [if_pos (by unfold Region.wanted; rw [hgd])]
    unfold Oper.wp execOp
    simp only [ho, resolve, invoke, builtin, Sem.run_bind, Sem.run_pure, Result.andThen_ok, List.map_toArray, List.map_cons, List.map_nil, hs, hx, List.length_nil, hrun]
    exact hT
  | some ad =>
    by_cases hl : l = []
    · subst hl
      have hn : n ≤ c0 := by
        rcases T.vec.2 with ⟨h, _⟩ | ⟨g, cap, cur, h, _, _, h3, _⟩
        · cases h
        · injection h with _ _ h
          subst h; exact h3
      have hrun := run_append_none (P := P) W t o.type e i ht hi (some ⟨g0, 0, none⟩) n c0 c (some ad) hn
      have hT := h g0 c0 W (by simpa [vl_nil] using T)
      rw [if_pos (by unfold Region.wanted; rw [hgd])]
      unfold Oper.wp execOp
      simp only [ho, resolve, invoke, builtin, Sem.run_bind, Sem.run_pure, Result.andThen_ok, List.map_toArray, List.map_cons, List.map_nil, hs, hx, List.length_nil, hrun]
      exact hT
    · have hpos : 0 < l.length := List.length_pos_iff.2 hl
      refine step_append_vec hgd s x t ho e i z size bytes ht hi hz hsize hby hzs hsz (.slice (some ⟨g0, 0, none⟩) n c0) n xs hs T ad l.length c (vl V l) hx ?_ ?_ ?_ hpos h63 hbytes h
      · unfold vl
        rw [Array.length_toList, flatV_size hV]
      · intro j u hj
        unfold vl at hj
        rw [Array.getElem?_toList] at hj
        have hjs : j < l.length * size := by
          have := (Array.getElem?_eq_some_iff.1 hj).1
          rwa [flatV_size hV] at this
        have hq : j / size < l.length := Nat.div_lt_of_lt_mul (by rw [Nat.mul_comm]; exact hjs)
        have hm : j % size < size := Nat.mod_lt _ hsz
        have he : j / size * size + j % size = j := by rw [Nat.mul_comm]; exact Nat.div_add_mod j size
        have h2 := flatV_get hV l (j / size) hq (j % size) hm
        rw [he, hj] at h2
        have h3 := hr.cell ad rfl (j / size) hq (j % size) u h2.symm
        rw [addr_add', he] at h3
        exact (hb.cell (World.block_lt_of_cell? w0 _ h3)).trans h3
      · intro u hu
        unfold vl at hu
        rw [Array.mem_toList_iff] at hu
        obtain ⟨j, hj, rfl⟩ := Array.mem_iff_getElem.1 hu
        have hjs : j < l.length * size := by rwa [flatV_size hV] at hj
        have hq : j / size < l.length := Nat.div_lt_of_lt_mul (by rw [Nat.mul_comm]; exact hjs)
        have hm : j % size < size := Nat.mod_lt _ hsz
        have he : j / size * size + j % size = j := by rw [Nat.mul_comm]; exact Nat.div_add_mod j size
        have h2 := flatV_get hV l (j / size) hq (j % size) hm
        rw [he, Array.getElem?_eq_getElem hj] at h2
        refine h1 _ (List.getElem_mem hq) _ ?_
        rw [Array.mem_toList_iff]
        exact Array.mem_iff_getElem?.2 ⟨_, h2.symm⟩
theorem step_append_in0 {α : Type} {V : α → Array Value} {ops : Array Oper} {o : Oper} {a : Act} {K : Act → World → Prop} {Q : Exit → Act → World → Prop} {E : Prop} (hgd : o.guard = none) (s x : Operand) (t : TypeId)
    (ho : o.op = .call { callee := .builtin .append, args := #[s, x], argTypes := #[t, t] })
    (e : TypeId) (i : TypeInfo) (z : Value) (size bytes : Nat) (ht : P.underlying t = some (.slice e)) (hi : P.info? e = some i) (hz : i.zero = some z)
    (hsize : i.size = size) (hby : i.bytes = bytes) (hzs : z.cells.size = size) (hsz : 0 < size)
    (g0 c0 : Nat) (hs : a.eval s = .slice (some ⟨g0, 0, none⟩) 0 c0) (T : Sts w F W (vecR e size (.slice (some ⟨g0, 0, none⟩) 0 c0) 0 [] :: R))
    (A : Option Addr) (c : Nat) (l : List α) {w0 : World} (hx : a.eval x = .slice A l.length c) (hr : RowsIn w0 A size V l) (hb : Below w0.heap.size w0 W) (hV : ∀ x, (V x).size = size) (h1 : ∀ x ∈ l, ∀ u ∈ (V x).toList, u.oneCell' = true)
    (h63 : l.length ≤ maxLen) (hbytes : l.length * bytes ≤ 140737488355328)
    (h : ∀ g cap w', Sts w F w' (vecR e size (.slice (some ⟨g, 0, none⟩) l.length cap) l.length (vl V l) :: R) → K (a.put o.dst (.slice (some ⟨g, 0, none⟩) l.length cap)) w') :
    if Region.wanted o (yielded ops a.tmps) = true then Oper.wp P o a W K Q else E := by
  refine step_append_in hgd s x t ho e i z size bytes ht hi hz hsize hby hzs hsz g0 c0 0 [] hs T A c l hx hr hb hV h1 (by rw [Nat.zero_add]; exact h63) (by rw [Nat.zero_add]; exact hbytes) ?_
  intro g cap w' T1
  rw [Nat.zero_add] at T1 ⊢
  rw [List.nil_append] at T1
  exact h g cap w' T1
end
end Go.Proofs.YtfgacjglfdehbaaDoor
/- A return behind many loops over iterators. Nothing of the program stands here. -/
namespace Go.Proofs.YtfgacjglfdehbaaDoor
open Go.RowKit Go.Shelf
set_option linter.unusedVariables false
def collD (D : Nat) : Deferred := { target := .collected D, args := #[] }
def markR (D : Nat) : Res := objR D (.deferred (some []))
/-- The marks that loops over iterators have left. -/
def marksR (Ds : List Nat) : Res := packR (Ds.map markR)
section
variable {P : Program} {fn : Func} {n : Nat} {w W : World} {F : Nat → Prop} {R : List Res}
theorem leavesMs {tmps : Array Value} {Q : Ending → World → Prop} {v : Value} (hr : ∀ W', Sts w F W' R → (results fn tmps).run P W' = .ok v W' ∧ Q (.returned v) W') : ∀ (Ds : List Nat) (W : World), Sts w F W (Ds.map markR ++ R) → LeavesInM Fence.wide n P fn tmps Q (Ds.map collD) .returning W
  | [], W, T => by
    obtain ⟨h1, h2⟩ := hr W T
    exact ⟨v, h1, h2⟩
  | D :: Ds, W, T => by
    have T : Sts w F W (objR D (.deferred (some [])) :: (Ds.map markR ++ R)) := T
    have hD := T.obj
    exact ⟨by simp, .inl ⟨D, W.putObj D (.deferred none), rfl, run_takeDeferred hD, leavesMs hr Ds _ (T.putObj (.deferred none)).drop⟩⟩
/-- A return behind many marks. -/
theorem retMs {a : Act} {Q : Ending → World → Prop} {v : Value} {Ds : List Nat} (T : Sts w F W (marksR Ds :: R)) (hr : ∀ W', Sts w F W' R → (results fn a.tmps).run P W' = .ok v W' ∧ Q (.returned v) W') (hd : a.defers = Ds.map collD) : bodyPostM Fence.wide n P fn Q .ret a W := by
  show LeavesInM _ _ _ _ _ _ a.defers _ _
  rw [hd]
  exact leavesMs hr Ds W T.unpack
end
end Go.Proofs.YtfgacjglfdehbaaDoor
