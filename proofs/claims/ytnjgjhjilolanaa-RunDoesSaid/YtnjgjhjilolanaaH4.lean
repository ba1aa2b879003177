/- Several texts in one. -/
import Derived.Test.YtnjgjhjilolanaaH2
import Derived.ChangeKeysEq
import Derived.Test.YtnjgjhjilolanaaH3
import Derived.Test.YtnjgjhjilolanaaH1
import Derived.Deep.Slices
import Derived.DataReads
import Derived.BigQuiet
import Derived.Deep.RegionHeld3
import Derived.Deep.DeepCutAuto
/- Ballot as a value, as cells: its parts, equality, loads, stores, building. Printed by types.py. -/
namespace Go.Proofs.Ytnjgjhjilolanaa
open Go.RowKit
set_option linter.unusedVariables false
structure Ballot where
  round : Int
  rep : Int
def BV (x : Ballot) : Array Value := #[.int .i64 x.round, .int .i64 x.rep]
section
variable (x y : Ballot)
theorem TBallot_size : (BV x).size = 2 := rfl
theorem TBallot_one : allOne (BV x) = true := by simp [allOne, BV, Value.oneCell']
theorem TBallot_piece : piece (BV x) 0 2 = BV x := piece_all _ _ rfl
theorem TBallot_c0 : (BV x)[0]? = some (.int .i64 x.round) := rfl
theorem TBallot_c1 : (BV x)[1]? = some (.int .i64 x.rep) := rfl
theorem TBallot_set_round (v : Int) : (BV x).setIfInBounds 0 (.int .i64 v) = BV { x with round := v } := rfl
theorem TBallot_set_rep (v : Int) : (BV x).setIfInBounds 1 (.int .i64 v) = BV { x with rep := v } := rfl
end
def TBallot_pl : Nat → Option (Nat × Nat) := fun i => (#[(0, 1), (1, 1)] : Array (Nat × Nat))[i]?
theorem TBallot_fl (X : Array Value) : fillS TBallot_pl X [] = some X := rfl
theorem TBallot_fl_round (x : Ballot) (v : Int) (r : List (Nat × Value)) : fillS TBallot_pl (BV x) ((0, .int .i64 v) :: r) = fillS TBallot_pl (BV { x with round := v }) r := rfl
theorem TBallot_fl_rep (x : Ballot) (v : Int) (r : List (Nat × Value)) : fillS TBallot_pl (BV x) ((1, .int .i64 v) :: r) = fillS TBallot_pl (BV { x with rep := v }) r := rfl
end Go.Proofs.Ytnjgjhjilolanaa

namespace Go.Proofs.Ytnjgjhjilolanaa
open Go.RowKit
attribute [local go_sem] row_alloc row_drew row_drewN row_ext row_setCell row_setRow size_ext setRow_alloc setRow_drew loadOf storeOf piece_lit DV_piece loadVal_at storeVal_at allOne_lit DV_size DV_one
attribute [local go_sem high] cell_alloc frozen_alloc setCell_alloc cell_ext frozen_ext
attribute [local go_sem ↓] index_deps0 load_deps0 store_deps0
attribute [local go_sem] index_deps load_deps store_deps
def goodAt (d : Nat → Int) (n : Int) (i : Nat) : Bool := decide (0 ≤ d i ∧ d i ≤ 64 ∧ (n ≤ i → d i = 0))
def goodD (d : Nat → Int) (n : Int) : Bool := (List.range 7).all (goodAt d n)
theorem goodD_no {d : Nat → Int} {n : Int} (j : Nat) (hj : j < 7) (h : ¬ (0 ≤ d j ∧ d j ≤ 64 ∧ (n ≤ j → d j = 0))) : goodD d n = false := by
  rw [goodD, List.all_eq_false]
  exact ⟨j, by simpa using hj, by unfold goodAt; simpa only [decide_eq_true_eq] using h⟩
theorem goodD_yes {d : Nat → Int} {n : Int} (h : ∀ i, i < 7 → 0 ≤ d i ∧ d i ≤ 64 ∧ (n ≤ i → d i = 0)) : goodD d n = true := by
  rw [goodD, List.all_eq_true]
  intro i hi
  unfold goodAt
  rw [decide_eq_true_eq]
  exact h i (by simpa using hi)
set_option maxHeartbeats 1000000 in
theorem good_any (d : Nat → Int) (n : Int) : Ans Try.prog 51 #[.agg (DV d), .int .i64 n] (.bool (goodD d n)) := by
  intro w
  go_enter Try.func51, Try.ntmps51
  go_wp2
  go_loop [8] (fun i => ∃ j : Nat, j ≤ 7 ∧ i = .int .i64 j ∧ Hid (∀ k, k < j → 0 ≤ d k ∧ d k ≤ 64 ∧ (n ≤ k → d k = 0))) (fun i => 7 - (intOf i).toNat)
  case atStart => exact ⟨0, by omega, rfl, fun k hk => by omega⟩
  case round =>
    obtain ⟨j, hj, rfl, hG⟩ := hrel
    by_cases hlt : j < 7
    · have hno := @goodD_no d n j hlt
      have Hno := Lib.hid hno; clear hno
      by_cases hz : d j = 0
      · have hz' : (d j != 0) = false := by simp [hz]
        have Hz := Lib.hid hz; clear hz
        go_wp2
        all_goals first
          | (go_ret
             refine ⟨?_, (Below.refl _ _).alloc (Nat.le_refl _) _⟩
             exact congrArg (fun b => Ending.returned (.bool b)) (Hno.out (by omega)).symm)
          | (go_round
             case rel =>
               refine ⟨j + 1, by omega, by go_num, fun k hk => ?_⟩
               by_cases e : k = j
               · subst e; exact ⟨by omega, by omega, fun _ => Hz.out⟩
               · exact hG k (by omega)
             case measure => simp [intOf]; omega)
      · have hz' : (d j != 0) = true := by simp [hz]
        go_wp2
        all_goals first
          | (go_ret
             refine ⟨?_, (Below.refl _ _).alloc (Nat.le_refl _) _⟩
             exact congrArg (fun b => Ending.returned (.bool b)) (Hno.out (by omega)).symm)
          | (go_round
             case rel =>
               refine ⟨j + 1, by omega, by go_num, fun k hk => ?_⟩
               by_cases e : k = j
               · subst e; omega
               · exact hG k (by omega)
             case measure => simp [intOf]; omega)
    · obtain rfl : j = 7 := by omega
      have hy := goodD_yes hG
      have Hy := Lib.hid hy; clear hy
      go_wp2
      go_ret
      exact ⟨congrArg (fun b => Ending.returned (.bool b)) Hy.out.symm, (Below.refl _ _).alloc (Nat.le_refl _) _⟩
set_option maxHeartbeats 1000000 in
theorem rgood_any (d : Nat → Int) (n : Int) : Ans Try.prog 36 #[.agg (DV d), .int .i64 n] (.bool (goodD d n)) := by
  intro w
  go_enter Try.func36, Try.ntmps36
  go_wp2
  go_loop [5] (fun i => ∃ j : Nat, j ≤ 7 ∧ i = .int .i64 j ∧ Hid (∀ k, k < j → 0 ≤ d k ∧ d k ≤ 64 ∧ (n ≤ k → d k = 0))) (fun i => 7 - (intOf i).toNat)
  case atStart => exact ⟨0, by omega, rfl, fun k hk => by omega⟩
  case round =>
    obtain ⟨j, hj, rfl, hG⟩ := hrel
    by_cases hlt : j < 7
    · have hno := @goodD_no d n j hlt
      have Hno := Lib.hid hno; clear hno
      have hD := DV_get d j hlt
      by_cases hz : d j = 0
      · have hz' : (d j != 0) = false := by simp [hz]
        have Hz := Lib.hid hz; clear hz
        go_wp2
        all_goals first
          | (go_ret
             refine ⟨?_, (Below.refl _ _).alloc (Nat.le_refl _) _⟩
             exact congrArg (fun b => Ending.returned (.bool b)) (Hno.out (by omega)).symm)
          | (go_round
             case rel =>
               refine ⟨j + 1, by omega, by go_num, fun k hk => ?_⟩
               by_cases e : k = j
               · subst e; exact ⟨by omega, by omega, fun _ => Hz.out⟩
               · exact hG k (by omega)
             case measure => simp [intOf]; omega)
      · have hz' : (d j != 0) = true := by simp [hz]
        go_wp2
        all_goals first
          | (go_ret
             refine ⟨?_, (Below.refl _ _).alloc (Nat.le_refl _) _⟩
             exact congrArg (fun b => Ending.returned (.bool b)) (Hno.out (by omega)).symm)
          | (go_round
             case rel =>
               refine ⟨j + 1, by omega, by go_num, fun k hk => ?_⟩
               by_cases e : k = j
               · subst e; omega
               · exact hG k (by omega)
             case measure => simp [intOf]; omega)
    · obtain rfl : j = 7 := by omega
      have hy := goodD_yes hG
      have Hy := Lib.hid hy; clear hy
      go_wp2
      go_ret
      exact ⟨congrArg (fun b => Ending.returned (.bool b)) Hy.out.symm, (Below.refl _ _).alloc (Nat.le_refl _) _⟩
end Go.Proofs.Ytnjgjhjilolanaa
/- Layers 2, 3, 5: whether items, ballots, calls can be. -/
namespace Go.Proofs.Ytnjgjhjilolanaa
open Go.RowKit
set_option linter.unusedVariables false
attribute [local go_sem] row_alloc row_drew row_drewN row_ext row_setCell row_setRow size_ext setRow_alloc setRow_drew loadOf storeOf piece_lit loadVal_at storeVal_at allOne_lit buildOf buildRes_some
attribute [local go_sem high] cell_alloc frozen_alloc setCell_alloc cell_ext frozen_ext cell_setRow frozen_setRow
attribute [local go_sem ↓] TDeed_ld0 TDeed_st0 TDeed_fd0 TDeed_bd0
attribute [local go_sem] TDeed_size TDeed_one TDeed_piece TDeed_c0 TDeed_c1 TDeed_c2 TDeed_c3 TDeed_c4 TDeed_c5 TDeed_set_kind TDeed_set_key TDeed_set_val TDeed_set_ver TDeed_set_ses TDeed_set_num TDeed_ld TDeed_st TDeed_f_kind TDeed_f_key TDeed_f_val TDeed_f_ver TDeed_f_ses TDeed_f_num TDeed_bd TDeed_fl TDeed_fl_kind TDeed_fl_key TDeed_fl_val TDeed_fl_ver TDeed_fl_ses TDeed_fl_num
attribute [local go_sem high] TDeed_eql TDeed_neq
attribute [local go_sem ↓] index_deps0 load_deps0 store_deps0
attribute [local go_sem] DV_piece DV_size DV_one index_deps load_deps store_deps
attribute [local go_sem high] TDeps_eql TDeps_neq
attribute [local go_sem ↓] TCall_ld0 TCall_st0 TCall_fd0 TCall_bd0
attribute [local go_sem] TCall_size TCall_one TCall_piece TCall_c0 TCall_c1 TCall_c2 TCall_c3 TCall_c4 TCall_c5 TCall_c6 TCall_c7 TCall_c8 TCall_c9 TCall_c10 TCall_c11 TCall_c12 TCall_c13 TCall_p_deed TCall_put_deed TCall_p_deps TCall_put_deps TCall_set_seq TCall_ld TCall_st TCall_f_deed TCall_f_deps TCall_f_seq TCall_bd TCall_fl TCall_fl_deed TCall_fl_deps TCall_fl_seq
attribute [local go_sem high] TCall_eql TCall_neq
attribute [local go_sem ↓] TItem_ld0 TItem_st0 TItem_fd0 TItem_bd0
attribute [local go_sem] TItem_size TItem_one TItem_piece TItem_c0 TItem_c1 TItem_set_rep TItem_set_num TItem_ld TItem_st TItem_f_rep TItem_f_num TItem_bd TItem_fl TItem_fl_rep TItem_fl_num
attribute [local go_sem high] TItem_eql TItem_neq
attribute [local go_sem] TBallot_size TBallot_one TBallot_piece TBallot_c0 TBallot_c1 TBallot_set_round TBallot_set_rep TBallot_fl TBallot_fl_round TBallot_fl_rep
def goodI (x : Item) (n : Int) : Bool := decide (0 ≤ x.rep ∧ x.rep < n ∧ 1 ≤ x.num ∧ x.num ≤ 64)
set_option maxHeartbeats 1000000 in
theorem itemGood_any (x : Item) (n : Int) : Ans Try.prog 66 #[.agg (IV x), .int .i64 n] (.bool (goodI x n)) := by
  intro w
  go_enter Try.func66, Try.ntmps66
  go_wp2
  all_goals
    go_ret
    refine ⟨congrArg (fun b => Ending.returned (.bool b)) ?_, (Below.refl _ _).alloc (Nat.le_refl _) _⟩
    rw [Bool.eq_iff_iff]; simp [goodI]; omega
set_option maxHeartbeats 1000000 in
theorem ritemGood_any (x : Item) (n : Int) : Ans Try.prog 35 #[.agg (IV x), .int .i64 n] (.bool (goodI x n)) := by
  intro w
  go_enter Try.func35, Try.ntmps35
  go_wp2
  all_goals
    go_ret
    refine ⟨congrArg (fun b => Ending.returned (.bool b)) ?_, (Below.refl _ _).alloc (Nat.le_refl _) _⟩
    rw [Bool.eq_iff_iff]; simp [goodI]; omega
end Go.Proofs.Ytnjgjhjilolanaa
/- Inst as a value, as cells: its parts, equality, loads, stores, building. Printed by types.py. -/
namespace Go.Proofs.Ytnjgjhjilolanaa
open Go.RowKit
set_option linter.unusedVariables false
structure Inst where
  prom : Ballot
  vote : Ballot
  status : Int
  call : Call
  same : Bool
def NV (x : Inst) : Array Value := #[.int .i64 x.prom.round, .int .i64 x.prom.rep, .int .i64 x.vote.round, .int .i64 x.vote.rep, .int .i64 x.status, .int .i64 x.call.deed.kind, .string x.call.deed.key, .string x.call.deed.val, .int .i64 x.call.deed.ver, .int .i64 x.call.deed.ses, .int .i64 x.call.deed.num, .int .i64 (x.call.deps 0), .int .i64 (x.call.deps 1), .int .i64 (x.call.deps 2), .int .i64 (x.call.deps 3), .int .i64 (x.call.deps 4), .int .i64 (x.call.deps 5), .int .i64 (x.call.deps 6), .int .i64 x.call.seq, .bool x.same]
section
variable (x y : Inst)
theorem TInst_size : (NV x).size = 20 := rfl
theorem TInst_one : allOne (NV x) = true := by simp [allOne, NV, Value.oneCell']
theorem TInst_piece : piece (NV x) 0 20 = NV x := piece_all _ _ rfl
theorem TInst_c0 : (NV x)[0]? = some (.int .i64 x.prom.round) := rfl
theorem TInst_c1 : (NV x)[1]? = some (.int .i64 x.prom.rep) := rfl
theorem TInst_c2 : (NV x)[2]? = some (.int .i64 x.vote.round) := rfl
theorem TInst_c3 : (NV x)[3]? = some (.int .i64 x.vote.rep) := rfl
theorem TInst_c4 : (NV x)[4]? = some (.int .i64 x.status) := rfl
theorem TInst_c5 : (NV x)[5]? = some (.int .i64 x.call.deed.kind) := rfl
theorem TInst_c6 : (NV x)[6]? = some (.string x.call.deed.key) := rfl
theorem TInst_c7 : (NV x)[7]? = some (.string x.call.deed.val) := rfl
theorem TInst_c8 : (NV x)[8]? = some (.int .i64 x.call.deed.ver) := rfl
theorem TInst_c9 : (NV x)[9]? = some (.int .i64 x.call.deed.ses) := rfl
theorem TInst_c10 : (NV x)[10]? = some (.int .i64 x.call.deed.num) := rfl
theorem TInst_c11 : (NV x)[11]? = some (.int .i64 (x.call.deps 0)) := rfl
theorem TInst_c12 : (NV x)[12]? = some (.int .i64 (x.call.deps 1)) := rfl
theorem TInst_c13 : (NV x)[13]? = some (.int .i64 (x.call.deps 2)) := rfl
theorem TInst_c14 : (NV x)[14]? = some (.int .i64 (x.call.deps 3)) := rfl
theorem TInst_c15 : (NV x)[15]? = some (.int .i64 (x.call.deps 4)) := rfl
theorem TInst_c16 : (NV x)[16]? = some (.int .i64 (x.call.deps 5)) := rfl
theorem TInst_c17 : (NV x)[17]? = some (.int .i64 (x.call.deps 6)) := rfl
theorem TInst_c18 : (NV x)[18]? = some (.int .i64 x.call.seq) := rfl
theorem TInst_c19 : (NV x)[19]? = some (.bool x.same) := rfl
theorem TInst_p_prom : piece (NV x) 0 2 = BV x.prom := by kernel_rfl
theorem TInst_put_prom (v : Ballot) : splice (NV x) 0 (BV v) = NV { x with prom := v } := by kernel_rfl
theorem TInst_p_vote : piece (NV x) 2 2 = BV x.vote := by kernel_rfl
theorem TInst_put_vote (v : Ballot) : splice (NV x) 2 (BV v) = NV { x with vote := v } := by kernel_rfl
theorem TInst_set_status (v : Int) : (NV x).setIfInBounds 4 (.int .i64 v) = NV { x with status := v } := rfl
theorem TInst_p_call : piece (NV x) 5 14 = CV x.call := by kernel_rfl
theorem TInst_put_call (v : Call) : splice (NV x) 5 (CV v) = NV { x with call := v } := by kernel_rfl
theorem TInst_set_same (v : Bool) : (NV x).setIfInBounds 19 (.bool v) = NV { x with same := v } := rfl
end
def TInst_pl : Nat → Option (Nat × Nat) := fun i => (#[(0, 2), (2, 2), (4, 1), (5, 14), (19, 1)] : Array (Nat × Nat))[i]?
theorem TInst_fl (X : Array Value) : fillS TInst_pl X [] = some X := rfl
theorem TInst_fl_prom (x : Inst) (v : Ballot) (r : List (Nat × Value)) : fillS TInst_pl (NV x) ((0, .agg (BV v)) :: r) = fillS TInst_pl (NV { x with prom := v }) r := by
  show Instr.fill _ _ _ = Instr.fill _ _ _
  rw [fill_cons TInst_pl (NV x) (BV v) 0 0 2 r rfl rfl (by show _ ≤ 20; omega), TInst_put_prom]
theorem TInst_fl_vote (x : Inst) (v : Ballot) (r : List (Nat × Value)) : fillS TInst_pl (NV x) ((1, .agg (BV v)) :: r) = fillS TInst_pl (NV { x with vote := v }) r := by
  show Instr.fill _ _ _ = Instr.fill _ _ _
  rw [fill_cons TInst_pl (NV x) (BV v) 1 2 2 r rfl rfl (by show _ ≤ 20; omega), TInst_put_vote]
theorem TInst_fl_status (x : Inst) (v : Int) (r : List (Nat × Value)) : fillS TInst_pl (NV x) ((2, .int .i64 v) :: r) = fillS TInst_pl (NV { x with status := v }) r := rfl
theorem TInst_fl_call (x : Inst) (v : Call) (r : List (Nat × Value)) : fillS TInst_pl (NV x) ((3, .agg (CV v)) :: r) = fillS TInst_pl (NV { x with call := v }) r := by
  show Instr.fill _ _ _ = Instr.fill _ _ _
  rw [fill_cons TInst_pl (NV x) (CV v) 3 5 14 r rfl rfl (by show _ ≤ 20; omega), TInst_put_call]
theorem TInst_fl_same (x : Inst) (v : Bool) (r : List (Nat × Value)) : fillS TInst_pl (NV x) ((4, .bool v) :: r) = fillS TInst_pl (NV { x with same := v }) r := rfl
end Go.Proofs.Ytnjgjhjilolanaa
/- Layer 3: what is known of items, by their places, as a thing in memory. -/
namespace Go.Proofs.Ytnjgjhjilolanaa
open Go.RowKit
set_option linter.unusedVariables false
/-- Rows: of so many replicas; each replica's, by numbers. -/
structure RowsM where
  n : Int
  f : Nat → List (Option Inst)
def rcells (n : Int) (v h : Nat → Value) : Array Value := #[.int .i64 n, v 0, v 1, v 2, v 3, v 4, v 5, v 6, h 0, h 1, h 2, h 3, h 4, h 5, h 6]
section
variable (n : Int) (v h : Nat → Value) (k : Nat) (x : Value)
theorem rcells_n : (rcells n v h)[0]? = some (.int .i64 n) := rfl
theorem rcells_v (hk : k < 7) : (rcells n v h)[1 + k]? = some (v k) := by
  match k, hk with
  | 0, _ => rfl
  | 1, _ => rfl
  | 2, _ => rfl
  | 3, _ => rfl
  | 4, _ => rfl
  | 5, _ => rfl
  | 6, _ => rfl
theorem rcells_h (hk : k < 7) : (rcells n v h)[8 + k]? = some (h k) := by
  match k, hk with
  | 0, _ => rfl
  | 1, _ => rfl
  | 2, _ => rfl
  | 3, _ => rfl
  | 4, _ => rfl
  | 5, _ => rfl
  | 6, _ => rfl
theorem rcells_setv (hk : k < 7) : (rcells n v h).setIfInBounds (1 + k) x = rcells n (updF v k x) h := by
  match k, hk with
  | 0, _ => simp [rcells, updF]
  | 1, _ => simp [rcells, updF]
  | 2, _ => simp [rcells, updF]
  | 3, _ => simp [rcells, updF]
  | 4, _ => simp [rcells, updF]
  | 5, _ => simp [rcells, updF]
  | 6, _ => simp [rcells, updF]
theorem rcells_seth (hk : k < 7) : (rcells n v h).setIfInBounds (8 + k) x = rcells n v (updF h k x) := by
  match k, hk with
  | 0, _ => simp [rcells, updF]
  | 1, _ => simp [rcells, updF]
  | 2, _ => simp [rcells, updF]
  | 3, _ => simp [rcells, updF]
  | 4, _ => simp [rcells, updF]
  | 5, _ => simp [rcells, updF]
  | 6, _ => simp [rcells, updF]
end
section
variable {w W : World} {F : Nat → Prop} {R : List Res} {g : Nat} {m : RowsM}
end
end Go.Proofs.Ytnjgjhjilolanaa
/- A slice of wide things that came in: its cells, its loads. Nothing of the program stands here. -/
namespace Go.Proofs.Ytnjgjhjilolanaa
open Go.ChangeShapes Go.WideShapes Go.ChangeAt Go.RowKit Go.WideMaps Go.WideElems Go.Joins Go.Deep
set_option linter.unusedVariables false
/-- The slice with this address holds these things, each of n cells. -/
structure RowsIn {α : Type} (w : World) (A : Option Addr) (n : Nat) (V : α → Array Value) (l : List α) : Prop where
  nil : A = none → l = []
  cell : ∀ a, A = some a → ∀ j (h : j < l.length) i v, (V l[j])[i]? = some v → w.cell? ((a.add (j * n)).add i) = some v
  len : l.length ≤ 9223372036854775807
theorem add_blk (a : Addr) (j : Nat) : (a.add j).block = a.block := by unfold Addr.add; split <;> rfl
section
variable {α : Type} {w W : World} {A : Option Addr} {n : Nat} {V : α → Array Value} {l : List α} {P : Program} {T : TypeId} {d : TypeDesc} {a : Addr} {j : Nat}
theorem loadAt_cells (W : World) (a : Addr) (X : Array Value) (hc : ∀ i v, X[i]? = some v → W.cell? (a.add i) = some v) (hu : P.underlying T = some d) (hd : d.isRow = true) (hi : (P.info? T).map (·.size) = some X.size) :
    (Instr.loadAt T (.pointer (some a))).run P W = .ok (.agg X) W := by
  have hl : (loadCells a X.size).run P W = .ok X W := by
    have := run_loadCells_list (P := P) (w := W) a X.toList (fun j v hv => hc j v (by simpa using hv))
    simpa using this
  cases hq : P.info? T with
  | none => simp [hq] at hi
  | some i =>
    have hs : i.size = X.size := by simpa [hq] using hi
    have hagg : (isAgg T).run P W = .ok true W := by
      unfold isAgg
      rw [Sem.run_bind, run_underlying hu W]
      cases d <;> simp_all
    simp [Instr.loadAt, Instr.sureAddr, loadVar, Sem.run_bind, hagg, sizeOf, typeInfo, hq, hs, hl]
theorem RowsIn.load (h : RowsIn w A n V l) (hV : ∀ x, (V x).size = n) (hu : P.underlying T = some d) (hd : d.isRow = true) (hi : (P.info? T).map (·.size) = some n) (hb : Below w.heap.size w W) (hA : A = some a) (hj : j < l.length) :
    loadVal P T n W (.pointer (some (a.add (j * n)))) = .ok (.agg (V l[j])) W := by
  rw [← load_val hu hd hi]
  refine loadAt_cells W _ _ (fun i v hv => ?_) hu hd (by rw [hi, hV])
  have hc := h.cell a hA j hj i v hv
  exact (hb.cell (World.block_lt_of_cell? w _ hc)).trans hc
theorem RowsIn.block (h : RowsIn w A n V l) (hV : ∀ x, (V x).size = n) (hn : 0 < n) (hA : A = some a) (hj : j < l.length) : a.block < w.heap.size := by
  have hc := h.cell a hA j hj 0 ((V l[j])[0]'(by rw [hV]; exact hn)) (by rw [Array.getElem?_eq_getElem])
  have := World.block_lt_of_cell? w _ hc
  rwa [add_blk, add_blk] at this
end
theorem weigh_mem {H : Type} {P : Program} {e : TypeId} {d : DataW H} {m : Nat} : ∀ {ds : List (DataW H)}, d ∈ ds → m ∈ d.weights P e → m ∈ DataW.weightsAll P e ds
  | x :: ds, h, hm => by
    simp only [DataW.weightsAll, List.mem_append]
    rcases List.mem_cons.1 h with rfl | h
    · exact .inl hm
    · exact .inr (weigh_mem h hm)
theorem choose_list {α : Type} {p : Nat → α → Prop} : ∀ (n : Nat), (∀ i, i < n → ∃ x, p i x) → ∃ l : List α, l.length = n ∧ ∀ i (h : i < l.length), p i l[i]
  | 0, _ => ⟨[], rfl, fun i h => by simp at h⟩
  | n + 1, h => by
    obtain ⟨l, hl, hp⟩ := choose_list n fun i hi => h i (by omega)
    obtain ⟨x, hx⟩ := h n (by omega)
    refine ⟨l ++ [x], by simp [hl], fun i hi => ?_⟩
    rw [List.length_append, List.length_singleton] at hi
    by_cases hin : i < l.length
    · rw [List.getElem_append_left hin]; exact hp i hin
    · have : i = l.length := by omega
      subst this
      rw [List.getElem_append_right (by omega)]
      simpa [hl] using hx
theorem open_rowsIn {α : Type} {V : α → Array Value} {Fit : α → Prop} {H : Type} {enc : TypeId × Value → H} {P : Program} {w : World} {base : Nat} {sp : Nat → Bool} {held : Bool} {r : Reach} {b0 : Nat} {v : Value} {d : DataW H} {p : List MemPlace} {t e : TypeId} {n : Nat}
    (ht : P.underlying t = some (.slice e)) (hn : P.cellsOf e = n)
    (each : ∀ (fuel : Nat) (cs : List Value) (x : DataW H × List MemPlace), DataW.trod enc P w base sp held fuel e cs = some x → (∀ m ∈ x.1.weights P e, m ≤ reachBytes) → ∃ X : α, cs = (V X).toList ∧ Fit X)
    (hv : Value.okWide P w r b0 t v) (h : DataW.Trod enc P w base sp held t v d p) (hw : ∀ m ∈ d.weights P t, m ≤ reachBytes) :
    ∃ A l c, v = .slice A (List.length l) c ∧ RowsIn w A n V l ∧ ∀ x ∈ l, Fit x := by
  obtain ⟨fuel, hf⟩ := h
  rcases open_slice ht hf with ⟨hcs, hx⟩ | ⟨a, len, cap, m, k, D, Pl, hcs, _, hlc, hcm, hm, hx, hel⟩
  · have hv1 : v = .slice none 0 0 := by
      cases v <;> simp [Value.okWide, Cell.okWide, Cell.ok, ht] at hv <;> simp_all [Value.cells]
    exact ⟨none, [], 0, hv1, ⟨fun _ => rfl, fun a ha => (by cases ha), by simp⟩, fun s hs => (by cases hs)⟩
  · have hv1 : v = .slice (some a) len cap := by
      cases v <;> simp [Value.okWide, Cell.okWide, Cell.ok, ht] at hv <;> simp_all [Value.cells]
    have hle : len ≤ m := by rw [hm]; split <;> omega
    injection hx with hx1 hx2
    obtain ⟨l, hl, hp⟩ := choose_list (p := fun i X => Fit X ∧ ∀ q v, (V X)[q]? = some v → w.cell? ((a.add (i * n)).add q) = some v) len fun i hi => by
      obtain ⟨cs', h1, h2⟩ := hel i (by omega)
      obtain ⟨X, e1, e2⟩ := each k cs' _ h2 fun q hq => hw q (by
        rw [hx1]; simp only [DataW.weights, ht]
        exact List.mem_cons_of_mem _ (List.mem_append_left _ (weigh_mem (List.mem_map_of_mem (List.mem_range.2 hi)) hq)))
      refine ⟨X, e2, fun q v hq => ?_⟩
      rw [hn] at h1
      obtain ⟨_, hlen, hcell⟩ := World.cells?_some h1
      have hq2 : q < (V X).size := (Array.getElem?_eq_some_iff.1 hq).1
      have hlen2 : cs'.length = (V X).size := by rw [e1]; simp
      rw [hcell q (by omega), e1]
      simpa using hq
    refine ⟨some a, l, cap, by rw [hl]; exact hv1, ⟨fun ha => (by cases ha), fun a' ha j hj i v hi => ?_, ?_⟩, fun x hx => ?_⟩
    · injection ha with ha; subst ha
      exact (hp j hj).2 i v hi
    · have : maxLen = 9223372036854775807 := rfl
      omega
    · obtain ⟨i, hi, rfl⟩ := List.mem_iff_getElem.1 hx
      exact (hp i hi).1
end Go.Proofs.Ytnjgjhjilolanaa
/- Slices of the call's own, read like such that came in. Nothing of the program stands here. -/
namespace Go.Proofs.Ytnjgjhjilolanaa
open Go.RowKit
set_option linter.unusedVariables false
theorem add_none (b o j : Nat) : (⟨b, o, none⟩ : Addr).add j = ⟨b, o + j, none⟩ := by unfold Addr.add; split <;> simp_all
/-- A slice of the call's own lies like one that came in. -/
theorem vec_rows {α : Type} {V : α → Array Value} {size : Nat} (hV : ∀ x, (V x).size = size) {e : TypeId} {v : Value} {l : List α} {w W : World} {F : Nat → Prop} {R : List Res} (T : Sts w F W (vecR e size v l.length (vl V l) :: R)) (h0 : 0 < size) (hl : l.length ≤ 9223372036854775807) :
    ∃ A c, v = .slice A l.length c ∧ RowsIn W A size V l ∧ l.length ≤ c ∧ ∀ a, A = some a → ∃ g, a = ⟨g, 0, none⟩ := by
  have hown := T.vec
  rcases hown.2 with ⟨rfl, h⟩ | ⟨g, cap, cur, rfl, _, hg, hn, hm, hc, ht⟩
  · have : l = [] := List.eq_nil_of_length_eq_zero (by omega)
    subst this
    exact ⟨none, 0, rfl, ⟨fun _ => rfl, fun a ha => (by cases ha), by simp⟩, Nat.le_refl _, fun a ha => (by cases ha)⟩
  · refine ⟨some ⟨g, 0, none⟩, cap, rfl, ⟨fun ha => (by cases ha), fun a ha j hj i u hu => ?_, hl⟩, hn, fun a ha => by injection ha with ha; exact ⟨g, ha.symm⟩⟩
    injection ha with ha; subst ha
    obtain ⟨g', c', hv, _, hcell⟩ := vec_cell hV T h0 hj
    injection hv with e1
    injection e1 with e1
    injection e1 with e1
    subst e1
    have := hcell i u hu
    rw [add_none, add_none, Nat.zero_add]
    exact this
section
variable {α : Type} {w W : World} {n : Nat} {V : α → Array Value} {l : List α} {P : Program} {T : TypeId} {d : TypeDesc} {g j : Nat}
/-- A part of a thing of such a slice, loaded whole. -/
theorem RowsIn.part (h : RowsIn w (some ⟨g, 0, none⟩) n V l) (hb : Below w.heap.size w W) (hj : j < l.length) (o m : Nat) (X : Array Value) (hX : ∀ i v, X[i]? = some v → (V l[j])[o + i]? = some v) (hm : X.size = m) (hu : P.underlying T = some d) (hd : d.isRow = true) (hi : (P.info? T).map (·.size) = some m) :
    loadOf P T m W g (j * n + o) = .ok (.agg X) W := by
  rw [← loadVal_at, ← load_val hu hd hi]
  refine loadAt_cells W _ _ (fun i v hv => ?_) hu hd (by rw [hi, hm])
  have hc := h.cell _ rfl j hj (o + i) v (hX i v hv)
  rw [add_none, add_none, Nat.zero_add] at hc
  rw [add_none, Nat.add_assoc]
  exact (hb.cell (World.block_lt_of_cell? w _ hc)).trans hc
/-- A cell of a thing of such a slice. -/
theorem RowsIn.one (h : RowsIn w (some ⟨g, 0, none⟩) n V l) (hb : Below w.heap.size w W) (hj : j < l.length) (o : Nat) (v : Value) (hv : (V l[j])[o]? = some v) : W.cell? ⟨g, j * n + o, none⟩ = some v := by
  have hc := h.cell _ rfl j hj o v hv
  rw [add_none, add_none, Nat.zero_add] at hc
  exact (hb.cell (World.block_lt_of_cell? w _ hc)).trans hc
end
theorem vec_shape2 {e : TypeId} {size n : Nat} {v : Value} {xs : List Value} {w W : World} {F : Nat → Prop} {R : List Res} (T : Sts w F W (vecR e size v n xs :: R)) : ∃ A c, v = .slice A n c := by
  rcases T.vec.2 with ⟨rfl, rfl⟩ | ⟨g, cap, cur, rfl, _⟩
  · exact ⟨_, _, rfl⟩
  · exact ⟨_, _, rfl⟩
end Go.Proofs.Ytnjgjhjilolanaa
/- Things in memory, in another order. Nothing of the program stands here. -/
namespace Go.Proofs.Ytnjgjhjilolanaa
open Go.RowKit
set_option linter.unusedVariables false
/-- The first things, in another order. -/
def pickL (L : List Res) (p : List Nat) : List Res := p.filterMap (fun i => L[i]?) ++ L.drop p.length
theorem range_get {α : Type} (L : List α) : ∀ n, (List.range n).filterMap (fun i => L[i]?) = L.take n
  | 0 => by simp
  | n + 1 => by
    rw [List.range_succ, List.filterMap_append, range_get L n, List.take_add_one]
    cases h : L[n]? <;> simp [List.filterMap, h]
theorem pick_perm (L : List Res) (p : List Nat) (hp : p.isPerm (List.range p.length) = true) : L.Perm (pickL L p) := by
  have h : p.Perm (List.range p.length) := List.isPerm_iff.1 hp
  have h2 := (h.filterMap fun i => L[i]?).symm
  rw [range_get] at h2
  have h3 := h2.append_right (L.drop p.length)
  rw [List.take_append_drop] at h3
  exact h3
theorem Sts.ord {w W : World} {F : Nat → Prop} {L L' : List Res} (h : Sts w F W L) (p : List Nat) (hp : p.isPerm (List.range p.length) = true := by rfl) (e : pickL L p = L' := by dsimp only [pickL, List.filterMap, List.length_cons, List.length_nil, Nat.reduceAdd, List.drop, List.getElem?_cons_succ, List.getElem?_cons_zero, List.cons_append, List.nil_append]) : Sts w F W L' := by
  rw [← e]; exact h.perm (pick_perm L p hp)
example {w W : World} {F : Nat → Prop} {a b c d : Res} {R : List Res} (h : Sts w F W (a :: b :: c :: d :: R)) : Sts w F W (c :: a :: d :: b :: R) := by
  have T := h.ord [2, 0, 1]
  have T2 := T.ord [0, 1, 3, 2]
  with_reducible exact T2
example {w W : World} {F : Nat → Prop} {a b c d : Res} (h : Sts w F W [a, b, c, d]) : Sts w F W [d, a, b, c] := by
  have T := h.ord [3, 0, 1, 2]
  with_reducible exact T
end Go.Proofs.Ytnjgjhjilolanaa
/- Layer 3: rows of items: what stands at a place. -/
namespace Go.Proofs.Ytnjgjhjilolanaa
open Go.RowKit
set_option linter.unusedVariables false
set_option maxRecDepth 20000
attribute [local go_sem] row_alloc row_drew row_drewN row_ext row_setCell row_setRow size_ext setRow_alloc setRow_drew loadOf storeOf piece_lit loadVal_at storeVal_at allOne_lit buildOf buildRes_some
attribute [local go_sem high] cell_alloc frozen_alloc setCell_alloc cell_ext frozen_ext cell_setRow frozen_setRow
attribute [local go_sem ↓] TDeed_ld0 TDeed_st0 TDeed_fd0 TDeed_bd0
attribute [local go_sem] TDeed_size TDeed_one TDeed_piece TDeed_c0 TDeed_c1 TDeed_c2 TDeed_c3 TDeed_c4 TDeed_c5 TDeed_set_kind TDeed_set_key TDeed_set_val TDeed_set_ver TDeed_set_ses TDeed_set_num TDeed_ld TDeed_st TDeed_f_kind TDeed_f_key TDeed_f_val TDeed_f_ver TDeed_f_ses TDeed_f_num TDeed_bd TDeed_fl TDeed_fl_kind TDeed_fl_key TDeed_fl_val TDeed_fl_ver TDeed_fl_ses TDeed_fl_num
attribute [local go_sem high] TDeed_eql TDeed_neq
attribute [local go_sem ↓] index_deps0 load_deps0 store_deps0
attribute [local go_sem] DV_piece DV_size DV_one index_deps load_deps store_deps
attribute [local go_sem high] TDeps_eql TDeps_neq
attribute [local go_sem ↓] TCall_ld0 TCall_st0 TCall_fd0 TCall_bd0
attribute [local go_sem] TCall_size TCall_one TCall_piece TCall_c0 TCall_c1 TCall_c2 TCall_c3 TCall_c4 TCall_c5 TCall_c6 TCall_c7 TCall_c8 TCall_c9 TCall_c10 TCall_c11 TCall_c12 TCall_c13 TCall_p_deed TCall_put_deed TCall_p_deps TCall_put_deps TCall_set_seq TCall_ld TCall_st TCall_f_deed TCall_f_deps TCall_f_seq TCall_bd TCall_fl TCall_fl_deed TCall_fl_deps TCall_fl_seq
attribute [local go_sem high] TCall_eql TCall_neq
attribute [local go_sem ↓] TItem_ld0 TItem_st0 TItem_fd0 TItem_bd0
attribute [local go_sem] TItem_size TItem_one TItem_piece TItem_c0 TItem_c1 TItem_set_rep TItem_set_num TItem_ld TItem_st TItem_f_rep TItem_f_num TItem_bd TItem_fl TItem_fl_rep TItem_fl_num
attribute [local go_sem high] TItem_eql TItem_neq
attribute [local go_sem] TBallot_size TBallot_one TBallot_piece TBallot_c0 TBallot_c1 TBallot_set_round TBallot_set_rep TBallot_fl TBallot_fl_round TBallot_fl_rep
attribute [local go_sem] TInst_size TInst_one TInst_piece TInst_c0 TInst_c1 TInst_c2 TInst_c3 TInst_c4 TInst_c5 TInst_c6 TInst_c7 TInst_c8 TInst_c9 TInst_c10 TInst_c11 TInst_c12 TInst_c13 TInst_c14 TInst_c15 TInst_c16 TInst_c17 TInst_c18 TInst_c19 TInst_p_prom TInst_put_prom TInst_p_vote TInst_put_vote TInst_set_status TInst_p_call TInst_put_call TInst_set_same TInst_fl TInst_fl_prom TInst_fl_vote TInst_fl_status TInst_fl_call TInst_fl_same
attribute [local go_sem] rcells_n
theorem ret_row2 {P : Program} {fn : Func} {R : Ending → World → Prop} {a : Act} {w : World} {p u : Tmp} {T : TypeId} {n : Nat} {d : TypeDesc} (X : Array Value) {g : Nat} (hu : P.underlying T = some d) (hd : d.isRow = true)
    (hi : (P.info? T).map (·.size) = some n) (hr : fn.results = #[.cell p T, .tmp u]) (hp : a.tmps.getD p undef = .pointer (some ⟨g, 0, none⟩)) (hdf : a.defers = []) (hX : X.size = n) (hrow : row? w g = some X) (hR : R (.returned (.tuple #[.agg X, a.tmps.getD u undef])) w) : bodyPost P fn R .ret a w := by
  obtain ⟨t, ht⟩ := row_some hrow
  refine bodyPost_ret (v := .tuple #[.agg X, a.tmps.getD u undef]) ?_ hdf hR
  have hp' : a.tmps[p]?.getD undef = .pointer (some ⟨g, 0, none⟩) := by simpa using hp
  simp [results, hr, hp', asAddr, run_loadVar_row w g t T X (0, 0) d ht hu (by cases d <;> first | rfl | exact hd) (by rw [hi, hX])]
/-- A call that reads some things, and leaves all as it was. -/
def Reads (P : Program) (f : FuncId) (args : Array Value) (L : List Res) (v : Value) : Prop :=
  ∀ W G, Sat W L G → Calls P f args W fun e W' => e = .returned v ∧ Below W.heap.size W W'
theorem Sts.satOf {w W : World} {F : Nat → Prop} {L R : List Res} (T : Sts w F W (L ++ R)) : ∃ G, Sat W L G := by
  obtain ⟨G, hG, _⟩ := T.call
  exact ⟨G, hG⟩
theorem Reads.at {P : Program} {f : FuncId} {args : Array Value} {L R : List Res} {v : Value} {w W : World} {F : Nat → Prop} (h : Reads P f args L v) (T : Sts w F W (L ++ R)) : Calls P f args W fun e W' => e = .returned v ∧ Below W.heap.size W W' := by
  obtain ⟨G, hG⟩ := T.satOf
  exact h W G hG
theorem Reads.at1 {P : Program} {f : FuncId} {args : Array Value} {r : Res} {R : List Res} {v : Value} {w W : World} {F : Nat → Prop} (h : Reads P f args [r] v) (T : Sts w F W (r :: R)) : Calls P f args W fun e W' => e = .returned v ∧ Below W.heap.size W W' := Reads.at (R := R) h T
theorem Reads.does {P : Program} {f : FuncId} {args : Array Value} {L : List Res} {v : Value} (h : Reads P f args L v) : Does P f args L v L := fun W G hS =>
  (h W G hS).mono fun _ _ ⟨he, hb⟩ => ⟨he, (Sts.start hS).pure hb⟩
end Go.Proofs.Ytnjgjhjilolanaa
/- Layer 3: rows of items: none as yet; the greatest number. -/
namespace Go.Proofs.Ytnjgjhjilolanaa
open Go.RowKit
set_option linter.unusedVariables false
set_option maxRecDepth 20000
attribute [local go_sem] row_alloc row_drew row_drewN row_ext row_setCell row_setRow size_ext setRow_alloc setRow_drew loadOf storeOf piece_lit loadVal_at storeVal_at allOne_lit buildOf buildRes_some
attribute [local go_sem high] cell_alloc frozen_alloc setCell_alloc cell_ext frozen_ext cell_setRow frozen_setRow
attribute [local go_sem ↓] TDeed_ld0 TDeed_st0 TDeed_fd0 TDeed_bd0
attribute [local go_sem] TDeed_size TDeed_one TDeed_piece TDeed_c0 TDeed_c1 TDeed_c2 TDeed_c3 TDeed_c4 TDeed_c5 TDeed_set_kind TDeed_set_key TDeed_set_val TDeed_set_ver TDeed_set_ses TDeed_set_num TDeed_ld TDeed_st TDeed_f_kind TDeed_f_key TDeed_f_val TDeed_f_ver TDeed_f_ses TDeed_f_num TDeed_bd TDeed_fl TDeed_fl_kind TDeed_fl_key TDeed_fl_val TDeed_fl_ver TDeed_fl_ses TDeed_fl_num
attribute [local go_sem high] TDeed_eql TDeed_neq
attribute [local go_sem ↓] index_deps0 load_deps0 store_deps0
attribute [local go_sem] DV_piece DV_size DV_one index_deps load_deps store_deps
attribute [local go_sem high] TDeps_eql TDeps_neq
attribute [local go_sem ↓] TCall_ld0 TCall_st0 TCall_fd0 TCall_bd0
attribute [local go_sem] TCall_size TCall_one TCall_piece TCall_c0 TCall_c1 TCall_c2 TCall_c3 TCall_c4 TCall_c5 TCall_c6 TCall_c7 TCall_c8 TCall_c9 TCall_c10 TCall_c11 TCall_c12 TCall_c13 TCall_p_deed TCall_put_deed TCall_p_deps TCall_put_deps TCall_set_seq TCall_ld TCall_st TCall_f_deed TCall_f_deps TCall_f_seq TCall_bd TCall_fl TCall_fl_deed TCall_fl_deps TCall_fl_seq
attribute [local go_sem high] TCall_eql TCall_neq
attribute [local go_sem ↓] TItem_ld0 TItem_st0 TItem_fd0 TItem_bd0
attribute [local go_sem] TItem_size TItem_one TItem_piece TItem_c0 TItem_c1 TItem_set_rep TItem_set_num TItem_ld TItem_st TItem_f_rep TItem_f_num TItem_bd TItem_fl TItem_fl_rep TItem_fl_num
attribute [local go_sem high] TItem_eql TItem_neq
attribute [local go_sem] TBallot_size TBallot_one TBallot_piece TBallot_c0 TBallot_c1 TBallot_set_round TBallot_set_rep TBallot_fl TBallot_fl_round TBallot_fl_rep
attribute [local go_sem] TInst_size TInst_one TInst_piece TInst_c0 TInst_c1 TInst_c2 TInst_c3 TInst_c4 TInst_c5 TInst_c6 TInst_c7 TInst_c8 TInst_c9 TInst_c10 TInst_c11 TInst_c12 TInst_c13 TInst_c14 TInst_c15 TInst_c16 TInst_c17 TInst_c18 TInst_c19 TInst_p_prom TInst_put_prom TInst_p_vote TInst_put_vote TInst_set_status TInst_p_call TInst_put_call TInst_set_same TInst_fl TInst_fl_prom TInst_fl_vote TInst_fl_status TInst_fl_call TInst_fl_same
attribute [local go_sem] rcells_n
def newN (n : Int) : Int := if n < 0 then 0 else if 7 < n then 7 else n
end Go.Proofs.Ytnjgjhjilolanaa
