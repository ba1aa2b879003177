/- Several texts in one. -/
import Derived.Test.YtpganpiidgkofaaZ5
import Derived.ChangeKeysEq
import Derived.Test.YtpganpiidgkofaaZ7
import Derived.Test.YtpganpiidgkofaaZ8

namespace Go.Proofs.Ytpganpiidgkofaa
open Go.RowKit
attribute [local go_sem] row_alloc row_drew row_drewN row_ext row_setCell row_setRow size_ext setRow_alloc setRow_drew loadOf storeOf piece_lit DV_piece loadVal_at storeVal_at allOne_lit DV_size DV_one
attribute [local go_sem high] cell_alloc frozen_alloc setCell_alloc cell_ext frozen_ext
attribute [local go_sem ↓] index_deps0 load_deps0 store_deps0
attribute [local go_sem] index_deps load_deps store_deps
def goodAt (d : Nat → Int) (n : Int) (i : Nat) : Bool := decide (0 ≤ d i ∧ d i ≤ 64 ∧ (n ≤ i → d i = 0))
def goodD (d : Nat → Int) (n : Int) : Bool := (List.range 7).all (goodAt d n)
theorem goodD_no {d : Nat → Int} {n : Int} (j : Nat) (hj : j < 7) (h : ¬ (0 ≤ d j ∧ d j ≤ 64 ∧ (n ≤ j → d j = 0))) : goodD d n = false := by
  rw [goodD, List.all_eq_false]
  exact ⟨j, by simpa using hj, by unfold goodAt; simpa only [decide_eq_true_eq] using h⟩
theorem goodD_yes {d : Nat → Int} {n : Int} (h : ∀ i, i < 7 → 0 ≤ d i ∧ d i ≤ 64 ∧ (n ≤ i → d i = 0)) : goodD d n = true := by
  rw [goodD, List.all_eq_true]
  intro i hi
  unfold goodAt
  rw [decide_eq_true_eq]
  exact h i (by simpa using hi)
set_option maxHeartbeats 1000000 in
theorem good_any (d : Nat → Int) (n : Int) : Ans Try.prog 113 #[.agg (DV d), .int .i64 n] (.bool (goodD d n)) := by
  intro w
  go_enter Try.func113, Try.ntmps113
  go_wp2
  go_loop [8] (fun i => ∃ j : Nat, j ≤ 7 ∧ i = .int .i64 j ∧ Hid (∀ k, k < j → 0 ≤ d k ∧ d k ≤ 64 ∧ (n ≤ k → d k = 0))) (fun i => 7 - (intOf i).toNat)
  case atStart => exact ⟨0, by omega, rfl, fun k hk => by omega⟩
  case round =>
    obtain ⟨j, hj, rfl, hG⟩ := hrel
    by_cases hlt : j < 7
    · have hno := @goodD_no d n j hlt
      have Hno := Lib.hid hno; clear hno
      by_cases hz : d j = 0
      · have hz' : (d j != 0) = false := by simp [hz]
        have Hz := Lib.hid hz; clear hz
        go_wp2
        all_goals first
          | (go_ret
             refine ⟨?_, (Below.refl _ _).alloc (Nat.le_refl _) _⟩
             exact congrArg (fun b => Ending.returned (.bool b)) (Hno.out (by omega)).symm)
          | (go_round
             case rel =>
               refine ⟨j + 1, by omega, by go_num, fun k hk => ?_⟩
               by_cases e : k = j
               · subst e; exact ⟨by omega, by omega, fun _ => Hz.out⟩
               · exact hG k (by omega)
             case measure => simp [intOf]; omega)
      · have hz' : (d j != 0) = true := by simp [hz]
        go_wp2
        all_goals first
          | (go_ret
             refine ⟨?_, (Below.refl _ _).alloc (Nat.le_refl _) _⟩
             exact congrArg (fun b => Ending.returned (.bool b)) (Hno.out (by omega)).symm)
          | (go_round
             case rel =>
               refine ⟨j + 1, by omega, by go_num, fun k hk => ?_⟩
               by_cases e : k = j
               · subst e; omega
               · exact hG k (by omega)
             case measure => simp [intOf]; omega)
    · obtain rfl : j = 7 := by omega
      have hy := goodD_yes hG
      have Hy := Lib.hid hy; clear hy
      go_wp2
      go_ret
      exact ⟨congrArg (fun b => Ending.returned (.bool b)) Hy.out.symm, (Below.refl _ _).alloc (Nat.le_refl _) _⟩
set_option maxHeartbeats 1000000 in
theorem rgood_any (d : Nat → Int) (n : Int) : Ans Try.prog 97 #[.agg (DV d), .int .i64 n] (.bool (goodD d n)) := by
  intro w
  go_enter Try.func97, Try.ntmps97
  go_wp2
  go_loop [5] (fun i => ∃ j : Nat, j ≤ 7 ∧ i = .int .i64 j ∧ Hid (∀ k, k < j → 0 ≤ d k ∧ d k ≤ 64 ∧ (n ≤ k → d k = 0))) (fun i => 7 - (intOf i).toNat)
  case atStart => exact ⟨0, by omega, rfl, fun k hk => by omega⟩
  case round =>
    obtain ⟨j, hj, rfl, hG⟩ := hrel
    by_cases hlt : j < 7
    · have hno := @goodD_no d n j hlt
      have Hno := Lib.hid hno; clear hno
      have hD := DV_get d j hlt
      by_cases hz : d j = 0
      · have hz' : (d j != 0) = false := by simp [hz]
        have Hz := Lib.hid hz; clear hz
        go_wp2
        all_goals first
          | (go_ret
             refine ⟨?_, (Below.refl _ _).alloc (Nat.le_refl _) _⟩
             exact congrArg (fun b => Ending.returned (.bool b)) (Hno.out (by omega)).symm)
          | (go_round
             case rel =>
               refine ⟨j + 1, by omega, by go_num, fun k hk => ?_⟩
               by_cases e : k = j
               · subst e; exact ⟨by omega, by omega, fun _ => Hz.out⟩
               · exact hG k (by omega)
             case measure => simp [intOf]; omega)
      · have hz' : (d j != 0) = true := by simp [hz]
        go_wp2
        all_goals first
          | (go_ret
             refine ⟨?_, (Below.refl _ _).alloc (Nat.le_refl _) _⟩
             exact congrArg (fun b => Ending.returned (.bool b)) (Hno.out (by omega)).symm)
          | (go_round
             case rel =>
               refine ⟨j + 1, by omega, by go_num, fun k hk => ?_⟩
               by_cases e : k = j
               · subst e; omega
               · exact hG k (by omega)
             case measure => simp [intOf]; omega)
    · obtain rfl : j = 7 := by omega
      have hy := goodD_yes hG
      have Hy := Lib.hid hy; clear hy
      go_wp2
      go_ret
      exact ⟨congrArg (fun b => Ending.returned (.bool b)) Hy.out.symm, (Below.refl _ _).alloc (Nat.le_refl _) _⟩
end Go.Proofs.Ytpganpiidgkofaa
/- Layers 2, 3, 5: whether items, ballots, calls can be. -/
namespace Go.Proofs.Ytpganpiidgkofaa
open Go.RowKit
set_option linter.unusedVariables false
attribute [local go_sem] row_alloc row_drew row_drewN row_ext row_setCell row_setRow size_ext setRow_alloc setRow_drew loadOf storeOf piece_lit loadVal_at storeVal_at allOne_lit buildOf buildRes_some
attribute [local go_sem high] cell_alloc frozen_alloc setCell_alloc cell_ext frozen_ext cell_setRow frozen_setRow
attribute [local go_sem ↓] TDeed_ld0 TDeed_st0 TDeed_fd0 TDeed_bd0
attribute [local go_sem] TDeed_size TDeed_one TDeed_piece TDeed_c0 TDeed_c1 TDeed_c2 TDeed_c3 TDeed_c4 TDeed_c5 TDeed_set_kind TDeed_set_key TDeed_set_val TDeed_set_ver TDeed_set_ses TDeed_set_num TDeed_ld TDeed_st TDeed_f_kind TDeed_f_key TDeed_f_val TDeed_f_ver TDeed_f_ses TDeed_f_num TDeed_bd TDeed_fl TDeed_fl_kind TDeed_fl_key TDeed_fl_val TDeed_fl_ver TDeed_fl_ses TDeed_fl_num
attribute [local go_sem high] TDeed_eql TDeed_neq
attribute [local go_sem ↓] index_deps0 load_deps0 store_deps0
attribute [local go_sem] DV_piece DV_size DV_one index_deps load_deps store_deps
attribute [local go_sem high] TDeps_eql TDeps_neq
attribute [local go_sem ↓] TCall_ld0 TCall_st0 TCall_fd0 TCall_bd0
attribute [local go_sem] TCall_size TCall_one TCall_piece TCall_c0 TCall_c1 TCall_c2 TCall_c3 TCall_c4 TCall_c5 TCall_c6 TCall_c7 TCall_c8 TCall_c9 TCall_c10 TCall_c11 TCall_c12 TCall_c13 TCall_p_deed TCall_put_deed TCall_p_deps TCall_put_deps TCall_set_seq TCall_ld TCall_st TCall_f_deed TCall_f_deps TCall_f_seq TCall_bd TCall_fl TCall_fl_deed TCall_fl_deps TCall_fl_seq
attribute [local go_sem high] TCall_eql TCall_neq
attribute [local go_sem ↓] TItem_ld0 TItem_st0 TItem_fd0 TItem_bd0
attribute [local go_sem] TItem_size TItem_one TItem_piece TItem_c0 TItem_c1 TItem_set_rep TItem_set_num TItem_ld TItem_st TItem_f_rep TItem_f_num TItem_bd TItem_fl TItem_fl_rep TItem_fl_num
attribute [local go_sem high] TItem_eql TItem_neq
attribute [local go_sem ↓] TBallot_ld0 TBallot_st0 TBallot_fd0 TBallot_bd0
attribute [local go_sem] TBallot_size TBallot_one TBallot_piece TBallot_c0 TBallot_c1 TBallot_set_round TBallot_set_rep TBallot_ld TBallot_st TBallot_f_round TBallot_f_rep TBallot_bd TBallot_fl TBallot_fl_round TBallot_fl_rep
attribute [local go_sem high] TBallot_eql TBallot_neq
def goodC (c : Call) (n : Int) : Bool := goodB c.deed && goodD c.deps n && decide (0 ≤ c.seq) && decide (c.seq ≤ 1099511627776)
set_option maxHeartbeats 1000000 in
theorem rgoodC_any (c : Call) (n : Int) : Ans Try.prog 61 #[.agg (CV c), .int .i64 n] (.bool (goodC c n)) := by
  refine Ans.of_sts fun w => ?_
  have T := (Sts.start0 w).new (CV c) 37
  have c1 := rgood4_any c.deed
  have c2 := rgood_any c.deps n
  have hr := T.row
  have hg : goodC c n = (goodB c.deed && goodD c.deps n && decide (0 ≤ c.seq) && decide (c.seq ≤ 1099511627776)) := rfl
  cases h1 : goodB c.deed
  · rw [h1] at c1 hg
    have C1 := Lib.hid c1; have HG := Lib.hid hg; clear c1 c2 hg h1
    go_enter Try.func61, Try.ntmps61
    go_wp2_with fail
    refine (Ans.at C1.out T).mono ?_; clear T hr; rintro e w1 ⟨rfl, T⟩
    go_wp2
    go_ret
    exact ⟨by rw [HG.out]; rfl, T.nil⟩
  · rw [h1] at c1 hg
    cases h2 : goodD c.deps n
    · rw [h2] at c2 hg
      have C1 := Lib.hid c1; have C2 := Lib.hid c2; have HG := Lib.hid hg; clear c1 c2 hg h1 h2
      go_enter Try.func61, Try.ntmps61
      go_wp2_with fail
      refine (Ans.at C1.out T).mono ?_; clear T hr; rintro e w1 ⟨rfl, T⟩
      have hr := T.row
      go_wp2_with fail
      refine (Ans.at C2.out T).mono ?_; clear T hr; rintro e w2 ⟨rfl, T⟩
      go_wp2
      go_ret
      exact ⟨by rw [HG.out]; rfl, T.nil⟩
    · rw [h2] at c2 hg
      have C1 := Lib.hid c1; have C2 := Lib.hid c2; have HG := Lib.hid hg; clear c1 c2 hg h1 h2
      by_cases h3 : 0 ≤ c.seq
      · go_enter Try.func61, Try.ntmps61
        go_wp2_with fail
        refine (Ans.at C1.out T).mono ?_; clear T hr; rintro e w1 ⟨rfl, T⟩
        have hr := T.row
        go_wp2_with fail
        refine (Ans.at C2.out T).mono ?_; clear T hr; rintro e w2 ⟨rfl, T⟩
        have hr := row_cell T.row
        go_wp2
        all_goals go_ret
        all_goals exact ⟨by rw [HG.out]; simp_all, T.nil⟩
      · go_enter Try.func61, Try.ntmps61
        go_wp2_with fail
        refine (Ans.at C1.out T).mono ?_; clear T hr; rintro e w1 ⟨rfl, T⟩
        have hr := T.row
        go_wp2_with fail
        refine (Ans.at C2.out T).mono ?_; clear T hr; rintro e w2 ⟨rfl, T⟩
        have hr := row_cell T.row
        go_wp2
        go_ret
        exact ⟨by rw [HG.out]; simp; omega, T.nil⟩
def goodI (x : Item) (n : Int) : Bool := decide (0 ≤ x.rep ∧ x.rep < n ∧ 1 ≤ x.num ∧ x.num ≤ 64)
def goodBal (b : Ballot) (n : Int) : Bool := decide (0 ≤ b.round ∧ b.round ≤ 1099511627776 ∧ 0 ≤ b.rep ∧ b.rep < n)
set_option maxHeartbeats 1000000 in
theorem itemGood_any (x : Item) (n : Int) : Ans Try.prog 55 #[.agg (IV x), .int .i64 n] (.bool (goodI x n)) := by
  intro w
  go_enter Try.func55, Try.ntmps55
  go_wp2
  all_goals
    go_ret
    refine ⟨congrArg (fun b => Ending.returned (.bool b)) ?_, (Below.refl _ _).alloc (Nat.le_refl _) _⟩
    rw [Bool.eq_iff_iff]; simp [goodI]; omega
set_option maxHeartbeats 1000000 in
theorem ritemGood_any (x : Item) (n : Int) : Ans Try.prog 19 #[.agg (IV x), .int .i64 n] (.bool (goodI x n)) := by
  intro w
  go_enter Try.func19, Try.ntmps19
  go_wp2
  all_goals
    go_ret
    refine ⟨congrArg (fun b => Ending.returned (.bool b)) ?_, (Below.refl _ _).alloc (Nat.le_refl _) _⟩
    rw [Bool.eq_iff_iff]; simp [goodI]; omega
set_option maxHeartbeats 1000000 in
theorem balGood_any (b : Ballot) (n : Int) : Ans Try.prog 86 #[.agg (BV b), .int .i64 n] (.bool (goodBal b n)) := by
  intro w
  go_enter Try.func86, Try.ntmps86
  go_wp2
  all_goals
    go_ret
    refine ⟨congrArg (fun b => Ending.returned (.bool b)) ?_, (Below.refl _ _).alloc (Nat.le_refl _) _⟩
    rw [Bool.eq_iff_iff]; simp [goodBal]; omega
set_option maxHeartbeats 1000000 in
theorem rbalGood_any (b : Ballot) (n : Int) : Ans Try.prog 60 #[.agg (BV b), .int .i64 n] (.bool (goodBal b n)) := by
  intro w
  go_enter Try.func60, Try.ntmps60
  go_wp2
  all_goals
    go_ret
    refine ⟨congrArg (fun b => Ending.returned (.bool b)) ?_, (Below.refl _ _).alloc (Nat.le_refl _) _⟩
    rw [Bool.eq_iff_iff]; simp [goodBal]; omega
set_option maxHeartbeats 1000000 in
theorem goodCall_any (c : Call) (n : Int) : Ans Try.prog 87 #[.agg (CV c), .int .i64 n] (.bool (goodC c n)) := by
  refine Ans.of_sts fun w => ?_
  have T := (Sts.start0 w).new (CV c) 37
  have c1 := good4_any c.deed
  have c2 := good_any c.deps n
  have hr := T.row
  have hg : goodC c n = (goodB c.deed && goodD c.deps n && decide (0 ≤ c.seq) && decide (c.seq ≤ 1099511627776)) := rfl
  cases h1 : goodB c.deed
  · rw [h1] at c1 hg
    have C1 := Lib.hid c1; have HG := Lib.hid hg; clear c1 c2 hg h1
    go_enter Try.func87, Try.ntmps87
    go_wp2_with fail
    refine (Ans.at C1.out T).mono ?_; clear T hr; rintro e w1 ⟨rfl, T⟩
    go_wp2
    go_ret
    exact ⟨by rw [HG.out]; rfl, T.nil⟩
  · rw [h1] at c1 hg
    cases h2 : goodD c.deps n
    · rw [h2] at c2 hg
      have C1 := Lib.hid c1; have C2 := Lib.hid c2; have HG := Lib.hid hg; clear c1 c2 hg h1 h2
      go_enter Try.func87, Try.ntmps87
      go_wp2_with fail
      refine (Ans.at C1.out T).mono ?_; clear T hr; rintro e w1 ⟨rfl, T⟩
      have hr := T.row
      go_wp2_with fail
      refine (Ans.at C2.out T).mono ?_; clear T hr; rintro e w2 ⟨rfl, T⟩
      go_wp2
      go_ret
      exact ⟨by rw [HG.out]; rfl, T.nil⟩
    · rw [h2] at c2 hg
      have C1 := Lib.hid c1; have C2 := Lib.hid c2; have HG := Lib.hid hg; clear c1 c2 hg h1 h2
      by_cases h3 : 0 ≤ c.seq
      · go_enter Try.func87, Try.ntmps87
        go_wp2_with fail
        refine (Ans.at C1.out T).mono ?_; clear T hr; rintro e w1 ⟨rfl, T⟩
        have hr := T.row
        go_wp2_with fail
        refine (Ans.at C2.out T).mono ?_; clear T hr; rintro e w2 ⟨rfl, T⟩
        have hr := row_cell T.row
        go_wp2
        all_goals go_ret
        all_goals exact ⟨by rw [HG.out]; simp_all, T.nil⟩
      · go_enter Try.func87, Try.ntmps87
        go_wp2_with fail
        refine (Ans.at C1.out T).mono ?_; clear T hr; rintro e w1 ⟨rfl, T⟩
        have hr := T.row
        go_wp2_with fail
        refine (Ans.at C2.out T).mono ?_; clear T hr; rintro e w2 ⟨rfl, T⟩
        have hr := row_cell T.row
        go_wp2
        go_ret
        exact ⟨by rw [HG.out]; simp; omega, T.nil⟩
end Go.Proofs.Ytpganpiidgkofaa
/- Layer 3: what is known of items, by their places, as a thing in memory. -/
namespace Go.Proofs.Ytpganpiidgkofaa
open Go.RowKit
set_option linter.unusedVariables false
/-- Rows: of so many replicas; each replica's, by numbers. -/
structure RowsM where
  n : Int
  f : Nat → List (Option Inst)
def rcells (n : Int) (v h : Nat → Value) : Array Value := #[.int .i64 n, v 0, v 1, v 2, v 3, v 4, v 5, v 6, h 0, h 1, h 2, h 3, h 4, h 5, h 6]
section
variable (n : Int) (v h : Nat → Value) (k : Nat) (x : Value)
theorem rcells_n : (rcells n v h)[0]? = some (.int .i64 n) := rfl
theorem rcells_v (hk : k < 7) : (rcells n v h)[1 + k]? = some (v k) := by
  match k, hk with
  | 0, _ => rfl
  | 1, _ => rfl
  | 2, _ => rfl
  | 3, _ => rfl
  | 4, _ => rfl
  | 5, _ => rfl
  | 6, _ => rfl
theorem rcells_h (hk : k < 7) : (rcells n v h)[8 + k]? = some (h k) := by
  match k, hk with
  | 0, _ => rfl
  | 1, _ => rfl
  | 2, _ => rfl
  | 3, _ => rfl
  | 4, _ => rfl
  | 5, _ => rfl
  | 6, _ => rfl
theorem rcells_setv (hk : k < 7) : (rcells n v h).setIfInBounds (1 + k) x = rcells n (updF v k x) h := by
  match k, hk with
  | 0, _ => simp [rcells, updF]
  | 1, _ => simp [rcells, updF]
  | 2, _ => simp [rcells, updF]
  | 3, _ => simp [rcells, updF]
  | 4, _ => simp [rcells, updF]
  | 5, _ => simp [rcells, updF]
  | 6, _ => simp [rcells, updF]
theorem rcells_seth (hk : k < 7) : (rcells n v h).setIfInBounds (8 + k) x = rcells n v (updF h k x) := by
  match k, hk with
  | 0, _ => simp [rcells, updF]
  | 1, _ => simp [rcells, updF]
  | 2, _ => simp [rcells, updF]
  | 3, _ => simp [rcells, updF]
  | 4, _ => simp [rcells, updF]
  | 5, _ => simp [rcells, updF]
  | 6, _ => simp [rcells, updF]
end
def NVo (o : Option Inst) : Array Value := NV (o.getD noInst)
def HVo (o : Option Inst) : Array Value := #[.bool o.isSome]
theorem NVo_size (o : Option Inst) : (NVo o).size = 20 := rfl
theorem HVo_size (o : Option Inst) : (HVo o).size = 1 := rfl
def instsR (v : Value) (l : List (Option Inst)) : Res := vecR 39 20 v l.length (vl NVo l)
def bitsR (h : Value) (l : List (Option Inst)) : Res := vecR 4 1 h l.length (vl HVo l)
def pairR (f : Nat → List (Option Inst)) (v h : Nat → Value) (i : Nat) : Res := starR (instsR (v i) (f i)) (bitsR (h i) (f i))
/-- The other replicas' rows. -/
def othersR (f : Nat → List (Option Inst)) (v h : Nat → Value) (k : Nat) : Res := packR (((List.range 7).erase k).map (pairR f v h))
/-- The rows in block g. -/
def rowsIR (g : Nat) (m : RowsM) : Res := exR fun q : (Nat → Value) × (Nat → Value) => packR (rowR g (rcells m.n q.1 q.2) :: (List.range 7).map (pairR m.f q.1 q.2))
section
variable {w W : World} {F : Nat → Prop} {R : List Res} {g : Nat} {m : RowsM}
theorem Sts.rowsOpen (T : Sts w F W (rowsIR g m :: R)) {k : Nat} (hk : k < 7) : ∃ v h, Sts w F W (rowR g (rcells m.n v h) :: instsR (v k) (m.f k) :: bitsR (h k) (m.f k) :: othersR m.f v h k :: R) := by
  obtain ⟨⟨v, h⟩, T⟩ := T.open
  have T := T.unpack
  have T : Sts w F W (((pairR m.f v h k :: ((List.range 7).erase k).map (pairR m.f v h)) ++ (rowR g (rcells m.n v h) :: R))) :=
    T.perm (((row_take (pairR m.f v h) hk).append_right R).cons (rowR g (rcells m.n v h)) |>.trans (List.perm_middle.symm))
  have T : Sts w F W ((((List.range 7).erase k).map (pairR m.f v h)) ++ (pairR m.f v h k :: rowR g (rcells m.n v h) :: R)) := T.perm (List.perm_middle.symm)
  have T := T.pack
  have T := T.swap.split
  exact ⟨v, h, T.perm (by
    show (instsR (v k) (m.f k) :: bitsR (h k) (m.f k) :: packR _ :: rowR g _ :: R).Perm _
    exact ((List.Perm.cons _ ((List.Perm.cons _ (.swap ..)).trans (.swap ..))).trans (.swap ..)))⟩
theorem Sts.rowsShut {v h : Nat → Value} {k : Nat} (hk : k < 7) (T : Sts w F W (rowR g (rcells m.n v h) :: instsR (v k) (m.f k) :: bitsR (h k) (m.f k) :: othersR m.f v h k :: R)) : Sts w F W (rowsIR g m :: R) := by
  have T := T.perm ((List.Perm.swap ..).trans (List.Perm.cons _ ((List.Perm.swap ..).trans (List.Perm.cons _ (.swap ..)))))
  -- insts, bits, others, row
  have T := T.join.swap
  have T := T.unpack
  have T : Sts w F W (pairR m.f v h k :: rowR g (rcells m.n v h) :: (((List.range 7).erase k).map (pairR m.f v h) ++ R)) :=
    T.perm (List.perm_middle.trans (List.Perm.cons _ List.perm_middle))
  have T : Sts w F W ((rowR g (rcells m.n v h) :: (List.range 7).map (pairR m.f v h)) ++ R) :=
    T.perm ((List.Perm.swap ..).trans (List.Perm.cons _ ((row_take (pairR m.f v h) hk).symm.append_right R)))
  exact T.pack.close (v, h)
theorem others_upd (f : Nat → List (Option Inst)) (v h : Nat → Value) (k : Nat) (l : List (Option Inst)) (x y : Value) : othersR (updF f k l) (updF v k x) (updF h k y) k = othersR f v h k := by
  unfold othersR
  congr 1
  refine row_others fun i hi => ?_
  unfold pairR
  rw [updF_other _ _ hi, updF_other _ _ hi, updF_other _ _ hi]
end
/-- What is known of an item. -/
noncomputable def getM (m : RowsM) (x : Item) : Option Inst := if goodI x m.n = true then ((m.f x.rep.toNat)[x.num.toNat - 1]?).join else none
/-- A row with something at a place. -/
def putL (l : List (Option Inst)) (i : Nat) (t : Inst) : List (Option Inst) := (l ++ List.replicate (i + 1 - l.length) none).set i (some t)
/-- So much is added as is wanted. -/
theorem putL_of {l0 l : List (Option Inst)} {j p : Nat} (t : Inst) (h : l = l0 ++ List.replicate p none) (hp : p = 0 ∨ l.length ≤ j + 1) (hj : j + 1 ≤ l.length) : putL l0 j t = l.set j (some t) := by
  unfold putL
  have hl : l.length = l0.length + p := by rw [h, List.length_append, List.length_replicate]
  have e : j + 1 - l0.length = p := by omega
  rw [e, h]
noncomputable def setM (m : RowsM) (x : Item) (t : Inst) : RowsM := if goodI x m.n = true then { m with f := updF m.f x.rep.toNat (putL (m.f x.rep.toNat) (x.num.toNat - 1) t) } else m
end Go.Proofs.Ytpganpiidgkofaa
