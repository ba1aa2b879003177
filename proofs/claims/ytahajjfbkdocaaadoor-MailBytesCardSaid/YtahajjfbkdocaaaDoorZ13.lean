/- Several texts in one. -/
import Derived.Test.YtahajjfbkdocaaaDoorZ5
import Derived.Test.YtahajjfbkdocaaaDoorZ12
/- Layers 2, 3, 5: items, ballots, calls: whether they can be, their bytes. -/
namespace Go.Proofs.YtahajjfbkdocaaaDoor
open Go.RowKit
set_option linter.unusedVariables false
attribute [local go_sem] row_alloc row_drew row_drewN row_ext row_setCell row_setRow size_ext setRow_alloc setRow_drew loadOf storeOf piece_lit loadVal_at storeVal_at allOne_lit buildOf buildRes_some
attribute [local go_sem high] cell_alloc frozen_alloc setCell_alloc cell_ext frozen_ext cell_setRow frozen_setRow
attribute [local go_sem ↓] TDeed_ld0 TDeed_st0 TDeed_fd0 TDeed_bd0
attribute [local go_sem] TDeed_size TDeed_one TDeed_piece TDeed_c0 TDeed_c1 TDeed_c2 TDeed_c3 TDeed_c4 TDeed_c5 TDeed_set_kind TDeed_set_key TDeed_set_val TDeed_set_ver TDeed_set_ses TDeed_set_num TDeed_ld TDeed_st TDeed_f_kind TDeed_f_key TDeed_f_val TDeed_f_ver TDeed_f_ses TDeed_f_num TDeed_bd TDeed_fl TDeed_fl_kind TDeed_fl_key TDeed_fl_val TDeed_fl_ver TDeed_fl_ses TDeed_fl_num
attribute [local go_sem high] TDeed_eql TDeed_neq
attribute [local go_sem ↓] index_deps0 load_deps0 store_deps0
attribute [local go_sem] DV_piece DV_size DV_one index_deps load_deps store_deps
attribute [local go_sem high] TDeps_eql TDeps_neq
attribute [local go_sem ↓] TCall_ld0 TCall_st0 TCall_fd0 TCall_bd0
attribute [local go_sem] TCall_size TCall_one TCall_piece TCall_c0 TCall_c1 TCall_c2 TCall_c3 TCall_c4 TCall_c5 TCall_c6 TCall_c7 TCall_c8 TCall_c9 TCall_c10 TCall_c11 TCall_c12 TCall_c13 TCall_p_deed TCall_put_deed TCall_p_deps TCall_put_deps TCall_set_seq TCall_ld TCall_st TCall_f_deed TCall_f_deps TCall_f_seq TCall_bd TCall_fl TCall_fl_deed TCall_fl_deps TCall_fl_seq
attribute [local go_sem high] TCall_eql TCall_neq
attribute [local go_sem ↓] TItem_ld0 TItem_st0 TItem_fd0 TItem_bd0
attribute [local go_sem] TItem_size TItem_one TItem_piece TItem_c0 TItem_c1 TItem_set_rep TItem_set_num TItem_ld TItem_st TItem_f_rep TItem_f_num TItem_bd TItem_fl TItem_fl_rep TItem_fl_num
attribute [local go_sem high] TItem_eql TItem_neq
attribute [local go_sem ↓] TBallot_ld0 TBallot_st0 TBallot_fd0 TBallot_bd0
attribute [local go_sem] TBallot_size TBallot_one TBallot_piece TBallot_c0 TBallot_c1 TBallot_set_round TBallot_set_rep TBallot_ld TBallot_st TBallot_f_round TBallot_f_rep TBallot_bd TBallot_fl TBallot_fl_round TBallot_fl_rep
attribute [local go_sem high] TBallot_eql TBallot_neq
def goodI (x : Item) (n : Int) : Bool := decide (0 ≤ x.rep ∧ x.rep < n ∧ 1 ≤ x.num ∧ x.num ≤ 64)
def goodBal (b : Ballot) (n : Int) : Bool := decide (0 ≤ b.round ∧ b.round ≤ 1099511627776 ∧ 0 ≤ b.rep ∧ b.rep < n)
set_option maxHeartbeats 1000000 in
theorem itemGood_any (x : Item) (n : Int) : Ans Tryd.prog 22 #[.agg (IV x), .int .i64 n] (.bool (goodI x n)) := by
  intro w
  go_enter Tryd.func22, Tryd.ntmps22
  go_wp2
  all_goals
    go_ret
    refine ⟨congrArg (fun b => Ending.returned (.bool b)) ?_, (Below.refl _ _).alloc (Nat.le_refl _) _⟩
    rw [Bool.eq_iff_iff]; simp [goodI]; omega
set_option maxHeartbeats 1000000 in
theorem ritemGood_any (x : Item) (n : Int) : Ans Tryd.prog 16 #[.agg (IV x), .int .i64 n] (.bool (goodI x n)) := by
  intro w
  go_enter Tryd.func16, Tryd.ntmps16
  go_wp2
  all_goals
    go_ret
    refine ⟨congrArg (fun b => Ending.returned (.bool b)) ?_, (Below.refl _ _).alloc (Nat.le_refl _) _⟩
    rw [Bool.eq_iff_iff]; simp [goodI]; omega
set_option maxHeartbeats 1000000 in
theorem balGood_any (b : Ballot) (n : Int) : Ans Tryd.prog 23 #[.agg (BV b), .int .i64 n] (.bool (goodBal b n)) := by
  intro w
  go_enter Tryd.func23, Tryd.ntmps23
  go_wp2
  all_goals
    go_ret
    refine ⟨congrArg (fun b => Ending.returned (.bool b)) ?_, (Below.refl _ _).alloc (Nat.le_refl _) _⟩
    rw [Bool.eq_iff_iff]; simp [goodBal]; omega
set_option maxHeartbeats 1000000 in
theorem rbalGood_any (b : Ballot) (n : Int) : Ans Tryd.prog 17 #[.agg (BV b), .int .i64 n] (.bool (goodBal b n)) := by
  intro w
  go_enter Tryd.func17, Tryd.ntmps17
  go_wp2
  all_goals
    go_ret
    refine ⟨congrArg (fun b => Ending.returned (.bool b)) ?_, (Below.refl _ _).alloc (Nat.le_refl _) _⟩
    rw [Bool.eq_iff_iff]; simp [goodBal]; omega
set_option maxHeartbeats 1000000 in
theorem goodCall_any (c : Call) (n : Int) : Ans Tryd.prog 24 #[.agg (CV c), .int .i64 n] (.bool (goodC c n)) := by
  refine Ans.of_sts fun w => ?_
  have T := (Sts.start0 w).new (CV c) 31
  have c1 := good4_any c.deed
  have c2 := good_any c.deps n
  have hr := T.row
  have hg : goodC c n = (goodB c.deed && goodD c.deps n && decide (0 ≤ c.seq) && decide (c.seq ≤ 1099511627776)) := rfl
  cases h1 : goodB c.deed
  · rw [h1] at c1 hg
    have C1 := Lib.hid c1; have HG := Lib.hid hg; clear c1 c2 hg h1
    go_enter Tryd.func24, Tryd.ntmps24
    go_wp2_with fail
    refine (Ans.at C1.out T).mono ?_; clear T hr; rintro e w1 ⟨rfl, T⟩
    go_wp2
    go_ret
    exact ⟨by rw [HG.out]; rfl, T.nil⟩
  · rw [h1] at c1 hg
    cases h2 : goodD c.deps n
    · rw [h2] at c2 hg
      have C1 := Lib.hid c1; have C2 := Lib.hid c2; have HG := Lib.hid hg; clear c1 c2 hg h1 h2
      go_enter Tryd.func24, Tryd.ntmps24
      go_wp2_with fail
      refine (Ans.at C1.out T).mono ?_; clear T hr; rintro e w1 ⟨rfl, T⟩
      have hr := T.row
      go_wp2_with fail
      refine (Ans.at C2.out T).mono ?_; clear T hr; rintro e w2 ⟨rfl, T⟩
      go_wp2
      go_ret
      exact ⟨by rw [HG.out]; rfl, T.nil⟩
    · rw [h2] at c2 hg
      have C1 := Lib.hid c1; have C2 := Lib.hid c2; have HG := Lib.hid hg; clear c1 c2 hg h1 h2
      by_cases h3 : 0 ≤ c.seq
      · go_enter Tryd.func24, Tryd.ntmps24
        go_wp2_with fail
        refine (Ans.at C1.out T).mono ?_; clear T hr; rintro e w1 ⟨rfl, T⟩
        have hr := T.row
        go_wp2_with fail
        refine (Ans.at C2.out T).mono ?_; clear T hr; rintro e w2 ⟨rfl, T⟩
        have hr := row_cell T.row
        go_wp2
        all_goals go_ret
        all_goals exact ⟨by rw [HG.out]; simp_all, T.nil⟩
      · go_enter Tryd.func24, Tryd.ntmps24
        go_wp2_with fail
        refine (Ans.at C1.out T).mono ?_; clear T hr; rintro e w1 ⟨rfl, T⟩
        have hr := T.row
        go_wp2_with fail
        refine (Ans.at C2.out T).mono ?_; clear T hr; rintro e w2 ⟨rfl, T⟩
        have hr := row_cell T.row
        go_wp2
        go_ret
        exact ⟨by rw [HG.out]; simp; omega, T.nil⟩
/-! bytes -/
def In64 (n : Int) : Prop := -9223372036854775808 ≤ n ∧ n < 9223372036854775808
theorem two_in {a b : Int} (ha : In64 a) (hb : In64 b) : ∀ n ∈ [a, b], -9223372036854775808 ≤ n ∧ n < 9223372036854775808 := by
  intro n hn; simp at hn; rcases hn with rfl | rfl
  · exact ha
  · exact hb
set_option maxHeartbeats 1000000 in
theorem itemPutD (g : Nat) (l : List UInt8) (x : Item) (h1 : In64 x.rep) (h2 : In64 x.num) (hb : l.length ≤ 1000000) :
    Does Tryd.prog 37 #[.pointer (some ⟨g, 0, none⟩), .agg (IV x)] [snkR g l] (.tuple #[]) [snkR g (l ++ encs [x.rep, x.num])] := by
  intro W G hS
  have T := ((Sts.start hS).new (IV x) 23).new #[.int .i64 x.rep, .int .i64 x.num] 3
  clear hS
  simp only [World.size_alloc] at T
  go_enter Tryd.func37, Tryd.ntmps37
  go_wp2_with fail
  refine (Does.at2 (sinkNatD g l (W.heap.size + 1) 0 2 _ [x.rep, x.num] ?_ (two_in h1 h2) (by simp; omega)) T.rot2.swap2.swap2).mono ?_; clear T
  · intro j hj
    match j, hj with
    | 0, _ => rfl
    | 1, _ => rfl
  rintro e w1 ⟨rfl, T⟩
  go_wp2
  go_end0
  exact ⟨rfl, T.swap.drop.swap.drop⟩
set_option maxHeartbeats 1000000 in
theorem balPutD (g : Nat) (l : List UInt8) (x : Ballot) (h1 : In64 x.round) (h2 : In64 x.rep) (hb : l.length ≤ 1000000) :
    Does Tryd.prog 38 #[.pointer (some ⟨g, 0, none⟩), .agg (BV x)] [snkR g l] (.tuple #[]) [snkR g (l ++ encs [x.round, x.rep])] := by
  intro W G hS
  have T := ((Sts.start hS).new (BV x) 25).new #[.int .i64 x.round, .int .i64 x.rep] 3
  clear hS
  simp only [World.size_alloc] at T
  go_enter Tryd.func38, Tryd.ntmps38
  go_wp2_with fail
  refine (Does.at2 (sinkNatD g l (W.heap.size + 1) 0 2 _ [x.round, x.rep] ?_ (two_in h1 h2) (by simp; omega)) T.rot2.swap2.swap2).mono ?_; clear T
  · intro j hj
    match j, hj with
    | 0, _ => rfl
    | 1, _ => rfl
  rintro e w1 ⟨rfl, T⟩
  go_wp2
  go_end0
  exact ⟨rfl, T.swap.drop.swap.drop⟩
def bitB (b : Bool) : List UInt8 := [if b then 1 else 0]
set_option maxHeartbeats 1000000 in
theorem sinkBitD (g : Nat) (l : List UInt8) (b : Bool) (hb : l.length ≤ 1000000) :
    Does Tryd.prog 39 #[.pointer (some ⟨g, 0, none⟩), .bool b] [snkR g l] (.tuple #[]) [snkR g (l ++ bitB b)] := by
  intro W G hS
  cases b
  · have T := (Sts.start hS).new #[.int .i64 0] 3
    clear hS
    go_enter Tryd.func39, Tryd.ntmps39
    go_wp2_with fail
    refine (Does.at2 (sinkNatD g l W.heap.size 0 1 _ [0] (by intro j hj; simp at hj; subst hj; rfl) (by simp) (by simp; omega)) T.swap).mono ?_; clear T
    rintro e w1 ⟨rfl, T⟩
    go_wp2
    go_end0
    rw [show encs [(0 : Int)] = bitB false by show enc 0 ++ [] = _; rw [enc_small (by omega)]; rfl] at T
    exact ⟨rfl, T.swap.drop⟩
  · have T := (Sts.start hS).new #[.int .i64 1] 3
    clear hS
    go_enter Tryd.func39, Tryd.ntmps39
    go_wp2_with fail
    refine (Does.at2 (sinkNatD g l W.heap.size 0 1 _ [1] (by intro j hj; simp at hj; subst hj; rfl) (by simp) (by simp; omega)) T.swap).mono ?_; clear T
    rintro e w1 ⟨rfl, T⟩
    go_wp2
    go_end0
    rw [show encs [(1 : Int)] = bitB true by show enc 1 ++ [] = _; rw [enc_small (by omega)]; rfl] at T
    exact ⟨rfl, T.swap.drop⟩
def getI (s : Src) : Item × Src := (⟨(natS s 6).1, (natS (natS s 6).2 64).1⟩, (natS (natS s 6).2 64).2)
def getBal (s : Src) : Ballot × Src := (⟨(natS s 1099511627776).1, (natS (natS s 1099511627776).2 6).1⟩, (natS (natS s 1099511627776).2 6).2)
set_option maxHeartbeats 1000000 in
theorem itemGetD (g : Nat) (s : Src) : Does Tryd.prog 50 #[.pointer (some ⟨g, 0, none⟩)] [srcR g s] (.agg (IV (getI s).1)) [srcR g (getI s).2] := by
  intro W G h
  have T := (Sts.start h).new (IV noItem) 23
  clear h
  go_enter Tryd.func50, Tryd.ntmps50
  go_wp2_with fail
  refine (Does.at1 (natD g s 6 (by omega)) T.swap).mono ?_; clear T; rintro e w1 ⟨rfl, T⟩
  go_wp2_with fail
  refine (Does.at1 (natD g _ 64 (by omega)) T).mono ?_; clear T; rintro e w2 ⟨rfl, T⟩
  have hr := T.row1
  have hlt := row_lt hr
  have hI : getI s = (⟨(natS s 6).1, (natS (natS s 6).2 64).1⟩, (natS (natS s 6).2 64).2) := rfl
  have HI := Lib.hid hI; clear hI
  go_wp2
  exact TItem_ret _ rfl rfl rfl (row_setRow_same _ _ _ _ hr) ⟨by rw [HI.out], by rw [HI.out]; exact (T.swap.setRow _).swap.swap.drop⟩
set_option maxHeartbeats 1000000 in
theorem balGetD (g : Nat) (s : Src) : Does Tryd.prog 51 #[.pointer (some ⟨g, 0, none⟩)] [srcR g s] (.agg (BV (getBal s).1)) [srcR g (getBal s).2] := by
  intro W G h
  have T := (Sts.start h).new (BV noBallot) 25
  clear h
  go_enter Tryd.func51, Tryd.ntmps51
  go_wp2_with fail
  refine (Does.at1 (natD g s 1099511627776 (by omega)) T.swap).mono ?_; clear T; rintro e w1 ⟨rfl, T⟩
  go_wp2_with fail
  refine (Does.at1 (natD g _ 6 (by omega)) T).mono ?_; clear T; rintro e w2 ⟨rfl, T⟩
  have hr := T.row1
  have hlt := row_lt hr
  have hI : getBal s = (⟨(natS s 1099511627776).1, (natS (natS s 1099511627776).2 6).1⟩, (natS (natS s 1099511627776).2 6).2) := rfl
  have HI := Lib.hid hI; clear hI
  go_wp2
  exact TBallot_ret _ rfl rfl rfl (row_setRow_same _ _ _ _ hr) ⟨by rw [HI.out], by rw [HI.out]; exact (T.swap.setRow _).swap.swap.drop⟩
set_option maxHeartbeats 1000000 in
theorem bitD (g : Nat) (s : Src) : Does Tryd.prog 52 #[.pointer (some ⟨g, 0, none⟩)] [srcR g s] (.bool ((natS s 1).1 == 1)) [srcR g (natS s 1).2] := by
  intro W G h
  have T := Sts.start h
  clear h
  go_enter Tryd.func52, Tryd.ntmps52
  go_wp2_with fail
  refine (Does.at1 (natD g s 1 (by omega)) T).mono ?_; clear T; rintro e w1 ⟨rfl, T⟩
  go_wp2
  go_ret
  refine ⟨congrArg (fun b => Ending.returned (.bool b)) ?_, T⟩
  rw [Bool.eq_iff_iff]; simp; omega
set_option maxHeartbeats 1000000 in
theorem overQ {w W : World} {F : Nat → Prop} {R : List Res} {g : Nat} {s : Src} (T : Sts w F W (srcR g s :: R)) : Calls Tryd.prog 28 #[.pointer (some ⟨g, 0, none⟩)] W fun e W' => e = .returned (.bool (!s.dry && s.left.isEmpty)) ∧ W = W' := by
  have hc := row_cell T.row
  unfold SV at hc
  clear T
  have he : ((strL s.left).toList == []) = s.left.isEmpty := by
    rw [Bool.eq_iff_iff, beq_iff_eq, ByteArray.toList_eq, List.isEmpty_iff]; exact Iff.rfl
  have he2 : (strL s.left).toList.isEmpty = s.left.isEmpty := by
    rw [Bool.eq_iff_iff, List.isEmpty_iff, ByteArray.toList_eq, List.isEmpty_iff]; exact Iff.rfl
  generalize strL s.left = B at *
  cases hd : s.dry
  · rw [hd] at hc
    go_enter Tryd.func28, Tryd.ntmps28
    go_wp2
    go_ret
    exact ⟨rfl, rfl⟩
  · rw [hd] at hc
    go_enter Tryd.func28, Tryd.ntmps28
    go_wp2
    go_ret
    exact ⟨rfl, rfl⟩
end Go.Proofs.YtahajjfbkdocaaaDoor
/- Carries as a value, as cells: its parts, equality, loads, stores, building. Printed by types.py. -/
namespace Go.Proofs.YtahajjfbkdocaaaDoor
open Go.RowKit
set_option linter.unusedVariables false
structure Carries where
  call : Bool
  known : Bool
def KRV (x : Carries) : Array Value := #[.bool x.call, .bool x.known]
def noCarries : Carries := ⟨false, false⟩
section
variable (x y : Carries)
theorem TCarries_size : (KRV x).size = 2 := rfl
theorem TCarries_one : allOne (KRV x) = true := by simp [allOne, KRV, Value.oneCell']
theorem TCarries_piece : piece (KRV x) 0 2 = KRV x := piece_all _ _ rfl
theorem TCarries_c0 : (KRV x)[0]? = some (.bool x.call) := rfl
theorem TCarries_c1 : (KRV x)[1]? = some (.bool x.known) := rfl
theorem TCarries_set_call (v : Bool) : (KRV x).setIfInBounds 0 (.bool v) = KRV { x with call := v } := rfl
theorem TCarries_set_known (v : Bool) : (KRV x).setIfInBounds 1 (.bool v) = KRV { x with known := v } := rfl
theorem TCarries_cat : KRV x = #[.bool x.call] ++ #[.bool x.known] := by kernel_rfl
theorem TCarries_ext : KRV x = KRV y ↔ x.call = y.call ∧ x.known = y.known := by
  constructor
  · intro h
    refine ⟨?_, ?_⟩
    · have := congrArg (·[0]?) h; simpa [TCarries_c0, TCarries_size] using this
    · have := congrArg (·[1]?) h; simpa [TCarries_c1, TCarries_size] using this
  · rintro ⟨h0, h1⟩
    rw [TCarries_cat x, TCarries_cat y, h0, h1]
end
theorem TCarries_und : Tryd.prog.underlying 60 = some (.struct (Tryd.prog.fieldsOf 60)) := by kernel_rfl
theorem TCarries_eq (d : Nat) (x y : Carries) (w : World) : (Op.equalIn (d + 2) 60 (.agg (KRV x)) (.agg (KRV y))).run Tryd.prog w = .ok (eqA (KRV x) (KRV y)) w := by
  refine eq_struct (d := d + 1) (L := [(4, 0, x.call == y.call), (4, 1, x.known == y.known)]) TCarries_und (by kernel_rfl) (by kernel_rfl) ?_ ?_ w
  · simp only [List.forall_mem_cons]
    exact ⟨⟨_, _, part_cell Tryd.underlying4 rfl (by kernel_rfl) (TCarries_c0 x), part_cell Tryd.underlying4 rfl (by kernel_rfl) (TCarries_c0 y), fun w => run_equalIn_bool' w (d + 0) _ _ _ Tryd.underlying4⟩, ⟨_, _, part_cell Tryd.underlying4 rfl (by kernel_rfl) (TCarries_c1 x), part_cell Tryd.underlying4 rfl (by kernel_rfl) (TCarries_c1 y), fun w => run_equalIn_bool' w (d + 0) _ _ _ Tryd.underlying4⟩, by simp⟩
  · refine eqA_of ?_
    rw [TCarries_ext]
    simp
theorem TCarries_eql (x y : Carries) (w : World) : (binOp .eql 60 (.agg (KRV x)) (.agg (KRV y))).run Tryd.prog w = .ok (.bool (eqA (KRV x) (KRV y))) w := eql_of (TCarries_eq 9998 x y) w
theorem TCarries_neq (x y : Carries) (w : World) : (binOp .neq 60 (.agg (KRV x)) (.agg (KRV y))).run Tryd.prog w = .ok (.bool (!eqA (KRV x) (KRV y))) w := neq_of (TCarries_eq 9998 x y) w
theorem TCarries_ld0 (v : Value) : Instr.loadAt 60 v = loadSem 60 v := rfl
theorem TCarries_st0 (v u : Value) : Instr.storeAt 60 v u = storeSem 60 v u := rfl
theorem TCarries_fd0 (x : Value) (i : Nat) : Instr.field 60 x i = fieldSem 60 x i := rfl
theorem TCarries_bd0 (p : Array (Nat × Value)) : Instr.build 60 p = buildS 60 p := rfl
theorem TCarries_ld (w : World) (v : Value) : (loadSem 60 v).run Tryd.prog w = loadVal Tryd.prog 60 2 w v := load_val TCarries_und rfl (by kernel_rfl) w v
theorem TCarries_st (w : World) (v u : Value) : (storeSem 60 v u).run Tryd.prog w = storeVal Tryd.prog 60 2 w v u := store_val (by kernel_rfl) w v u
theorem TCarries_f_call (x : Carries) (w : World) : (fieldSem 60 (.agg (KRV x)) 0).run Tryd.prog w = .ok (.bool x.call) w := field_of TCarries_und (by kernel_rfl) (part_cell Tryd.underlying4 rfl (by kernel_rfl) (TCarries_c0 x)) w
theorem TCarries_f_known (x : Carries) (w : World) : (fieldSem 60 (.agg (KRV x)) 1).run Tryd.prog w = .ok (.bool x.known) w := field_of TCarries_und (by kernel_rfl) (part_cell Tryd.underlying4 rfl (by kernel_rfl) (TCarries_c1 x)) w
def TCarries_pl : Nat → Option (Nat × Nat) := fun i => (#[(0, 1), (1, 1)] : Array (Nat × Nat))[i]?
theorem TCarries_bd (w : World) (p : Array (Nat × Value)) : (buildS 60 p).run Tryd.prog w = buildOf Tryd.prog 60 TCarries_pl (KRV noCarries) p w := build_struct TCarries_und (by kernel_rfl) (fun w => by kernel_rfl) w p
theorem TCarries_fl (X : Array Value) : fillS TCarries_pl X [] = some X := rfl
theorem TCarries_fl_call (x : Carries) (v : Bool) (r : List (Nat × Value)) : fillS TCarries_pl (KRV x) ((0, .bool v) :: r) = fillS TCarries_pl (KRV { x with call := v }) r := rfl
theorem TCarries_fl_known (x : Carries) (v : Bool) (r : List (Nat × Value)) : fillS TCarries_pl (KRV x) ((1, .bool v) :: r) = fillS TCarries_pl (KRV { x with known := v }) r := rfl
theorem TCarries_ret {fn : Func} {R : Ending → World → Prop} {a : Act} {w : World} {p : Tmp} (x : Carries) {g : Nat} (hr : fn.results = #[.cell p 60]) (hp : a.tmps.getD p undef = .pointer (some ⟨g, 0, none⟩)) (hdf : a.defers = []) (hrow : row? w g = some (KRV x)) (hR : R (.returned (.agg (KRV x))) w) : bodyPost Tryd.prog fn R .ret a w :=
  ret_row (KRV x) TCarries_und rfl (by kernel_rfl) hr hp hdf (TCarries_size x) hrow hR
end Go.Proofs.YtahajjfbkdocaaaDoor
