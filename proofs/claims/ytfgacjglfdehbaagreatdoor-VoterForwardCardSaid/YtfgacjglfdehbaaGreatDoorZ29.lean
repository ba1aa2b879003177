/- Several texts in one. -/
import Derived.Test.YtfgacjglfdehbaaGreatDoorZ28
import Derived.Test.YtfgacjglfdehbaaGreatDoorZ3
import Derived.Test.YtfgacjglfdehbaaGreatDoorZ14
import Derived.Test.YtfgacjglfdehbaaGreatDoorZ4
/- Layer 12: Top, Size, Next. -/
namespace Go.Proofs.YtfgacjglfdehbaaGreatDoor
open Go.RowKit
set_option linter.unusedVariables false
set_option maxRecDepth 20000
attribute [local go_sem] row_alloc row_drew row_drewN row_ext row_setCell row_setRow size_ext setRow_alloc setRow_drew loadOf storeOf piece_lit loadVal_at storeVal_at allOne_lit buildOf buildRes_some
attribute [local go_sem high] cell_alloc frozen_alloc setCell_alloc cell_ext frozen_ext cell_setRow frozen_setRow
attribute [local go_sem ↓] TDeed_ld0 TDeed_st0 TDeed_fd0 TDeed_bd0
attribute [local go_sem] TDeed_size TDeed_one TDeed_piece TDeed_c0 TDeed_c1 TDeed_c2 TDeed_c3 TDeed_c4 TDeed_c5 TDeed_set_kind TDeed_set_key TDeed_set_val TDeed_set_ver TDeed_set_ses TDeed_set_num TDeed_ld TDeed_st TDeed_f_kind TDeed_f_key TDeed_f_val TDeed_f_ver TDeed_f_ses TDeed_f_num TDeed_bd TDeed_fl TDeed_fl_kind TDeed_fl_key TDeed_fl_val TDeed_fl_ver TDeed_fl_ses TDeed_fl_num
attribute [local go_sem high] TDeed_eql TDeed_neq
attribute [local go_sem ↓] index_deps0 load_deps0 store_deps0
attribute [local go_sem] DV_piece DV_size DV_one index_deps load_deps store_deps
attribute [local go_sem high] TDeps_eql TDeps_neq
attribute [local go_sem ↓] TCall_ld0 TCall_st0 TCall_fd0 TCall_bd0
attribute [local go_sem] TCall_size TCall_one TCall_piece TCall_c0 TCall_c1 TCall_c2 TCall_c3 TCall_c4 TCall_c5 TCall_c6 TCall_c7 TCall_c8 TCall_c9 TCall_c10 TCall_c11 TCall_c12 TCall_c13 TCall_p_deed TCall_put_deed TCall_p_deps TCall_put_deps TCall_set_seq TCall_ld TCall_st TCall_f_deed TCall_f_deps TCall_f_seq TCall_bd TCall_fl TCall_fl_deed TCall_fl_deps TCall_fl_seq
attribute [local go_sem high] TCall_eql TCall_neq
attribute [local go_sem ↓] TItem_ld0 TItem_st0 TItem_fd0 TItem_bd0
attribute [local go_sem] TItem_size TItem_one TItem_piece TItem_c0 TItem_c1 TItem_set_rep TItem_set_num TItem_ld TItem_st TItem_f_rep TItem_f_num TItem_bd TItem_fl TItem_fl_rep TItem_fl_num
attribute [local go_sem high] TItem_eql TItem_neq
attribute [local go_sem ↓] TBallot_ld0 TBallot_st0 TBallot_fd0 TBallot_bd0
attribute [local go_sem] TBallot_size TBallot_one TBallot_piece TBallot_c0 TBallot_c1 TBallot_set_round TBallot_set_rep TBallot_ld TBallot_st TBallot_f_round TBallot_f_rep TBallot_bd TBallot_fl TBallot_fl_round TBallot_fl_rep
attribute [local go_sem high] TBallot_eql TBallot_neq
attribute [local go_sem ↓] TInst_ld0 TInst_st0 TInst_fd0 TInst_bd0
attribute [local go_sem] TInst_size TInst_one TInst_piece TInst_c0 TInst_c1 TInst_c2 TInst_c3 TInst_c4 TInst_c5 TInst_c6 TInst_c7 TInst_c8 TInst_c9 TInst_c10 TInst_c11 TInst_c12 TInst_c13 TInst_c14 TInst_c15 TInst_c16 TInst_c17 TInst_c18 TInst_c19 TInst_p_prom TInst_put_prom TInst_p_vote TInst_put_vote TInst_set_status TInst_p_call TInst_put_call TInst_set_same TInst_ld TInst_st TInst_f_prom TInst_f_vote TInst_f_status TInst_f_call TInst_f_same TInst_bd TInst_fl TInst_fl_prom TInst_fl_vote TInst_fl_status TInst_fl_call TInst_fl_same
attribute [local go_sem high] TInst_eql TInst_neq
section
variable {w W : World} {F : Nat → Prop} {R : List Res} {s lg p g bk bs : Nat} {I : Idx} {D : List UInt8} {safe : Nat} {m : RowsM}
theorem spSizeT (T : Sts w F W (spL s lg p g bk bs I D safe m ++ R)) : Calls Tryz.prog 20 #[.pointer (some ⟨s, 0, none⟩)] W fun e W' => e = .returned (.int .i64 m.n) ∧ W = W' := by
  have T0 : Sts w F W (idxR s lg bk bs I :: rowR lg (ledCells p g m.n) :: plR p D safe :: rowsIR g m :: R) := T
  obtain ⟨v, T1⟩ := T0.idxOpen
  have hc : W.cell? ⟨s, 0, none⟩ = some (.pointer (some ⟨lg, 0, none⟩)) := row_cell T1.row 0
  have hl := row_lt T1.row
  have HA := Lib.hid (ledSizeT (T0.ord [1, 0])); clear T T0 T1
  go_enter Tryz.func20, Tryz.ntmps20
  go_wp2_with fail
  refine HA.out.mono ?_
  clear HA
  rintro e w1 ⟨rfl, rfl⟩
  go_wp2
  go_ret
  exact ⟨rfl, rfl⟩
end
end Go.Proofs.YtfgacjglfdehbaaGreatDoor
/- Layer 12, plain: the items that a replica begins. No walk stands here. -/
namespace Go.Proofs.YtfgacjglfdehbaaGreatDoor
open Go.RowKit
set_option linter.unusedVariables false
theorem add_easy {D : List UInt8} {safe : Nat} {m : RowsM} {x : Item} {i : Inst} (hx : goodI x m.n = true) (hi : goodN i m.n = true) (hn : m.n ≤ 7) (hD : D.length + 310 ≤ 32768) :
    addM D safe m x i = (D ++ recOf (x, i), safe, setM m x i, 0) ∧ (recOf (x, i)).length ≤ 310 := by
  have hl : (recOf (x, i)).length ≤ 310 := recOf_len (goodI_in hx hn).1 (goodI_in hx hn).2 (goodN_in hi hn)
  have ht : tightP D safe m (recOf (x, i)).length = (D, safe, 0) := by unfold tightP; rw [if_neg (by omega)]
  refine ⟨?_, hl⟩
  unfold addM
  rw [if_pos ⟨hx, hi⟩, ht, if_pos rfl, if_pos (by dsimp only; omega)]
end Go.Proofs.YtfgacjglfdehbaaGreatDoor
/- Layer 12, plain: a space that goes well. No walk stands here. -/
namespace Go.Proofs.YtfgacjglfdehbaaGreatDoor
open Go.RowKit
set_option linter.unusedVariables false
attribute [local instance 10] Classical.propDecidable
theorem add_len {D : List UInt8} {safe : Nat} {m : RowsM} (x : Item) (i : Inst) (h : D.length ≤ 65536) : (addM D safe m x i).1.length ≤ 65536 := by
  have ht : ∀ k, (tightP D safe m k).1.length ≤ 65536 := fun k => by
    unfold tightP tidyP
    split
    · split
      · assumption
      · exact h
    · exact h
  unfold addM
  split
  · split
    · split
      · rw [List.length_append]; assumption
      · exact ht _
    · exact ht _
  · exact h
theorem add_rows {D : List UInt8} {safe : Nat} {m : RowsM} (x : Item) (i : Inst) : ((addM D safe m x i).2.2.2 = 0 ∧ (addM D safe m x i).2.2.1 = setM m x i) ∨ ((addM D safe m x i).2.2.2 ≠ 0 ∧ (addM D safe m x i).2.2.1 = m) := by
  unfold addM
  split
  · split
    · split
      · exact .inl ⟨rfl, rfl⟩
      · exact .inr ⟨by simp, rfl⟩
    · rename_i h
      exact .inr ⟨h, rfl⟩
  · exact .inr ⟨by simp, rfl⟩
/-- A row's last place holds something. -/
def Topped (m : RowsM) : Prop := ∀ r k, (m.f r).length = k + 1 → ∃ t, (m.f r)[k]? = some (some t)
theorem Topped.new (n : Int) : Topped ⟨n, fun _ => []⟩ := fun r k h => by simp at h
theorem putL_top {l : List (Option Inst)} {i k : Nat} {t : Inst} (hl : ∀ k, l.length = k + 1 → ∃ t, l[k]? = some (some t)) (h : (putL l i t).length = k + 1) : ∃ u, (putL l i t)[k]? = some (some u) := by
  have hlen := putL_len l i t
  unfold putL at h ⊢
  rw [List.getElem?_set]
  by_cases e : i = k
  · subst e
    rw [if_pos rfl, if_pos (by rw [List.length_set] at h; omega)]
    exact ⟨t, rfl⟩
  · rw [if_neg e]
    have hk : l.length = k + 1 := by
      unfold putL at hlen
      omega
    obtain ⟨u, hu⟩ := hl k hk
    rw [List.getElem?_append_left (by omega)]
    exact ⟨u, hu⟩
theorem Topped.set {m : RowsM} (h : Topped m) (x : Item) (t : Inst) : Topped (setM m x t) := fun r k hk => by
  unfold setM at hk ⊢
  split at hk
  · rename_i hg
    rw [if_pos hg]
    dsimp only at hk ⊢
    by_cases e : r = x.rep.toNat
    · subst e
      rw [updF_same] at hk ⊢
      exact putL_top (h _) hk
    · rw [updF_other _ _ e] at hk ⊢
      exact h r k hk
  · rename_i hg
    rw [if_neg hg]
    exact h r k hk
theorem mK_topped (n : Int) : ∀ (ts : List (Nat × List UInt8)) (m : RowsM), Topped m → Topped (ts.foldl (fun m t => setM m (readS ⟨t.2, false⟩).1 (readS ⟨t.2, false⟩).2.1) m)
  | [], m, h => h
  | t :: ts, m, h => mK_topped n ts _ (h.set _ _)
/-- A space that goes well: its places, its plate's bytes, its rows. -/
structure SpI (n : Int) (k : Nat) (I : Idx) (D : List UInt8) (m : RowsM) : Prop where
  mn : m.n = n
  ok : RowsOk m
  good : RowsGood m
  len : D.length ≤ 65536
  idx : IdxOk I
  N : I.N ≤ 1000 + k
  cov : IdxCov I m
  tp : Topped m
theorem SpI.know {n : Int} {k : Nat} {I : Idx} {D : List UInt8} {m : RowsM} (h : SpI n k I D m) (hk : k ≤ 1000) (safe : Nat) (x : Item) (i : Inst) : SpI n (k + 1) (knowI I D safe m x i) (addM D safe m x i).1 (addM D safe m x i).2.2.1 := by
  have hl := add_len (safe := safe) (m := m) x i h.len
  have hN := h.N
  rcases add_rows (D := D) (safe := safe) (m := m) x i with ⟨h0, hm⟩ | ⟨h0, hm⟩
  · obtain ⟨hgi, hgn⟩ := addM_good h0
    have e : knowI I D safe m x i = if eqA (EV (wasM m x)) (EV i.call.deed) = false then findM I x i.call.deed else I := by
      unfold knowI
      by_cases hd : eqA (EV (wasM m x)) (EV i.call.deed) = false
      · rw [if_pos ⟨h0, hd⟩, if_pos hd]
      · rw [if_neg (fun h => hd h.2), if_neg hd]
    rw [hm, e]
    by_cases hd : eqA (EV (wasM m x)) (EV i.call.deed) = false
    · rw [if_pos hd]
      obtain ⟨h1, h2⟩ := h.idx.find (x := x) (d := i.call.deed) (by omega)
      exact ⟨by rw [setM_n]; exact h.mn, h.ok.set _ _, h.good.set hgi hgn, hl, h1, by omega, h.cov.find i hgi, h.tp.set _ _⟩
    · rw [if_neg hd]
      have hde : wasM m x = i.call.deed := EV_inj (eqA_iff.1 (by simpa using hd))
      exact ⟨by rw [setM_n]; exact h.mn, h.ok.set _ _, h.good.set hgi hgn, hl, h.idx, by omega, h.cov.same i hgi hde, h.tp.set _ _⟩
  · have e : knowI I D safe m x i = I := by unfold knowI; rw [if_neg (fun h => h0 h.1)]
    rw [hm, e]
    exact ⟨h.mn, h.ok, h.good, hl, h.idx, by omega, h.cov, h.tp⟩
theorem openD_len {n : Int} {D : List UInt8} (h : D.length ≤ 65536) : (openD n D).length ≤ 65536 := by
  unfold openD
  split
  · rw [List.length_take]; omega
  · exact h
theorem SpI.open {n : Int} (hn : 0 ≤ n ∧ n ≤ 7) {D : List UInt8} (h : D.length ≤ 65536) (k : Nat) : SpI n k (idxF (ents (mK n (goT n D)))) (openD n D) (mK n (goT n D)) := by
  have hr := mK_rows hn D
  have hl := ents_len hr.1
  obtain ⟨h1, h2⟩ := idxF_ok _ (ents (mK n (goT n D))) rfl (by omega)
  exact ⟨mK_n _ _, hr.1, hr.2, openD_len h, h1, by omega, IdxCov.ents hr.1, mK_topped n _ _ (Topped.new n)⟩
theorem SpI.mono {n : Int} {k j : Nat} {I : Idx} {D : List UInt8} {m : RowsM} (h : SpI n k I D m) (hk : k ≤ j) : SpI n j I D m := ⟨h.mn, h.ok, h.good, h.len, h.idx, by have := h.N; omega, h.cov, h.tp⟩
end Go.Proofs.YtfgacjglfdehbaaGreatDoor
/- Carries as a value, as cells: its parts, equality, loads, stores, building. Printed by types.py. -/
namespace Go.Proofs.YtfgacjglfdehbaaGreatDoor
open Go.RowKit
set_option linter.unusedVariables false
structure Carries where
  call : Bool
  known : Bool
def KRV (x : Carries) : Array Value := #[.bool x.call, .bool x.known]
def noCarries : Carries := ⟨false, false⟩
section
variable (x y : Carries)
theorem TCarries_size : (KRV x).size = 2 := rfl
theorem TCarries_one : allOne (KRV x) = true := by simp [allOne, KRV, Value.oneCell']
theorem TCarries_piece : piece (KRV x) 0 2 = KRV x := piece_all _ _ rfl
theorem TCarries_c0 : (KRV x)[0]? = some (.bool x.call) := rfl
theorem TCarries_c1 : (KRV x)[1]? = some (.bool x.known) := rfl
theorem TCarries_set_call (v : Bool) : (KRV x).setIfInBounds 0 (.bool v) = KRV { x with call := v } := rfl
theorem TCarries_set_known (v : Bool) : (KRV x).setIfInBounds 1 (.bool v) = KRV { x with known := v } := rfl
theorem TCarries_cat : KRV x = #[.bool x.call] ++ #[.bool x.known] := by kernel_rfl
theorem TCarries_ext : KRV x = KRV y ↔ x.call = y.call ∧ x.known = y.known := by
  constructor
  · intro h
    refine ⟨?_, ?_⟩
    · have := congrArg (·[0]?) h; simpa [TCarries_c0, TCarries_size] using this
    · have := congrArg (·[1]?) h; simpa [TCarries_c1, TCarries_size] using this
  · rintro ⟨h0, h1⟩
    rw [TCarries_cat x, TCarries_cat y, h0, h1]
end
theorem TCarries_und : Tryz.prog.underlying 96 = some (.struct (Tryz.prog.fieldsOf 96)) := by kernel_rfl
theorem TCarries_eq (d : Nat) (x y : Carries) (w : World) : (Op.equalIn (d + 2) 96 (.agg (KRV x)) (.agg (KRV y))).run Tryz.prog w = .ok (eqA (KRV x) (KRV y)) w := by
  refine eq_struct (d := d + 1) (L := [(4, 0, x.call == y.call), (4, 1, x.known == y.known)]) TCarries_und (by kernel_rfl) (by kernel_rfl) ?_ ?_ w
  · simp only [List.forall_mem_cons]
    exact ⟨⟨_, _, part_cell Tryz.underlying4 rfl (by kernel_rfl) (TCarries_c0 x), part_cell Tryz.underlying4 rfl (by kernel_rfl) (TCarries_c0 y), fun w => run_equalIn_bool' w (d + 0) _ _ _ Tryz.underlying4⟩, ⟨_, _, part_cell Tryz.underlying4 rfl (by kernel_rfl) (TCarries_c1 x), part_cell Tryz.underlying4 rfl (by kernel_rfl) (TCarries_c1 y), fun w => run_equalIn_bool' w (d + 0) _ _ _ Tryz.underlying4⟩, by simp⟩
  · refine eqA_of ?_
    rw [TCarries_ext]
    simp
theorem TCarries_eql (x y : Carries) (w : World) : (binOp .eql 96 (.agg (KRV x)) (.agg (KRV y))).run Tryz.prog w = .ok (.bool (eqA (KRV x) (KRV y))) w := eql_of (TCarries_eq 9998 x y) w
theorem TCarries_neq (x y : Carries) (w : World) : (binOp .neq 96 (.agg (KRV x)) (.agg (KRV y))).run Tryz.prog w = .ok (.bool (!eqA (KRV x) (KRV y))) w := neq_of (TCarries_eq 9998 x y) w
theorem TCarries_ld0 (v : Value) : Instr.loadAt 96 v = loadSem 96 v := rfl
theorem TCarries_st0 (v u : Value) : Instr.storeAt 96 v u = storeSem 96 v u := rfl
theorem TCarries_fd0 (x : Value) (i : Nat) : Instr.field 96 x i = fieldSem 96 x i := rfl
theorem TCarries_bd0 (p : Array (Nat × Value)) : Instr.build 96 p = buildS 96 p := rfl
theorem TCarries_ld (w : World) (v : Value) : (loadSem 96 v).run Tryz.prog w = loadVal Tryz.prog 96 2 w v := load_val TCarries_und rfl (by kernel_rfl) w v
theorem TCarries_st (w : World) (v u : Value) : (storeSem 96 v u).run Tryz.prog w = storeVal Tryz.prog 96 2 w v u := store_val (by kernel_rfl) w v u
theorem TCarries_f_call (x : Carries) (w : World) : (fieldSem 96 (.agg (KRV x)) 0).run Tryz.prog w = .ok (.bool x.call) w := field_of TCarries_und (by kernel_rfl) (part_cell Tryz.underlying4 rfl (by kernel_rfl) (TCarries_c0 x)) w
theorem TCarries_f_known (x : Carries) (w : World) : (fieldSem 96 (.agg (KRV x)) 1).run Tryz.prog w = .ok (.bool x.known) w := field_of TCarries_und (by kernel_rfl) (part_cell Tryz.underlying4 rfl (by kernel_rfl) (TCarries_c1 x)) w
def TCarries_pl : Nat → Option (Nat × Nat) := fun i => (#[(0, 1), (1, 1)] : Array (Nat × Nat))[i]?
theorem TCarries_bd (w : World) (p : Array (Nat × Value)) : (buildS 96 p).run Tryz.prog w = buildOf Tryz.prog 96 TCarries_pl (KRV noCarries) p w := build_struct TCarries_und (by kernel_rfl) (fun w => by kernel_rfl) w p
theorem TCarries_fl (X : Array Value) : fillS TCarries_pl X [] = some X := rfl
theorem TCarries_fl_call (x : Carries) (v : Bool) (r : List (Nat × Value)) : fillS TCarries_pl (KRV x) ((0, .bool v) :: r) = fillS TCarries_pl (KRV { x with call := v }) r := rfl
theorem TCarries_fl_known (x : Carries) (v : Bool) (r : List (Nat × Value)) : fillS TCarries_pl (KRV x) ((1, .bool v) :: r) = fillS TCarries_pl (KRV { x with known := v }) r := rfl
end Go.Proofs.YtfgacjglfdehbaaGreatDoor
/- Layer 7: whether a message can be. -/
namespace Go.Proofs.YtfgacjglfdehbaaGreatDoor
open Go.RowKit
set_option linter.unusedVariables false
attribute [local go_sem] row_alloc row_drew row_drewN row_ext row_setCell row_setRow size_ext setRow_alloc setRow_drew loadOf storeOf piece_lit loadVal_at storeVal_at allOne_lit buildOf buildRes_some
attribute [local go_sem high] cell_alloc frozen_alloc setCell_alloc cell_ext frozen_ext cell_setRow frozen_setRow
attribute [local go_sem ↓] TDeed_ld0 TDeed_st0 TDeed_fd0 TDeed_bd0
attribute [local go_sem] TDeed_size TDeed_one TDeed_piece TDeed_c0 TDeed_c1 TDeed_c2 TDeed_c3 TDeed_c4 TDeed_c5 TDeed_set_kind TDeed_set_key TDeed_set_val TDeed_set_ver TDeed_set_ses TDeed_set_num TDeed_ld TDeed_st TDeed_f_kind TDeed_f_key TDeed_f_val TDeed_f_ver TDeed_f_ses TDeed_f_num TDeed_bd TDeed_fl TDeed_fl_kind TDeed_fl_key TDeed_fl_val TDeed_fl_ver TDeed_fl_ses TDeed_fl_num
attribute [local go_sem high] TDeed_eql TDeed_neq
attribute [local go_sem ↓] index_deps0 load_deps0 store_deps0
attribute [local go_sem] DV_piece DV_size DV_one index_deps load_deps store_deps
attribute [local go_sem high] TDeps_eql TDeps_neq
attribute [local go_sem ↓] TCall_ld0 TCall_st0 TCall_fd0 TCall_bd0
attribute [local go_sem] TCall_size TCall_one TCall_piece TCall_c0 TCall_c1 TCall_c2 TCall_c3 TCall_c4 TCall_c5 TCall_c6 TCall_c7 TCall_c8 TCall_c9 TCall_c10 TCall_c11 TCall_c12 TCall_c13 TCall_p_deed TCall_put_deed TCall_p_deps TCall_put_deps TCall_set_seq TCall_ld TCall_st TCall_f_deed TCall_f_deps TCall_f_seq TCall_bd TCall_fl TCall_fl_deed TCall_fl_deps TCall_fl_seq
attribute [local go_sem high] TCall_eql TCall_neq
attribute [local go_sem ↓] TItem_ld0 TItem_st0 TItem_fd0 TItem_bd0
attribute [local go_sem] TItem_size TItem_one TItem_piece TItem_c0 TItem_c1 TItem_set_rep TItem_set_num TItem_ld TItem_st TItem_f_rep TItem_f_num TItem_bd TItem_fl TItem_fl_rep TItem_fl_num
attribute [local go_sem high] TItem_eql TItem_neq
attribute [local go_sem ↓] TBallot_ld0 TBallot_st0 TBallot_fd0 TBallot_bd0
attribute [local go_sem] TBallot_size TBallot_one TBallot_piece TBallot_c0 TBallot_c1 TBallot_set_round TBallot_set_rep TBallot_ld TBallot_st TBallot_f_round TBallot_f_rep TBallot_bd TBallot_fl TBallot_fl_round TBallot_fl_rep
attribute [local go_sem high] TBallot_eql TBallot_neq
attribute [local go_sem ↓] TMsg_ld0 TMsg_st0 TMsg_fd0 TMsg_bd0
attribute [local go_sem] TMsg_size TMsg_one TMsg_piece TMsg_c0 TMsg_c1 TMsg_c2 TMsg_c3 TMsg_c4 TMsg_c5 TMsg_c6 TMsg_c7 TMsg_c8 TMsg_c9 TMsg_c10 TMsg_c11 TMsg_c12 TMsg_c13 TMsg_c14 TMsg_c15 TMsg_c16 TMsg_c17 TMsg_c18 TMsg_c19 TMsg_c20 TMsg_c21 TMsg_c22 TMsg_c23 TMsg_c24 TMsg_set_kind TMsg_set_frm TMsg_set_to TMsg_p_item TMsg_put_item TMsg_p_bal TMsg_put_bal TMsg_p_vote TMsg_put_vote TMsg_set_status TMsg_set_same TMsg_p_call TMsg_put_call TMsg_ld TMsg_st TMsg_f_kind TMsg_f_frm TMsg_f_to TMsg_f_item TMsg_f_bal TMsg_f_vote TMsg_f_status TMsg_f_same TMsg_f_call TMsg_bd TMsg_fl TMsg_fl_kind TMsg_fl_frm TMsg_fl_to TMsg_fl_item TMsg_fl_bal TMsg_fl_vote TMsg_fl_status TMsg_fl_same TMsg_fl_call
attribute [local go_sem high] TMsg_eql TMsg_neq
attribute [local go_sem ↓] TCarries_ld0 TCarries_st0 TCarries_fd0 TCarries_bd0
attribute [local go_sem] TCarries_size TCarries_one TCarries_piece TCarries_c0 TCarries_c1 TCarries_set_call TCarries_set_known TCarries_ld TCarries_st TCarries_f_call TCarries_f_known TCarries_bd TCarries_fl TCarries_fl_call TCarries_fl_known
attribute [local go_sem high] TCarries_eql TCarries_neq
def callsB (k : Int) : Bool := decide (k = 1 ∨ k = 2 ∨ k = 3 ∨ k = 5 ∨ k = 7)
def knownB (k : Int) : Bool := decide (k = 7)
/-- What the kinds of messages have. -/
def KndV : Array Value := #[.bool false, .bool false, .bool true, .bool false, .bool true, .bool false, .bool true, .bool false, .bool false, .bool false, .bool true, .bool false, .bool false, .bool false, .bool true, .bool true, .bool false, .bool false]
theorem KndV_size : KndV.size = 18 := rfl
attribute [local go_sem] KndV_size
theorem KndV_piece (k : Nat) (h : k ≤ 8) : piece KndV (k * 2) 2 = KRV ⟨callsB k, knownB k⟩ := by
  match k, h with
  | 0, _ => rfl
  | 1, _ => rfl
  | 2, _ => rfl
  | 3, _ => rfl
  | 4, _ => rfl
  | 5, _ => rfl
  | 6, _ => rfl
  | 7, _ => rfl
  | 8, _ => rfl
noncomputable def noVote (m : Msg) : Bool := eqA (BV m.vote) (BV noBallot)
noncomputable def noC (m : Msg) : Bool := eqA (CV m.call) (CV noCall)
noncomputable def goodM (m : Msg) (n : Int) : Bool :=
  decide (1 ≤ m.kind ∧ m.kind ≤ 8 ∧ 0 ≤ m.frm ∧ m.frm < n ∧ 0 ≤ m.to ∧ m.to < n) && goodI m.item n && goodBal m.bal n &&
  (if callsB m.kind then goodC m.call n else noC m) && (knownB m.kind || (noVote m && m.status == 0)) && (!m.same || m.kind == 2 || knownB m.kind) &&
  (!knownB m.kind || (goodBal m.vote n && decide (0 ≤ m.status ∧ m.status ≤ 3) && (m.status != 0 || (noVote m && noC m && !m.same))))
/-- A call that answers in each world that bears the kinds, and leaves alone what there was. -/
def AnsK (f : FuncId) (args : Array Value) (v : Value) : Prop := ∀ W : World, row? W 0 = some KndV → Calls Tryz.prog f args W fun e W' => e = .returned v ∧ Below W.heap.size W W'
theorem below_allocM {B : Nat} {a w : World} (h : Below B a w) (o : Obj) (hB : B ≤ w.heap.size) : Below B a (w.alloc o) := h.alloc hB o
theorem below_extM {B : Nat} {a w : World} (h : Below B a w) (hB : B ≤ w.heap.size) (x : World) : Below B a (ext w x) := below_ext h hB x
set_option maxHeartbeats 4000000 in
set_option maxRecDepth 100000 in
theorem mailGood_out (m : Msg) (n : Int) (h0 : ¬ (1 ≤ m.kind ∧ m.kind ≤ 8 ∧ 0 ≤ m.frm ∧ m.frm < n ∧ 0 ≤ m.to ∧ m.to < n)) : AnsK 19 #[.agg (MV m), .int .i64 n] (.bool (goodM m n)) := by
  intro W hK
  have hg : goodM m n = false := by unfold goodM; rw [decide_eq_false h0]; simp
  rw [hg]
  clear hg hK
  go_enter Tryz.func19, Tryz.ntmps19
  go_wp2_with fail
  all_goals first
    | (go_ret
       exact ⟨rfl, (Below.refl _ _).alloc (Nat.le_refl _) _⟩)
    | (exfalso; omega)
end Go.Proofs.YtfgacjglfdehbaaGreatDoor
/- Layer 5: rows of numbers in a slice. -/
namespace Go.Proofs.YtfgacjglfdehbaaGreatDoor
open Go.RowKit
/-! rows, one behind the other -/
def LV : List (Nat → Int) → Array Value
  | [] => #[]
  | d :: l => DV d ++ LV l
theorem LV_size (l : List (Nat → Int)) : (LV l).size = l.length * 7 := by
  induction l with
  | nil => rfl
  | cons d l ih => rw [LV, Array.size_append, ih, DV_size, List.length_cons]; omega
theorem LV_extract : ∀ (l : List (Nat → Int)) (i : Nat) (h : i < l.length), (LV l).extract (i * 7) (i * 7 + 7) = DV l[i]
  | d :: l, 0, _ => by
    apply append_of_gets
    · rw [Array.size_extract, LV_size, DV_size, List.length_cons]; omega
    · intro k hk
      rw [DV_size] at hk
      rw [LV, Array.getElem?_extract, if_pos (by rw [Array.size_append, LV_size, DV_size]; omega), Array.getElem?_append, DV_size, if_pos (by omega)]
      simp
  | d :: l, i + 1, h => by
    have h' : i < l.length := by simpa using h
    have ih := LV_extract l i h'
    rw [List.getElem_cons_succ, ← ih]
    apply append_of_gets
    · rw [Array.size_extract, Array.size_extract, LV_size, LV_size, List.length_cons]; omega
    · intro k hk
      rw [Array.size_extract, LV_size] at hk
      rw [LV, Array.getElem?_extract, Array.getElem?_extract, if_pos (by rw [Array.size_append, LV_size, DV_size]; omega), if_pos (by rw [LV_size]; omega), Array.getElem?_append, DV_size, if_neg (by omega)]
      congr 1; omega
theorem LV_piece (l : List (Nat → Int)) (i : Nat) (h : i < l.length) : piece (LV l) (i * 7) 7 = DV l[i] := LV_extract l i h
theorem LV_two (a b : Nat → Int) : DV a ++ DV b = LV [a, b] := by simp [LV]
theorem LV_three (a b c : Nat → Int) : DV a ++ DV b ++ DV c = LV [a, b, c] := by simp [LV]
theorem deps_info : (Tryz.prog.info? 38).map (fun i => (i.zero, i.size)) = some (some (.agg (DV fun _ => 0)), 7) := by kernel_rfl
theorem slice_deps0 (len : Nat) (parts : Array (Nat × Value)) : Instr.buildSlice 149 len parts = buildSem 149 len parts := rfl
theorem slice_deps2 (w : World) (a b : Nat → Int) : (buildSem 149 2 #[(0, .agg (DV a)), (1, .agg (DV b))]).run Tryz.prog w = .ok (.slice (some ⟨w.heap.size, 0, none⟩) 2 2) (w.alloc (.cells (LV [a, b]) 38)) := by
  rw [← LV_two]; exact build_slice2 Tryz.underlying149 deps_info (by omega) w (DV_size a) (DV_size b) (by omega)
theorem slice_deps3 (w : World) (a b c : Nat → Int) : (buildSem 149 3 #[(0, .agg (DV a)), (1, .agg (DV b)), (2, .agg (DV c))]).run Tryz.prog w = .ok (.slice (some ⟨w.heap.size, 0, none⟩) 3 3) (w.alloc (.cells (LV [a, b, c]) 38)) := by
  rw [← LV_three]; exact build_slice3 Tryz.underlying149 deps_info (by omega) w (DV_size a) (DV_size b) (DV_size c) (by omega)
end Go.Proofs.YtfgacjglfdehbaaGreatDoor

namespace Go.Proofs.YtfgacjglfdehbaaGreatDoor
open Go.RowKit
attribute [local go_sem] row_alloc row_drew row_drewN row_ext row_setCell row_setRow size_ext setRow_alloc setRow_drew loadOf storeOf piece_lit DV_piece loadVal_at storeVal_at allOne_lit DV_size DV_one
attribute [local go_sem high] cell_alloc frozen_alloc setCell_alloc cell_ext frozen_ext
attribute [local go_sem ↓] index_deps0 load_deps0 store_deps0 slice_deps0
attribute [local go_sem] index_deps load_deps store_deps slice_deps2 slice_deps3 LV_size

def join2 (a d : Nat → Int) : Nat → Int := fun i => max (a i) (d i)
def joinL (l : List (Nat → Int)) : Nat → Int := l.foldl join2 (fun _ => 0)
def upTo (j : Nat) (a d : Nat → Int) : Nat → Int := fun i => if i < j then max (a i) (d i) else a i
theorem upTo_step (j : Nat) (a d : Nat → Int) : upd (upTo j a d) j (max (upTo j a d j) (d j)) = upTo (j + 1) a d := by
  funext i
  unfold upd upTo
  by_cases h : i = j
  · subst h; simp
  · rw [if_neg h]
    by_cases h2 : i < j
    · rw [if_pos h2, if_pos (by omega)]
    · rw [if_neg h2, if_neg (by omega)]
theorem ite_max (a b : Int) : (if a < b then b else a) = max a b := by
  split <;> omega
set_option maxHeartbeats 1000000 in
theorem join_any (l : List (Nat → Int)) (w : World) (g cap : Nat) (hl : l.length ≤ 1000000) (hg : row? w g = some (LV l)) :
    Calls Tryz.prog 73 #[.slice (some ⟨g, 0, none⟩) l.length cap] w fun e w' => e = .returned (.agg (DV (joinL l))) ∧ Below w.heap.size w w' := by
  have hlt := row_lt hg
  go_enter Tryz.func73, Tryz.ntmps73
  go_wp2
  go_loopw [10] (fun c wr => ∃ k : Nat, k ≤ l.length ∧ c = .int .i64 k ∧ row? wr w.heap.size = some (DV fun _ => 0) ∧ row? wr (w.heap.size + 1) = some (DV (joinL (l.take k))) ∧ Below w.heap.size w wr ∧ w.heap.size + 2 ≤ wr.heap.size) (fun c _ => l.length - (intOf c).toNat)
  case atStart =>
    refine ⟨0, by omega, rfl, ?_, ?_, ((Below.refl _ _).alloc (Nat.le_refl _) _).alloc (by simp) _, by simp⟩
    · rw [row_alloc, if_neg (by simp), row_alloc, if_pos rfl]; rfl
    · rw [row_alloc, if_pos (by simp)]; rfl
  case round =>
    obtain ⟨k, hk, rfl, h2, h3, hb, hz⟩ := hrel
    by_cases hkl : k < l.length
    · have hgr : row? wr g = some (LV l) := (row_below hb hlt).trans hg
      have hex := LV_piece l k hkl
      have hacc : joinL (l.take (k + 1)) = join2 (joinL (l.take k)) l[k] := by
        unfold joinL; rw [List.take_succ_eq_append_getElem hkl, List.foldl_append]; rfl
      have Hacc := Lib.hid hacc; clear hacc
      generalize l[k] = d at *
      generalize joinL (l.take k) = acc at *
      go_wp2
      obtain ⟨wo, rfl⟩ : ∃ wo : World, wo = wr := ⟨_, rfl⟩
      go_loopw [15] (fun c wi => ∃ j : Nat, j ≤ 7 ∧ c = .int .i64 j ∧ row? wi w.heap.size = some (DV fun _ => 0) ∧ row? wi (w.heap.size + 1) = some (DV (upTo j acc d)) ∧ Below w.heap.size w wi ∧ w.heap.size + 2 ≤ wi.heap.size) (fun c _ => 7 - (intOf c).toNat)
      case atStart =>
        refine ⟨0, by omega, rfl, ?_, ?_, hb.alloc (by omega) _, by simp; omega⟩
        · rw [row_alloc, if_neg (by omega)]; exact h2
        · rw [row_alloc, if_neg (by omega), h3]
          congr 2
      case round =>
        clear h2 h3 hb hz hgr hex
        obtain ⟨j, hj, rfl, h2, h3, hb, hz⟩ := hrel
        by_cases hj7 : j < 7
        · have hD1 := DV_get (upTo j acc d) j hj7
          have hD2 := DV_get d j hj7
          have hcell := row_cell h3
          have hfro := row_frozen h3
          have hst := upTo_step j acc d
          have Hst := Lib.hid hst; clear hst
          have H2 := Lib.hid h2; clear h2
          have H3 := Lib.hid h3; clear h3
          go_wp2
          go_roundw
          case rel =>
            refine ⟨j + 1, by omega, by go_num, ?_, ?_, hb.setCell (by simp) _, by simpa [World.setCell] using hz⟩
            · rw [row_setCell, if_neg (by omega)]; exact H2.out
            · rw [row_setCell, if_pos rfl, H3.out, ite_max]
              show some ((DV (upTo j acc d)).setIfInBounds j _) = _
              rw [DV_set, Hst.out]
          case measure => simp [intOf]; omega
        · obtain rfl : j = 7 := by omega
          have H2 := Lib.hid h2; clear h2
          have H3 := Lib.hid h3; clear h3
          go_wp2
          go_roundw
          case rel =>
            refine ⟨k + 1, by omega, by go_num, H2.out, ?_, hb, hz⟩
            rw [H3.out, Hacc.out]
            exact congrArg some (DV_congr fun i hi => by unfold upTo join2; rw [if_pos hi])
          case measure => simp [intOf]; omega
    · obtain rfl : k = l.length := by omega
      rw [List.take_length] at h3
      go_wp2
      refine ret_deps (joinL l) rfl rfl rfl ?_ ⟨rfl, below_setRow _ _ _ hb (Nat.le_refl _)⟩
      rw [row_setRow, if_pos rfl, h2]; rfl
/-- the document's Join -/
def rjoin (a b : Nat → Int) : Nat → Int := fun i => max (max 0 (a i)) (b i)
end Go.Proofs.YtfgacjglfdehbaaGreatDoor
/- Layers 13, 15, plain: how what is known of an item goes on; what one answers. No walk stands here. -/
namespace Go.Proofs.YtfgacjglfdehbaaGreatDoor
open Go.RowKit
set_option linter.unusedVariables false
attribute [local instance 10] Classical.propDecidable
def backM (m : Msg) (k : Int) : Msg := ⟨k, m.to, m.frm, m.item, m.bal, noBallot, 0, false, noCall⟩
def promM (i : Inst) (b : Ballot) : Inst × Bool := if lessBal b i.prom = true then (i, false) else (⟨b, i.vote, i.status, i.call, i.same⟩, true)
noncomputable def votedB (i : Inst) (b : Ballot) (st : Int) : Bool := eqA (BV i.vote) (BV b) && decide (i.status ≥ st)
noncomputable def voteM (i : Inst) (b : Ballot) (st : Int) (c : Call) (same : Bool) : Inst × Bool :=
  if lessBal b i.prom = true ∨ i.status = 3 then (i, false)
  else if votedB i b st = true then (⟨b, i.vote, i.status, i.call, i.same⟩, i.status == st)
  else (⟨b, b, st, c, same⟩, true)
def commitM (i : Inst) (c : Call) : Inst × Bool := if i.status = 3 then (i, false) else (⟨i.prom, i.vote, 3, c, false⟩, true)
def mergeC (c : Call) (w : WayR) : Call := ⟨c.deed, rjoin (rjoin c.deps c.deps) w.out, maxI c.seq w.seq⟩
structure AnsM where
  out : Msg
  ok : Bool
  now : Inst
def noAns (i : Inst) : AnsM := ⟨noMsg, false, i⟩
def refM (x : Msg) (i : Inst) : AnsM := if lessBal x.bal i.prom = true then ⟨⟨8, x.to, x.frm, x.item, i.prom, noBallot, 0, false, noCall⟩, true, i⟩ else noAns i
noncomputable def sameC (c : Call) (x : Msg) : Bool := eqA (CV c) (CV x.call) && eqA (BV x.bal) (BV ⟨0, x.item.rep⟩)
noncomputable def preM (m : RowsM) (x : Msg) (i : Inst) : AnsM :=
  if (voteM i x.bal 1 (mergeC x.call (wayK m x.call.deed x.item)) (sameC (mergeC x.call (wayK m x.call.deed x.item)) x)).2 = true then
    ⟨⟨2, x.to, x.frm, x.item, x.bal, noBallot, 0, (voteM i x.bal 1 (mergeC x.call (wayK m x.call.deed x.item)) (sameC (mergeC x.call (wayK m x.call.deed x.item)) x)).1.same, (voteM i x.bal 1 (mergeC x.call (wayK m x.call.deed x.item)) (sameC (mergeC x.call (wayK m x.call.deed x.item)) x)).1.call⟩, true, (voteM i x.bal 1 (mergeC x.call (wayK m x.call.deed x.item)) (sameC (mergeC x.call (wayK m x.call.deed x.item)) x)).1⟩
  else refM x i
noncomputable def accM (x : Msg) (i : Inst) : AnsM :=
  if (voteM i x.bal 2 x.call false).2 = true then ⟨backM x 4, true, (voteM i x.bal 2 x.call false).1⟩ else refM x i
def prmM (x : Msg) (i : Inst) : AnsM :=
  if (promM i x.bal).2 = true then ⟨⟨7, x.to, x.frm, x.item, x.bal, (promM i x.bal).1.vote, (promM i x.bal).1.status, (promM i x.bal).1.same, (promM i x.bal).1.call⟩, true, (promM i x.bal).1⟩ else refM x i
noncomputable def atM (m : RowsM) (x : Item) : Inst := (getM m x).getD noInst
noncomputable def ansM (m : RowsM) (self : Int) (x : Msg) : AnsM :=
  if x.to ≠ self ∨ goodM x m.n = false then noAns (atM m x.item)
  else if (x.kind = 1 ∨ x.kind = 3 ∨ x.kind = 6) ∧ (atM m x.item).status = 3 then ⟨⟨5, x.to, x.frm, x.item, x.bal, noBallot, 0, false, (atM m x.item).call⟩, true, atM m x.item⟩
  else if x.kind = 1 then preM m x (atM m x.item)
  else if x.kind = 3 then accM x (atM m x.item)
  else if x.kind = 6 then prmM x (atM m x.item)
  else if x.kind = 5 then ⟨noMsg, false, (commitM (atM m x.item) x.call).1⟩
  else noAns (atM m x.item)
/-- What is known, once something of an item is. -/
noncomputable def nowR (m : RowsM) (x : Item) (i : Inst) : RowsM := if eqA (NV (atM m x)) (NV i) = true then m else setM m x i
noncomputable def afterM (m : RowsM) (self : Int) (x : Msg) : RowsM := nowR m x.item (ansM m self x).now
/-! what can be stays so -/
theorem goodN_iff {i : Inst} {n : Int} : goodN i n = true ↔ goodBal i.prom n = true ∧ goodBal i.vote n = true ∧ (0 ≤ i.status ∧ i.status ≤ 3) ∧ goodC i.call n = true ∧ (i.status ≠ 0 ∨ (eqA (BV i.vote) (BV noBallot) = true ∧ eqA (CV i.call) (CV noCall) = true ∧ i.same = false)) := by
  unfold goodN
  by_cases h : i.status = 0
  · rw [bare_eq i h]
    simp [h, and_assoc]
  · simp [h, and_assoc]
theorem goodN_prom {i : Inst} {n : Int} {b : Ballot} (h : goodN i n = true) (hb : goodBal b n = true) : goodN ⟨b, i.vote, i.status, i.call, i.same⟩ n = true := by
  rw [goodN_iff] at h ⊢
  exact ⟨hb, h.2⟩
theorem goodN_new {n st : Int} {b p : Ballot} {c : Call} {same : Bool} (hp : goodBal p n = true) (hb : goodBal b n = true) (hs : 1 ≤ st ∧ st ≤ 3) (hc : goodC c n = true) : goodN ⟨p, b, st, c, same⟩ n = true := by
  rw [goodN_iff]
  exact ⟨hp, hb, by simp only; omega, hc, .inl (by simp only; omega)⟩
theorem goodN_no {n : Int} (h : 1 ≤ n) : goodN noInst n = true := by
  rw [goodN_iff]
  refine ⟨?_, ?_, by decide, ?_, .inr ⟨eqA_refl _, eqA_refl _, rfl⟩⟩
  · unfold goodBal noInst noBallot; simp; omega
  · unfold goodBal noInst noBallot; simp; omega
  · show goodC noCall n = true
    unfold goodC
    have h1 : goodB noCall.deed = true := by decide
    have h2 : goodD noCall.deps n = true := goodD_yes fun i hi => ⟨Int.le_refl 0, (by decide : (0 : Int) ≤ 64), fun _ => rfl⟩
    rw [h1, h2]; decide
theorem goodC_iff {c : Call} {n : Int} : goodC c n = true ↔ goodB c.deed = true ∧ goodD c.deps n = true ∧ 0 ≤ c.seq ∧ c.seq ≤ 1099511627776 := by
  unfold goodC; simp [and_assoc]
theorem goodD_iff {d : Nat → Int} {n : Int} : goodD d n = true ↔ ∀ i, i < 7 → 0 ≤ d i ∧ d i ≤ 64 ∧ (n ≤ i → d i = 0) := by
  constructor
  · intro h i hi
    by_cases hg : 0 ≤ d i ∧ d i ≤ 64 ∧ (n ≤ i → d i = 0)
    · exact hg
    · have := goodD_no (n := n) i hi hg
      rw [h] at this; cases this
  · exact goodD_yes
theorem wayK_in {m : RowsM} (hm : RowsOk m) (hg : RowsGood m) (d : Deed) (but : Item) : (∀ i : Nat, 0 ≤ (wayK m d but).out i ∧ (wayK m d but).out i ≤ 64 ∧ (m.n ≤ i → (wayK m d but).out i = 0)) ∧ 0 ≤ (wayK m d but).seq ∧ (wayK m d but).seq ≤ 1099511627776 := by
  have hin : ∀ y ∈ (ents m).map Prod.fst, 0 ≤ y.rep ∧ y.rep < m.n ∧ 1 ≤ y.num ∧ y.num ≤ 64 := fun y hy => by
    have h1 := (ents_key hm y).1 hy
    cases hq : getM m y with
    | none => rw [hq] at h1; cases h1
    | some t =>
      have := getM_good hq
      unfold goodI at this
      rw [decide_eq_true_iff] at this
      omega
  refine ⟨fun i => ⟨mx_nonneg _ _, mx_le (by omega) fun y hy => ?_, fun hi => ?_⟩, mx_nonneg _ _, mx_le (by omega) fun y hy => ?_⟩
  · have := hin y hy
    unfold outG; split <;> omega
  · have h0 : 0 ≤ (wayK m d but).out i := mx_nonneg _ _
    have h1 : (wayK m d but).out i ≤ 0 := mx_le (by omega) fun y hy => by
      have := hin y hy
      unfold outG; split <;> omega
    omega
  · unfold seqG lowI
    (repeat' split) <;> omega
theorem goodC_merge {m : RowsM} (hm : RowsOk m) (hg : RowsGood m) {c : Call} (hc : goodC c m.n = true) (d : Deed) (but : Item) : goodC (mergeC c (wayK m d but)) m.n = true := by
  obtain ⟨h1, h2, h3, h4⟩ := goodC_iff.1 hc
  rw [goodD_iff] at h2
  obtain ⟨w1, w2, w3⟩ := wayK_in hm hg d but
  refine goodC_iff.2 ⟨h1, goodD_iff.2 fun i hi => ?_, ?_, ?_⟩
  · have a := h2 i hi; have b := w1 i
    show 0 ≤ rjoin (rjoin c.deps c.deps) _ i ∧ _ ∧ _
    unfold mergeC rjoin
    dsimp only
    refine ⟨by omega, by omega, fun hn => ?_⟩
    have a1 := a.2.2 hn; have b1 := b.2.2 hn
    omega
  · unfold mergeC maxI; dsimp only; split <;> omega
  · unfold mergeC maxI; dsimp only; split <;> omega
theorem atM_good {m : RowsM} (hg : RowsGood m) (hn : 1 ≤ m.n) (x : Item) : goodN (atM m x) m.n = true := by
  unfold atM
  cases h : getM m x with
  | none => exact goodN_no hn
  | some t => exact hg _ _ h
theorem goodM_in {x : Msg} {n : Int} (h : goodM x n = true) : goodI x.item n = true ∧ goodBal x.bal n = true ∧ (callsB x.kind = true → goodC x.call n = true) ∧ (1 ≤ x.kind ∧ x.kind ≤ 8 ∧ 0 ≤ x.frm ∧ x.frm < n ∧ 0 ≤ x.to ∧ x.to < n) := by
  unfold goodM at h
  simp only [Bool.and_eq_true] at h
  obtain ⟨⟨⟨⟨⟨⟨h1, h2⟩, h3⟩, h4⟩, -⟩, -⟩, -⟩ := h
  refine ⟨h2, h3, fun hc => ?_, of_decide_eq_true h1⟩
  rw [if_pos hc] at h4
  exact h4
theorem promM_good {i : Inst} {n : Int} {b : Ballot} (h : goodN i n = true) (hb : goodBal b n = true) : goodN (promM i b).1 n = true := by
  unfold promM
  split
  · exact h
  · exact goodN_prom h hb
theorem voteM_good {i : Inst} {n st : Int} {b : Ballot} {c : Call} {same : Bool} (h : goodN i n = true) (hb : goodBal b n = true) (hs : 1 ≤ st ∧ st ≤ 3) (hc : goodC c n = true) : goodN (voteM i b st c same).1 n = true := by
  unfold voteM
  split
  · exact h
  · split
    · exact goodN_prom h hb
    · exact goodN_new hb hb hs hc
theorem commitM_good {i : Inst} {n : Int} {c : Call} (h : goodN i n = true) (hc : goodC c n = true) : goodN (commitM i c).1 n = true := by
  unfold commitM
  split
  · exact h
  · have := goodN_iff.1 h
    exact goodN_new this.1 this.2.1 (by omega) hc
theorem refM_now (x : Msg) (i : Inst) : (refM x i).now = i := by unfold refM noAns; split <;> rfl
theorem ans_good {m : RowsM} (hm : RowsOk m) (hg : RowsGood m) (hn : 1 ≤ m.n) (self : Int) (x : Msg) : goodN (ansM m self x).now m.n = true := by
  have hi := atM_good hg hn x.item
  unfold ansM
  split
  · exact hi
  · rename_i h
    have hx : goodM x m.n = true := by
      cases hq : goodM x m.n with
      | true => rfl
      | false => exact absurd (.inr hq) h
    obtain ⟨h1, h2, h3, h4⟩ := goodM_in hx
    split
    · exact hi
    · split
      · rename_i hk
        unfold preM
        split
        · exact voteM_good hi h2 (by omega) (goodC_merge hm hg (h3 (by rw [hk]; decide)) _ _)
        · rw [refM_now]; exact hi
      · split
        · rename_i hk
          unfold accM
          split
          · exact voteM_good hi h2 (by omega) (h3 (by rw [hk]; decide))
          · rw [refM_now]; exact hi
        · split
          · unfold prmM
            split
            · exact promM_good hi h2
            · rw [refM_now]; exact hi
          · split
            · rename_i hk
              exact commitM_good hi (h3 (by rw [hk]; decide))
            · exact hi
/-- A space of one that answers, behind so many messages. -/
structure VotI (n : Int) (k : Nat) (I : Idx) (D : List UInt8) (m : RowsM) : Prop where
  sp : SpI n k I D m
  room : D.length ≤ 310 * k
  pos : 1 ≤ n
/-- What is known goes on: there is room. -/
theorem VotI.know {n : Int} {k : Nat} {I : Idx} {D : List UInt8} {m : RowsM} (h : VotI n k I D m) (hk : k ≤ 100) (safe : Nat) {x : Item} {i : Inst} (hx : goodI x n = true) (hi : goodN i n = true) :
    (addM D safe m x i).2.2.2 = 0 ∧ (addM D safe m x i).2.2.1 = setM m x i ∧ VotI n (k + 1) (knowI I D safe m x i) (addM D safe m x i).1 (setM m x i) := by
  have hs := h.sp.know (by omega) safe x i
  have hr := h.room
  have hmn := h.sp.mn
  obtain ⟨e1, e2⟩ := add_easy (D := D) (safe := safe) (m := m) (x := x) (i := i) (by rw [hmn]; exact hx) (by rw [hmn]; exact hi) h.sp.ok.n.2 (by omega)
  have e3 : (addM D safe m x i).2.2.1 = setM m x i := by rw [e1]
  rw [e3] at hs
  refine ⟨by rw [e1], e3, hs, ?_, h.pos⟩
  rw [e1]; dsimp only
  rw [List.length_append]; omega
theorem VotI.mono {n : Int} {k : Nat} {I : Idx} {D : List UInt8} {m : RowsM} (h : VotI n k I D m) : VotI n (k + 1) I D m := ⟨h.sp.mono (Nat.le_succ _), by have := h.room; omega, h.pos⟩
end Go.Proofs.YtfgacjglfdehbaaGreatDoor
