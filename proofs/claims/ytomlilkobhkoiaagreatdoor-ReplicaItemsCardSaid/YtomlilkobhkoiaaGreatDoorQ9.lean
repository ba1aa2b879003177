/- Several texts in one. -/
import Derived.Test.YtomlilkobhkoiaaGreatDoorQ8
import Derived.Test.YtomlilkobhkoiaaGreatDoorQ5
import Derived.Test.YtomlilkobhkoiaaGreatDoorQ3
import Derived.Test.YtomlilkobhkoiaaGreatDoorQ6
import Derived.ChangeKeysEq
import Derived.Test.YtomlilkobhkoiaaGreatDoorQ4
/- Layer 22: a replica in memory; advance, when nothing is committed. -/
namespace Go.Proofs.YtomlilkobhkoiaaGreatDoor
open Go.RowKit Go.Shelf
set_option linter.unusedVariables false
set_option maxRecDepth 20000
attribute [local go_sem] Oper.semAt_some
attribute [local go_sem] row_alloc row_drew row_drewN row_ext row_setCell row_setRow size_ext setRow_alloc setRow_drew loadOf storeOf piece_lit loadVal_at storeVal_at allOne_lit buildOf buildRes_some
attribute [local go_sem high] cell_alloc frozen_alloc setCell_alloc cell_ext frozen_ext cell_setRow frozen_setRow
attribute [local go_sem ↓] TItem_ld0 TItem_st0 TItem_fd0 TItem_bd0
attribute [local go_sem] TItem_size TItem_one TItem_piece TItem_c0 TItem_c1 TItem_set_rep TItem_set_num TItem_ld TItem_st TItem_f_rep TItem_f_num TItem_bd TItem_fl TItem_fl_rep TItem_fl_num
attribute [local go_sem high] TItem_eql TItem_neq
attribute [local go_sem ↓] TCall_ld0 TCall_st0 TCall_fd0 TCall_bd0
attribute [local go_sem] TCall_size TCall_one TCall_piece TCall_c0 TCall_c1 TCall_c2 TCall_c3 TCall_c4 TCall_c5 TCall_c6 TCall_c7 TCall_c8 TCall_c9 TCall_c10 TCall_c11 TCall_c12 TCall_c13 TCall_p_deed TCall_put_deed TCall_p_deps TCall_put_deps TCall_set_seq TCall_ld TCall_st TCall_f_deed TCall_f_deps TCall_f_seq TCall_bd TCall_fl TCall_fl_deed TCall_fl_deps TCall_fl_seq
attribute [local go_sem high] TCall_eql TCall_neq
/-- The blocks that a replica's block names. -/
structure RpB where
  sp : Nat
  ml : Nat
  mr : Nat
  bp : Nat
  br : Nat
  gm : Nat
  mm : Nat
  mh : Nat
abbrev rpV (q : RpB) (n self : Int) (inb out : Value) : Array Value := #[.int .i64 n, .int .i64 self, .int .i64 0, .pointer (some ⟨q.sp, 0, none⟩), .map (some q.ml), .map (some q.mr), .pointer (some ⟨q.bp, 0, none⟩), .pointer (some ⟨q.br, 0, none⟩), .pointer (some ⟨q.gm, 0, none⟩), .map (some q.mm), .map (some q.mh), inb, out, .slice none 0 0]
/-- The end of a body without results, behind a loop over an iterator. -/
theorem retN1 {n : Nat} {P : Program} {fn : Func} {R : Ending → World → Prop} {a : Act} {w : World} {v : Value} {D : Nat} {ar : Array Value} (hK : w.heap[D]? = some (.deferred (some []))) (hr : (results fn a.tmps).run P (w.putObj D (.deferred none)) = .ok v (w.putObj D (.deferred none))) (hR : R (.returned v) (w.putObj D (.deferred none))) (hd : a.defers = [{ target := .collected D, args := ar }]) : bodyPostM Fence.wide n P fn R .normal a w := by
  show LeavesInM _ _ _ _ _ _ a.defers _ _
  rw [hd]
  exact ⟨by simp, .inl ⟨_, _, rfl, run_takeDeferred hK, v, hr, hR⟩⟩
section
variable {w W : World} {F : Nat → Prop} {R : List Res} {g gg : Nat} {q : RpB} {n self : Int} {inb out : Value}
set_option maxHeartbeats 8000000 in
theorem rpAdvT (T : Sts w F W (rowR g (rpV q n self inb out) :: rnR q.br gg :: R)) :
    Calls Tryz.prog 19 #[.pointer (some ⟨g, 0, none⟩)] W fun e W' => e = .returned (.tuple #[]) ∧ Sts w F W' (rowR g (rpV q n self inb out) :: rnR q.br gg :: R) := by
  have T1 := T.new #[.pointer (some ⟨g, 0, none⟩)] 24
  have r0 := T1.row; have l0 := row_lt r0; have c0 := row_cell r0 0
  have r1 := T1.row1; have l1 := row_lt r1; have c7 := row_cell r1 7
  have HT := Lib.hid T1; clear T T1
  refine (callsIn_wide (n := 4)).1 ?_
  refine callsIn_of_wp_marks Tryz.func19 rfl trivial ?_ rfl
  simp only [Tryz.ntmps19, List.size_toArray, List.length_cons, List.length_nil, Nat.reduceAdd, Nat.reduceSub, Array.replicate_succ, Array.replicate_zero, List.push_toArray, List.append_toArray, List.nil_append, List.cons_append]
  refine wpIn_wide.2 ?_
  go_wp2_with fail
  refine (rnGoT HT.out).mono ?_
  clear HT r0 l0 c0 r1 l1 c7
  rintro e w3 ⟨g1, rfl, T⟩
  generalize W.heap.size = gb at *
  have HT := Lib.hid T; clear T
  go_wp2_with fail
  have T3 : Sts w F w3 ([] ++ ([rowR g1 #[.pointer (some ⟨q.br, 0, none⟩)], rnR q.br gg] ++ (rowR gb #[.pointer (some ⟨g, 0, none⟩)] :: rowR g (rpV q n self inb out) :: R))) := HT.out.ord [0, 3, 1, 2]
  clear HT
  refine (wpIn_wide (n := 4)).1 ?_
  refine wp_rangeD (gf := 76) (lb := #[.pointer (some ⟨g1, 0, none⟩)]) (enc := fun p : Item × Call => #[.agg (IV p.1), .agg (CV p.2)]) (O := fun xs => xs = [])
    (fun _ => []) (fun _ _ => [noR]) [rowR g1 #[.pointer (some ⟨q.br, 0, none⟩)], rnR q.br gg] (rowR gb #[.pointer (some ⟨g, 0, none⟩)] :: rowR g (rpV q n self inb out) :: R)
    (fun _ _ _ _ => False)
    rfl (enters_of Tryz.func76 (by kernel_rfl) rfl) (fun _ => rfl) rnGo1 T3 ?assign ?body ?done ?stop
  case assign =>
    intro lr xs y w F W1 R K hx T1 hK
    obtain ⟨post, hp⟩ := hx
    simp at hp
  case body =>
    rintro lr xs y _ _ w F W1 R hx h T1
    exact h.elim
  case stop =>
    intro D2 c1 k W1 T1
    exact (Sts.no T1.drop).elim
  case done =>
    intro D2 W1 xs hxs T1
    clear T3
    subst hxs
    have T : Sts w F W1 (rowR gb #[.pointer (some ⟨g, 0, none⟩)] :: rowR g (rpV q n self inb out) :: rnR q.br gg :: rowR g1 #[.pointer (some ⟨q.br, 0, none⟩)] :: objR D2 (.deferred (some [])) :: R) := T1.ord [3, 4, 2, 1, 0]
    clear T1
    have FS : ∀ W' R', Sts w F W' (rowR gb #[.pointer (some ⟨g, 0, none⟩)] :: rowR g (rpV q n self inb out) :: R') → (W'.cell? ⟨gb, 0, none⟩ = some (.pointer (some ⟨g, 0, none⟩)) ∧ W'.cell? ⟨g, 2, none⟩ = some (.int .i64 0) ∧ W'.cell? ⟨g, 6, none⟩ = some (.pointer (some ⟨q.bp, 0, none⟩)) ∧ W'.cell? ⟨g, 7, none⟩ = some (.pointer (some ⟨q.br, 0, none⟩))) := fun W' R' T' => ⟨row_cell T'.row 0, row_cell T'.row1 2, row_cell T'.row1 6, row_cell T'.row1 7⟩
    have HFS := Lib.hid FS; clear FS
    have HT := Lib.hid T.drew; clear T
    have S0 := HFS.out _ _ HT.out
    go_upto_region 8 with fail
    refine wp_region_noPanic ?_
    refine wp_region_held_drew (S := fun W' => (W'.cell? ⟨gb, 0, none⟩ = some (.pointer (some ⟨g, 0, none⟩)) ∧ W'.cell? ⟨g, 2, none⟩ = some (.int .i64 0) ∧ W'.cell? ⟨g, 6, none⟩ = some (.pointer (some ⟨q.bp, 0, none⟩)) ∧ W'.cell? ⟨g, 7, none⟩ = some (.pointer (some ⟨q.br, 0, none⟩)))) (by kernel_rfl) S0 (fun hHeld => ?_)
    clear S0
    refine tkH 0 rfl ?_
    simp only [Act.put, List.setIfInBounds_toArray, List.set_cons_zero, List.set_cons_succ]
    refine tkH 1 rfl ?_
    go_frame
    refine tkH 2 rfl ?_
    go_frame
    refine tkH 3 rfl ?_
    go_frame
    refine tkH 4 rfl ?_
    go_frame
    refine tkH 5 rfl ?_
    go_frame
    refine tkH 6 rfl ?_
    go_frame
    refine tkH 7 rfl ?_
    go_frame
    refine tkH 8 rfl ?_
    go_frame
    refine tkH 9 rfl ?_
    go_frame
    refine tkH 10 rfl ?_
    go_frame
    refine tkH 11 rfl ?_
    go_frame
    refine wpAnyH_ready (rs := [12]) (by kernel_rfl) (by simp) ?_
    refine AllReadyH.cons (o := _) rfl (fun K hK => ?_) AllReadyH.nil
    go_simp
    refine (rnMissT (HT.out.ord [2, 0, 1, 3, 4])).mono ?_
    clear HT
    rintro e5 w7 ⟨rfl, T⟩
    have HT := Lib.hid (T.ord [1, 2, 0, 3, 4]); clear T
    refine hK.out _ _ (HFS.out _ _ HT.out) (fun hHeld => ?_)
    clear hK K
    refine wpAnyH_ready (rs := [13]) (by kernel_rfl) (by simp) ?_
    refine AllReadyH.cons (o := _) rfl (fun K hK => ?_) AllReadyH.nil
    go_simp
    refine (pcSeeNil none 0 0 HT.out).mono ?_
    clear HT
    rintro e5 w8 ⟨rfl, T⟩
    have HT := Lib.hid T; clear T
    refine hK.out _ _ (HFS.out _ _ HT.out) (fun hHeld => ?_)
    clear hK K
    refine wpAnyH_done (by kernel_rfl) ?_ _
    refine NoPanic.normal ?_
    try simp only [Exit.then]
    have T4 := HT.out.ord [4, 1, 2, 0, 3]
    have hD := T4.obj
    have T9 := (((T4.putObj (.deferred none)).drop).ord [0, 1, 2, 3])
    have HD := Lib.hid hD; have HT9 := Lib.hid T9
    clear hD T9 HT T4
    go_wp2
    exact retN1 HD.out (results_none rfl _ _ _) ⟨rfl, (HT9.out.ord [2, 3, 0, 1]).drop.drop⟩ rfl
end
end Go.Proofs.YtomlilkobhkoiaaGreatDoor
/- Inst as a value, as cells: its parts, equality, loads, stores, building. Printed by types.py. -/
namespace Go.Proofs.YtomlilkobhkoiaaGreatDoor
open Go.RowKit
set_option linter.unusedVariables false
structure Inst where
  prom : Ballot
  vote : Ballot
  status : Int
  call : Call
  same : Bool
def NV (x : Inst) : Array Value := #[.int .i64 x.prom.round, .int .i64 x.prom.rep, .int .i64 x.vote.round, .int .i64 x.vote.rep, .int .i64 x.status, .int .i64 x.call.deed.kind, .string x.call.deed.key, .string x.call.deed.val, .int .i64 x.call.deed.ver, .int .i64 x.call.deed.ses, .int .i64 x.call.deed.num, .int .i64 (x.call.deps 0), .int .i64 (x.call.deps 1), .int .i64 (x.call.deps 2), .int .i64 (x.call.deps 3), .int .i64 (x.call.deps 4), .int .i64 (x.call.deps 5), .int .i64 (x.call.deps 6), .int .i64 x.call.seq, .bool x.same]
def noInst : Inst := ⟨noBallot, noBallot, 0, noCall, false⟩
section
variable (x y : Inst)
theorem TInst_size : (NV x).size = 20 := rfl
theorem TInst_one : allOne (NV x) = true := by simp [allOne, NV, Value.oneCell']
theorem TInst_piece : piece (NV x) 0 20 = NV x := piece_all _ _ rfl
theorem TInst_c0 : (NV x)[0]? = some (.int .i64 x.prom.round) := rfl
theorem TInst_c1 : (NV x)[1]? = some (.int .i64 x.prom.rep) := rfl
theorem TInst_c2 : (NV x)[2]? = some (.int .i64 x.vote.round) := rfl
theorem TInst_c3 : (NV x)[3]? = some (.int .i64 x.vote.rep) := rfl
theorem TInst_c4 : (NV x)[4]? = some (.int .i64 x.status) := rfl
theorem TInst_c5 : (NV x)[5]? = some (.int .i64 x.call.deed.kind) := rfl
theorem TInst_c6 : (NV x)[6]? = some (.string x.call.deed.key) := rfl
theorem TInst_c7 : (NV x)[7]? = some (.string x.call.deed.val) := rfl
theorem TInst_c8 : (NV x)[8]? = some (.int .i64 x.call.deed.ver) := rfl
theorem TInst_c9 : (NV x)[9]? = some (.int .i64 x.call.deed.ses) := rfl
theorem TInst_c10 : (NV x)[10]? = some (.int .i64 x.call.deed.num) := rfl
theorem TInst_c11 : (NV x)[11]? = some (.int .i64 (x.call.deps 0)) := rfl
theorem TInst_c12 : (NV x)[12]? = some (.int .i64 (x.call.deps 1)) := rfl
theorem TInst_c13 : (NV x)[13]? = some (.int .i64 (x.call.deps 2)) := rfl
theorem TInst_c14 : (NV x)[14]? = some (.int .i64 (x.call.deps 3)) := rfl
theorem TInst_c15 : (NV x)[15]? = some (.int .i64 (x.call.deps 4)) := rfl
theorem TInst_c16 : (NV x)[16]? = some (.int .i64 (x.call.deps 5)) := rfl
theorem TInst_c17 : (NV x)[17]? = some (.int .i64 (x.call.deps 6)) := rfl
theorem TInst_c18 : (NV x)[18]? = some (.int .i64 x.call.seq) := rfl
theorem TInst_c19 : (NV x)[19]? = some (.bool x.same) := rfl
theorem TInst_p_prom : piece (NV x) 0 2 = BV x.prom := by kernel_rfl
theorem TInst_put_prom (v : Ballot) : splice (NV x) 0 (BV v) = NV { x with prom := v } := by kernel_rfl
theorem TInst_p_vote : piece (NV x) 2 2 = BV x.vote := by kernel_rfl
theorem TInst_put_vote (v : Ballot) : splice (NV x) 2 (BV v) = NV { x with vote := v } := by kernel_rfl
theorem TInst_set_status (v : Int) : (NV x).setIfInBounds 4 (.int .i64 v) = NV { x with status := v } := rfl
theorem TInst_p_call : piece (NV x) 5 14 = CV x.call := by kernel_rfl
theorem TInst_put_call (v : Call) : splice (NV x) 5 (CV v) = NV { x with call := v } := by kernel_rfl
theorem TInst_set_same (v : Bool) : (NV x).setIfInBounds 19 (.bool v) = NV { x with same := v } := rfl
theorem TInst_cat : NV x = BV x.prom ++ BV x.vote ++ #[.int .i64 x.status] ++ CV x.call ++ #[.bool x.same] := by kernel_rfl
theorem TInst_ext : NV x = NV y ↔ BV x.prom = BV y.prom ∧ BV x.vote = BV y.vote ∧ x.status = y.status ∧ CV x.call = CV y.call ∧ x.same = y.same := by
  constructor
  · intro h
    refine ⟨?_, ?_, ?_, ?_, ?_⟩
    · have := congrArg (fun c => piece c 0 2) h; simpa only [TInst_p_prom] using this
    · have := congrArg (fun c => piece c 2 2) h; simpa only [TInst_p_vote] using this
    · have := congrArg (·[4]?) h; simpa [TInst_c4, TInst_size] using this
    · have := congrArg (fun c => piece c 5 14) h; simpa only [TInst_p_call] using this
    · have := congrArg (·[19]?) h; simpa [TInst_c19, TInst_size] using this
  · rintro ⟨h0, h1, h2, h3, h4⟩
    rw [TInst_cat x, TInst_cat y, h0, h1, h2, h3, h4]
end
theorem TInst_und : Tryz.prog.underlying 70 = some (.struct (Tryz.prog.fieldsOf 70)) := by kernel_rfl
theorem TInst_eq (d : Nat) (x y : Inst) (w : World) : (Op.equalIn (d + 4) 70 (.agg (NV x)) (.agg (NV y))).run Tryz.prog w = .ok (eqA (NV x) (NV y)) w := by
  refine eq_struct (d := d + 3) (L := [(64, 0, eqA (BV x.prom) (BV y.prom)), (64, 2, eqA (BV x.vote) (BV y.vote)), (3, 4, x.status == y.status), (68, 5, eqA (CV x.call) (CV y.call)), (4, 19, x.same == y.same)]) TInst_und (by kernel_rfl) (by kernel_rfl) ?_ ?_ w
  · simp only [List.forall_mem_cons]
    exact ⟨⟨_, _, fun w => by rw [part_row TBallot_und rfl (by kernel_rfl) (n := 2), TInst_p_prom], fun w => by rw [part_row TBallot_und rfl (by kernel_rfl) (n := 2), TInst_p_prom], fun w => TBallot_eq (d + 1) x.prom y.prom w⟩, ⟨_, _, fun w => by rw [part_row TBallot_und rfl (by kernel_rfl) (n := 2), TInst_p_vote], fun w => by rw [part_row TBallot_und rfl (by kernel_rfl) (n := 2), TInst_p_vote], fun w => TBallot_eq (d + 1) x.vote y.vote w⟩, ⟨_, _, part_cell Tryz.underlying3 rfl (by kernel_rfl) (TInst_c4 x), part_cell Tryz.underlying3 rfl (by kernel_rfl) (TInst_c4 y), fun w => run_equalIn_int w (d + 2) _ _ _ _ _ Tryz.underlying3⟩, ⟨_, _, fun w => by rw [part_row TCall_und rfl (by kernel_rfl) (n := 14), TInst_p_call], fun w => by rw [part_row TCall_und rfl (by kernel_rfl) (n := 14), TInst_p_call], fun w => TCall_eq (d + 0) x.call y.call w⟩, ⟨_, _, part_cell Tryz.underlying4 rfl (by kernel_rfl) (TInst_c19 x), part_cell Tryz.underlying4 rfl (by kernel_rfl) (TInst_c19 y), fun w => run_equalIn_bool' w (d + 2) _ _ _ Tryz.underlying4⟩, by simp⟩
  · refine eqA_of ?_
    rw [TInst_ext]
    simp [eqA_iff]
theorem TInst_eql (x y : Inst) (w : World) : (binOp .eql 70 (.agg (NV x)) (.agg (NV y))).run Tryz.prog w = .ok (.bool (eqA (NV x) (NV y))) w := eql_of (TInst_eq 9996 x y) w
theorem TInst_neq (x y : Inst) (w : World) : (binOp .neq 70 (.agg (NV x)) (.agg (NV y))).run Tryz.prog w = .ok (.bool (!eqA (NV x) (NV y))) w := neq_of (TInst_eq 9996 x y) w
theorem TInst_ld0 (v : Value) : Instr.loadAt 70 v = loadSem 70 v := rfl
theorem TInst_st0 (v u : Value) : Instr.storeAt 70 v u = storeSem 70 v u := rfl
theorem TInst_fd0 (x : Value) (i : Nat) : Instr.field 70 x i = fieldSem 70 x i := rfl
theorem TInst_bd0 (p : Array (Nat × Value)) : Instr.build 70 p = buildS 70 p := rfl
theorem TInst_ld (w : World) (v : Value) : (loadSem 70 v).run Tryz.prog w = loadVal Tryz.prog 70 20 w v := load_val TInst_und rfl (by kernel_rfl) w v
theorem TInst_st (w : World) (v u : Value) : (storeSem 70 v u).run Tryz.prog w = storeVal Tryz.prog 70 20 w v u := store_val (by kernel_rfl) w v u
theorem TInst_f_prom (x : Inst) (w : World) : (fieldSem 70 (.agg (NV x)) 0).run Tryz.prog w = .ok (.agg (BV x.prom)) w := field_of TInst_und (by kernel_rfl) (fun w => by rw [part_row TBallot_und rfl (by kernel_rfl) (n := 2), TInst_p_prom]) w
theorem TInst_f_vote (x : Inst) (w : World) : (fieldSem 70 (.agg (NV x)) 1).run Tryz.prog w = .ok (.agg (BV x.vote)) w := field_of TInst_und (by kernel_rfl) (fun w => by rw [part_row TBallot_und rfl (by kernel_rfl) (n := 2), TInst_p_vote]) w
theorem TInst_f_status (x : Inst) (w : World) : (fieldSem 70 (.agg (NV x)) 2).run Tryz.prog w = .ok (.int .i64 x.status) w := field_of TInst_und (by kernel_rfl) (part_cell Tryz.underlying3 rfl (by kernel_rfl) (TInst_c4 x)) w
theorem TInst_f_call (x : Inst) (w : World) : (fieldSem 70 (.agg (NV x)) 3).run Tryz.prog w = .ok (.agg (CV x.call)) w := field_of TInst_und (by kernel_rfl) (fun w => by rw [part_row TCall_und rfl (by kernel_rfl) (n := 14), TInst_p_call]) w
theorem TInst_f_same (x : Inst) (w : World) : (fieldSem 70 (.agg (NV x)) 4).run Tryz.prog w = .ok (.bool x.same) w := field_of TInst_und (by kernel_rfl) (part_cell Tryz.underlying4 rfl (by kernel_rfl) (TInst_c19 x)) w
def TInst_pl : Nat → Option (Nat × Nat) := fun i => (#[(0, 2), (2, 2), (4, 1), (5, 14), (19, 1)] : Array (Nat × Nat))[i]?
theorem TInst_bd (w : World) (p : Array (Nat × Value)) : (buildS 70 p).run Tryz.prog w = buildOf Tryz.prog 70 TInst_pl (NV noInst) p w := build_struct TInst_und (by kernel_rfl) (fun w => by kernel_rfl) w p
theorem TInst_fl (X : Array Value) : fillS TInst_pl X [] = some X := rfl
theorem TInst_fl_prom (x : Inst) (v : Ballot) (r : List (Nat × Value)) : fillS TInst_pl (NV x) ((0, .agg (BV v)) :: r) = fillS TInst_pl (NV { x with prom := v }) r := by
  show Instr.fill _ _ _ = Instr.fill _ _ _
  rw [fill_cons TInst_pl (NV x) (BV v) 0 0 2 r rfl rfl (by show _ ≤ 20; omega), TInst_put_prom]
theorem TInst_fl_vote (x : Inst) (v : Ballot) (r : List (Nat × Value)) : fillS TInst_pl (NV x) ((1, .agg (BV v)) :: r) = fillS TInst_pl (NV { x with vote := v }) r := by
  show Instr.fill _ _ _ = Instr.fill _ _ _
  rw [fill_cons TInst_pl (NV x) (BV v) 1 2 2 r rfl rfl (by show _ ≤ 20; omega), TInst_put_vote]
theorem TInst_fl_status (x : Inst) (v : Int) (r : List (Nat × Value)) : fillS TInst_pl (NV x) ((2, .int .i64 v) :: r) = fillS TInst_pl (NV { x with status := v }) r := rfl
theorem TInst_fl_call (x : Inst) (v : Call) (r : List (Nat × Value)) : fillS TInst_pl (NV x) ((3, .agg (CV v)) :: r) = fillS TInst_pl (NV { x with call := v }) r := by
  show Instr.fill _ _ _ = Instr.fill _ _ _
  rw [fill_cons TInst_pl (NV x) (CV v) 3 5 14 r rfl rfl (by show _ ≤ 20; omega), TInst_put_call]
theorem TInst_fl_same (x : Inst) (v : Bool) (r : List (Nat × Value)) : fillS TInst_pl (NV x) ((4, .bool v) :: r) = fillS TInst_pl (NV { x with same := v }) r := rfl
end Go.Proofs.YtomlilkobhkoiaaGreatDoor

namespace Go.Proofs.YtomlilkobhkoiaaGreatDoor
open Go.RowKit
attribute [local go_sem] row_alloc row_drew row_drewN row_ext row_setCell row_setRow size_ext setRow_alloc setRow_drew loadOf storeOf piece_lit DV_piece loadVal_at storeVal_at allOne_lit DV_size DV_one
attribute [local go_sem high] cell_alloc frozen_alloc setCell_alloc cell_ext frozen_ext
attribute [local go_sem ↓] index_deps0 load_deps0 store_deps0
attribute [local go_sem] index_deps load_deps store_deps
def goodAt (d : Nat → Int) (n : Int) (i : Nat) : Bool := decide (0 ≤ d i ∧ d i ≤ 64 ∧ (n ≤ i → d i = 0))
def goodD (d : Nat → Int) (n : Int) : Bool := (List.range 7).all (goodAt d n)
theorem goodD_no {d : Nat → Int} {n : Int} (j : Nat) (hj : j < 7) (h : ¬ (0 ≤ d j ∧ d j ≤ 64 ∧ (n ≤ j → d j = 0))) : goodD d n = false := by
  rw [goodD, List.all_eq_false]
  exact ⟨j, by simpa using hj, by unfold goodAt; simpa only [decide_eq_true_eq] using h⟩
theorem goodD_yes {d : Nat → Int} {n : Int} (h : ∀ i, i < 7 → 0 ≤ d i ∧ d i ≤ 64 ∧ (n ≤ i → d i = 0)) : goodD d n = true := by
  rw [goodD, List.all_eq_true]
  intro i hi
  unfold goodAt
  rw [decide_eq_true_eq]
  exact h i (by simpa using hi)
set_option maxHeartbeats 1000000 in
theorem good_any (d : Nat → Int) (n : Int) : Ans Tryz.prog 66 #[.agg (DV d), .int .i64 n] (.bool (goodD d n)) := by
  intro w
  go_enter Tryz.func66, Tryz.ntmps66
  go_wp2
  go_loop [8] (fun i => ∃ j : Nat, j ≤ 7 ∧ i = .int .i64 j ∧ Hid (∀ k, k < j → 0 ≤ d k ∧ d k ≤ 64 ∧ (n ≤ k → d k = 0))) (fun i => 7 - (intOf i).toNat)
  case atStart => exact ⟨0, by omega, rfl, fun k hk => by omega⟩
  case round =>
    obtain ⟨j, hj, rfl, hG⟩ := hrel
    by_cases hlt : j < 7
    · have hno := @goodD_no d n j hlt
      have Hno := Lib.hid hno; clear hno
      by_cases hz : d j = 0
      · have hz' : (d j != 0) = false := by simp [hz]
        have Hz := Lib.hid hz; clear hz
        go_wp2
        all_goals first
          | (go_ret
             refine ⟨?_, (Below.refl _ _).alloc (Nat.le_refl _) _⟩
             exact congrArg (fun b => Ending.returned (.bool b)) (Hno.out (by omega)).symm)
          | (go_round
             case rel =>
               refine ⟨j + 1, by omega, by go_num, fun k hk => ?_⟩
               by_cases e : k = j
               · subst e; exact ⟨by omega, by omega, fun _ => Hz.out⟩
               · exact hG k (by omega)
             case measure => simp [intOf]; omega)
      · have hz' : (d j != 0) = true := by simp [hz]
        go_wp2
        all_goals first
          | (go_ret
             refine ⟨?_, (Below.refl _ _).alloc (Nat.le_refl _) _⟩
             exact congrArg (fun b => Ending.returned (.bool b)) (Hno.out (by omega)).symm)
          | (go_round
             case rel =>
               refine ⟨j + 1, by omega, by go_num, fun k hk => ?_⟩
               by_cases e : k = j
               · subst e; omega
               · exact hG k (by omega)
             case measure => simp [intOf]; omega)
    · obtain rfl : j = 7 := by omega
      have hy := goodD_yes hG
      have Hy := Lib.hid hy; clear hy
      go_wp2
      go_ret
      exact ⟨congrArg (fun b => Ending.returned (.bool b)) Hy.out.symm, (Below.refl _ _).alloc (Nat.le_refl _) _⟩
end Go.Proofs.YtomlilkobhkoiaaGreatDoor
/- Layers 2, 3, 5: whether items, ballots, calls can be. -/
namespace Go.Proofs.YtomlilkobhkoiaaGreatDoor
open Go.RowKit
set_option linter.unusedVariables false
attribute [local go_sem] row_alloc row_drew row_drewN row_ext row_setCell row_setRow size_ext setRow_alloc setRow_drew loadOf storeOf piece_lit loadVal_at storeVal_at allOne_lit buildOf buildRes_some
attribute [local go_sem high] cell_alloc frozen_alloc setCell_alloc cell_ext frozen_ext cell_setRow frozen_setRow
attribute [local go_sem ↓] TDeed_ld0 TDeed_st0 TDeed_fd0 TDeed_bd0
attribute [local go_sem] TDeed_size TDeed_one TDeed_piece TDeed_c0 TDeed_c1 TDeed_c2 TDeed_c3 TDeed_c4 TDeed_c5 TDeed_set_kind TDeed_set_key TDeed_set_val TDeed_set_ver TDeed_set_ses TDeed_set_num TDeed_ld TDeed_st TDeed_f_kind TDeed_f_key TDeed_f_val TDeed_f_ver TDeed_f_ses TDeed_f_num TDeed_bd TDeed_fl TDeed_fl_kind TDeed_fl_key TDeed_fl_val TDeed_fl_ver TDeed_fl_ses TDeed_fl_num
attribute [local go_sem high] TDeed_eql TDeed_neq
attribute [local go_sem ↓] index_deps0 load_deps0 store_deps0
attribute [local go_sem] DV_piece DV_size DV_one index_deps load_deps store_deps
attribute [local go_sem high] TDeps_eql TDeps_neq
attribute [local go_sem ↓] TCall_ld0 TCall_st0 TCall_fd0 TCall_bd0
attribute [local go_sem] TCall_size TCall_one TCall_piece TCall_c0 TCall_c1 TCall_c2 TCall_c3 TCall_c4 TCall_c5 TCall_c6 TCall_c7 TCall_c8 TCall_c9 TCall_c10 TCall_c11 TCall_c12 TCall_c13 TCall_p_deed TCall_put_deed TCall_p_deps TCall_put_deps TCall_set_seq TCall_ld TCall_st TCall_f_deed TCall_f_deps TCall_f_seq TCall_bd TCall_fl TCall_fl_deed TCall_fl_deps TCall_fl_seq
attribute [local go_sem high] TCall_eql TCall_neq
attribute [local go_sem ↓] TItem_ld0 TItem_st0 TItem_fd0 TItem_bd0
attribute [local go_sem] TItem_size TItem_one TItem_piece TItem_c0 TItem_c1 TItem_set_rep TItem_set_num TItem_ld TItem_st TItem_f_rep TItem_f_num TItem_bd TItem_fl TItem_fl_rep TItem_fl_num
attribute [local go_sem high] TItem_eql TItem_neq
attribute [local go_sem ↓] TBallot_ld0 TBallot_st0 TBallot_fd0 TBallot_bd0
attribute [local go_sem] TBallot_size TBallot_one TBallot_piece TBallot_c0 TBallot_c1 TBallot_set_round TBallot_set_rep TBallot_ld TBallot_st TBallot_f_round TBallot_f_rep TBallot_bd TBallot_fl TBallot_fl_round TBallot_fl_rep
attribute [local go_sem high] TBallot_eql TBallot_neq
def goodC (c : Call) (n : Int) : Bool := goodB c.deed && goodD c.deps n && decide (0 ≤ c.seq) && decide (c.seq ≤ 1099511627776)
def goodI (x : Item) (n : Int) : Bool := decide (0 ≤ x.rep ∧ x.rep < n ∧ 1 ≤ x.num ∧ x.num ≤ 64)
def goodBal (b : Ballot) (n : Int) : Bool := decide (0 ≤ b.round ∧ b.round ≤ 1099511627776 ∧ 0 ≤ b.rep ∧ b.rep < n)
set_option maxHeartbeats 1000000 in
theorem itemGood_any (x : Item) (n : Int) : Ans Tryz.prog 107 #[.agg (IV x), .int .i64 n] (.bool (goodI x n)) := by
  intro w
  go_enter Tryz.func107, Tryz.ntmps107
  go_wp2
  all_goals
    go_ret
    refine ⟨congrArg (fun b => Ending.returned (.bool b)) ?_, (Below.refl _ _).alloc (Nat.le_refl _) _⟩
    rw [Bool.eq_iff_iff]; simp [goodI]; omega
set_option maxHeartbeats 1000000 in
theorem balGood_any (b : Ballot) (n : Int) : Ans Tryz.prog 136 #[.agg (BV b), .int .i64 n] (.bool (goodBal b n)) := by
  intro w
  go_enter Tryz.func136, Tryz.ntmps136
  go_wp2
  all_goals
    go_ret
    refine ⟨congrArg (fun b => Ending.returned (.bool b)) ?_, (Below.refl _ _).alloc (Nat.le_refl _) _⟩
    rw [Bool.eq_iff_iff]; simp [goodBal]; omega
set_option maxHeartbeats 1000000 in
theorem goodCall_any (c : Call) (n : Int) : Ans Tryz.prog 137 #[.agg (CV c), .int .i64 n] (.bool (goodC c n)) := by
  refine Ans.of_sts fun w => ?_
  have T := (Sts.start0 w).new (CV c) 68
  have c1 := good4_any c.deed
  have c2 := good_any c.deps n
  have hr := T.row
  have hg : goodC c n = (goodB c.deed && goodD c.deps n && decide (0 ≤ c.seq) && decide (c.seq ≤ 1099511627776)) := rfl
  cases h1 : goodB c.deed
  · rw [h1] at c1 hg
    have C1 := Lib.hid c1; have HG := Lib.hid hg; clear c1 c2 hg h1
    go_enter Tryz.func137, Tryz.ntmps137
    go_wp2_with fail
    refine (Ans.at C1.out T).mono ?_; clear T hr; rintro e w1 ⟨rfl, T⟩
    go_wp2
    go_ret
    exact ⟨by rw [HG.out]; rfl, T.nil⟩
  · rw [h1] at c1 hg
    cases h2 : goodD c.deps n
    · rw [h2] at c2 hg
      have C1 := Lib.hid c1; have C2 := Lib.hid c2; have HG := Lib.hid hg; clear c1 c2 hg h1 h2
      go_enter Tryz.func137, Tryz.ntmps137
      go_wp2_with fail
      refine (Ans.at C1.out T).mono ?_; clear T hr; rintro e w1 ⟨rfl, T⟩
      have hr := T.row
      go_wp2_with fail
      refine (Ans.at C2.out T).mono ?_; clear T hr; rintro e w2 ⟨rfl, T⟩
      go_wp2
      go_ret
      exact ⟨by rw [HG.out]; rfl, T.nil⟩
    · rw [h2] at c2 hg
      have C1 := Lib.hid c1; have C2 := Lib.hid c2; have HG := Lib.hid hg; clear c1 c2 hg h1 h2
      by_cases h3 : 0 ≤ c.seq
      · go_enter Tryz.func137, Tryz.ntmps137
        go_wp2_with fail
        refine (Ans.at C1.out T).mono ?_; clear T hr; rintro e w1 ⟨rfl, T⟩
        have hr := T.row
        go_wp2_with fail
        refine (Ans.at C2.out T).mono ?_; clear T hr; rintro e w2 ⟨rfl, T⟩
        have hr := row_cell T.row
        go_wp2
        all_goals go_ret
        all_goals exact ⟨by rw [HG.out]; simp_all, T.nil⟩
      · go_enter Tryz.func137, Tryz.ntmps137
        go_wp2_with fail
        refine (Ans.at C1.out T).mono ?_; clear T hr; rintro e w1 ⟨rfl, T⟩
        have hr := T.row
        go_wp2_with fail
        refine (Ans.at C2.out T).mono ?_; clear T hr; rintro e w2 ⟨rfl, T⟩
        have hr := row_cell T.row
        go_wp2
        go_ret
        exact ⟨by rw [HG.out]; simp; omega, T.nil⟩
end Go.Proofs.YtomlilkobhkoiaaGreatDoor
/- Layer 3: what is known of items, by their places, as a thing in memory. -/
namespace Go.Proofs.YtomlilkobhkoiaaGreatDoor
open Go.RowKit
set_option linter.unusedVariables false
/-- Rows: of so many replicas; each replica's, by numbers. -/
structure RowsM where
  n : Int
  f : Nat → List (Option Inst)
def rcells (n : Int) (v h : Nat → Value) : Array Value := #[.int .i64 n, v 0, v 1, v 2, v 3, v 4, v 5, v 6, h 0, h 1, h 2, h 3, h 4, h 5, h 6]
section
variable (n : Int) (v h : Nat → Value) (k : Nat) (x : Value)
theorem rcells_n : (rcells n v h)[0]? = some (.int .i64 n) := rfl
theorem rcells_v (hk : k < 7) : (rcells n v h)[1 + k]? = some (v k) := by
  match k, hk with
  | 0, _ => rfl
  | 1, _ => rfl
  | 2, _ => rfl
  | 3, _ => rfl
  | 4, _ => rfl
  | 5, _ => rfl
  | 6, _ => rfl
theorem rcells_h (hk : k < 7) : (rcells n v h)[8 + k]? = some (h k) := by
  match k, hk with
  | 0, _ => rfl
  | 1, _ => rfl
  | 2, _ => rfl
  | 3, _ => rfl
  | 4, _ => rfl
  | 5, _ => rfl
  | 6, _ => rfl
theorem rcells_setv (hk : k < 7) : (rcells n v h).setIfInBounds (1 + k) x = rcells n (updF v k x) h := by
  match k, hk with
  | 0, _ => simp [rcells, updF]
  | 1, _ => simp [rcells, updF]
  | 2, _ => simp [rcells, updF]
  | 3, _ => simp [rcells, updF]
  | 4, _ => simp [rcells, updF]
  | 5, _ => simp [rcells, updF]
  | 6, _ => simp [rcells, updF]
theorem rcells_seth (hk : k < 7) : (rcells n v h).setIfInBounds (8 + k) x = rcells n v (updF h k x) := by
  match k, hk with
  | 0, _ => simp [rcells, updF]
  | 1, _ => simp [rcells, updF]
  | 2, _ => simp [rcells, updF]
  | 3, _ => simp [rcells, updF]
  | 4, _ => simp [rcells, updF]
  | 5, _ => simp [rcells, updF]
  | 6, _ => simp [rcells, updF]
end
def NVo (o : Option Inst) : Array Value := NV (o.getD noInst)
def HVo (o : Option Inst) : Array Value := #[.bool o.isSome]
theorem NVo_size (o : Option Inst) : (NVo o).size = 20 := rfl
theorem HVo_size (o : Option Inst) : (HVo o).size = 1 := rfl
def instsR (v : Value) (l : List (Option Inst)) : Res := vecR 70 20 v l.length (vl NVo l)
def bitsR (h : Value) (l : List (Option Inst)) : Res := vecR 4 1 h l.length (vl HVo l)
def pairR (f : Nat → List (Option Inst)) (v h : Nat → Value) (i : Nat) : Res := starR (instsR (v i) (f i)) (bitsR (h i) (f i))
/-- The other replicas' rows. -/
def othersR (f : Nat → List (Option Inst)) (v h : Nat → Value) (k : Nat) : Res := packR (((List.range 7).erase k).map (pairR f v h))
/-- The rows in block g. -/
def rowsIR (g : Nat) (m : RowsM) : Res := exR fun q : (Nat → Value) × (Nat → Value) => packR (rowR g (rcells m.n q.1 q.2) :: (List.range 7).map (pairR m.f q.1 q.2))
section
variable {w W : World} {F : Nat → Prop} {R : List Res} {g : Nat} {m : RowsM}
theorem Sts.rowsOpen (T : Sts w F W (rowsIR g m :: R)) {k : Nat} (hk : k < 7) : ∃ v h, Sts w F W (rowR g (rcells m.n v h) :: instsR (v k) (m.f k) :: bitsR (h k) (m.f k) :: othersR m.f v h k :: R) := by
  obtain ⟨⟨v, h⟩, T⟩ := T.open
  have T := T.unpack
  have T : Sts w F W (((pairR m.f v h k :: ((List.range 7).erase k).map (pairR m.f v h)) ++ (rowR g (rcells m.n v h) :: R))) :=
    T.perm (((row_take (pairR m.f v h) hk).append_right R).cons (rowR g (rcells m.n v h)) |>.trans (List.perm_middle.symm))
  have T : Sts w F W ((((List.range 7).erase k).map (pairR m.f v h)) ++ (pairR m.f v h k :: rowR g (rcells m.n v h) :: R)) := T.perm (List.perm_middle.symm)
  have T := T.pack
  have T := T.swap.split
  exact ⟨v, h, T.perm (by
    show (instsR (v k) (m.f k) :: bitsR (h k) (m.f k) :: packR _ :: rowR g _ :: R).Perm _
    exact ((List.Perm.cons _ ((List.Perm.cons _ (.swap ..)).trans (.swap ..))).trans (.swap ..)))⟩
theorem Sts.rowsShut {v h : Nat → Value} {k : Nat} (hk : k < 7) (T : Sts w F W (rowR g (rcells m.n v h) :: instsR (v k) (m.f k) :: bitsR (h k) (m.f k) :: othersR m.f v h k :: R)) : Sts w F W (rowsIR g m :: R) := by
  have T := T.perm ((List.Perm.swap ..).trans (List.Perm.cons _ ((List.Perm.swap ..).trans (List.Perm.cons _ (.swap ..)))))
  -- insts, bits, others, row
  have T := T.join.swap
  have T := T.unpack
  have T : Sts w F W (pairR m.f v h k :: rowR g (rcells m.n v h) :: (((List.range 7).erase k).map (pairR m.f v h) ++ R)) :=
    T.perm (List.perm_middle.trans (List.Perm.cons _ List.perm_middle))
  have T : Sts w F W ((rowR g (rcells m.n v h) :: (List.range 7).map (pairR m.f v h)) ++ R) :=
    T.perm ((List.Perm.swap ..).trans (List.Perm.cons _ ((row_take (pairR m.f v h) hk).symm.append_right R)))
  exact T.pack.close (v, h)
end
/-- What is known of an item. -/
noncomputable def getM (m : RowsM) (x : Item) : Option Inst := if goodI x m.n = true then ((m.f x.rep.toNat)[x.num.toNat - 1]?).join else none
/-- A row with something at a place. -/
def putL (l : List (Option Inst)) (i : Nat) (t : Inst) : List (Option Inst) := (l ++ List.replicate (i + 1 - l.length) none).set i (some t)
/-- So much is added as is wanted. -/
theorem putL_of {l0 l : List (Option Inst)} {j p : Nat} (t : Inst) (h : l = l0 ++ List.replicate p none) (hp : p = 0 ∨ l.length ≤ j + 1) (hj : j + 1 ≤ l.length) : putL l0 j t = l.set j (some t) := by
  unfold putL
  have hl : l.length = l0.length + p := by rw [h, List.length_append, List.length_replicate]
  have e : j + 1 - l0.length = p := by omega
  rw [e, h]
noncomputable def setM (m : RowsM) (x : Item) (t : Inst) : RowsM := if goodI x m.n = true then { m with f := updF m.f x.rep.toNat (putL (m.f x.rep.toNat) (x.num.toNat - 1) t) } else m
end Go.Proofs.YtomlilkobhkoiaaGreatDoor
