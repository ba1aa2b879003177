/- Several texts in one. -/
import Derived.Test.YtfgacjglfdehbaaDoorW2
import Derived.Test.YtfgacjglfdehbaaDoorW3
import Derived.Deep.AppendLies
import Derived.Deep.RegionHeld3
import Derived.Test.YtfgacjglfdehbaaDoorW4
import Derived.ChangeKeysEq
import Derived.Test.YtfgacjglfdehbaaDoorW1
import Derived.Deep.Slices
import Derived.DataReads
/- Things in memory, many in one; one of a row of them taken out. Nothing of the program stands here. -/
namespace Go.Proofs.YtfgacjglfdehbaaDoor
open Go.RowKit Go.Lib
set_option linter.unusedVariables false
/-- Many things as one. -/
def packR (L : List Res) : Res where
  sat F W := Sat W L F
  stay h hs := hs.stay h
  lt hs := hs.lt
section
variable {w W : World} {F : Nat → Prop} {L R : List Res}
theorem Sts.unpack (h : Sts w F W (packR L :: R)) : Sts w F W (L ++ R) := by
  obtain ⟨⟨G, ⟨A, B, ha, hb, hd, hf⟩, hg⟩, m⟩ := h
  exact ⟨⟨G, (Sat.append (L1 := L) ha hb hd).congr fun k => (hf k).symm, hg⟩, m⟩
theorem Sts.pack (h : Sts w F W (L ++ R)) : Sts w F W (packR L :: R) := by
  obtain ⟨⟨G, hs, hg⟩, m⟩ := h
  obtain ⟨A, B, ha, hb, hd, hf⟩ := Sat.parts (L1 := L) hs
  exact ⟨⟨G, ⟨A, B, ha, hb, hd, hf⟩, hg⟩, m⟩
end
/-- One of a row of things is taken out. -/
theorem row_take (f : Nat → Res) {n k : Nat} (hk : k < n) : ((List.range n).map f).Perm (f k :: ((List.range n).erase k).map f) :=
  (List.perm_cons_erase (List.mem_range.2 hk)).map f
/-- The others stay. -/
theorem row_others {f g : Nat → Res} {n k : Nat} (h : ∀ i, i ≠ k → f i = g i) : ((List.range n).erase k).map f = ((List.range n).erase k).map g :=
  List.map_congr_left fun i hi => h i ((List.nodup_range.mem_erase_iff.1 hi).1)
/-- A function, turned at one place. -/
def updF {α : Type} (f : Nat → α) (k : Nat) (x : α) : Nat → α := fun i => if i = k then x else f i
theorem updF_same {α : Type} (f : Nat → α) (k : Nat) (x : α) : updF f k x k = x := by unfold updF; rw [if_pos rfl]
theorem updF_other {α : Type} (f : Nat → α) {k i : Nat} (x : α) (h : i ≠ k) : updF f k x i = f i := by unfold updF; rw [if_neg h]
end Go.Proofs.YtfgacjglfdehbaaDoor
/- Slices of wide things of the call's own: append in a region that draws its order; their cells and loads. Nothing of the program stands here. -/
namespace Go.Proofs.YtfgacjglfdehbaaDoor
open Go.RowKit
set_option linter.unusedVariables false
/-- The cells of a row of things. -/
def vl {α : Type} (V : α → Array Value) (l : List α) : List Value := (flatV V l).toList
theorem vl_snoc {α : Type} (V : α → Array Value) (l : List α) (x : α) : vl V (l ++ [x]) = vl V l ++ (V x).toList := by
  unfold vl; rw [flatV_append, flatV_one, Array.toList_append]
theorem vl_nil {α : Type} (V : α → Array Value) : vl V [] = [] := rfl
section
variable {P : Program} {w W : World} {F : Nat → Prop} {R : List Res}
theorem step_append_vec {ops : Array Oper} {o : Oper} {a : Act} {K : Act → World → Prop} {Q : Exit → Act → World → Prop} {E : Prop} (hgd : o.guard = none) (s x : Operand) (t : TypeId)
    (ho : o.op = .call { callee := .builtin .append, args := #[s, x], argTypes := #[t, t] })
    (e : TypeId) (i : TypeInfo) (z : Value) (size bytes : Nat) (ht : P.underlying t = some (.slice e)) (hi : P.info? e = some i) (hz : i.zero = some z)
    (hsize : i.size = size) (hby : i.bytes = bytes) (hzs : z.cells.size = size) (hsz : 0 < size)
    (v : Value) (n : Nat) (xs : List Value) (hs : a.eval s = v) (T : Sts w F W (vecR e size v n xs :: R))
    (ad : Addr) (m c : Nat) (news : List Value) (hx : a.eval x = .slice (some ad) m c) (hl : news.length = m * size) (hnews : ∀ j u, news[j]? = some u → W.cell? (ad.add j) = some u) (h1 : ∀ u ∈ news, u.oneCell' = true)
    (hm : 0 < m) (h63 : n + m ≤ maxLen) (hbytes : (n + m) * bytes ≤ 140737488355328)
    (h : ∀ g cap w', Sts w F w' (vecR e size (.slice (some ⟨g, 0, none⟩) (n + m) cap) (n + m) (xs ++ news) :: R) → K (a.put o.dst (.slice (some ⟨g, 0, none⟩) (n + m) cap)) w') :
    if Region.wanted o (yielded ops a.tmps) = true then Oper.wp P o a W K Q else E := by
  refine step_append_lies W hgd s x t ho 0 e i z size bytes ht hi hz hsize hby hzs hsz v n xs hs T.vec ad m c news hx hl hnews h1 hm h63 hbytes (Nat.zero_le _) W.heap.size rfl ?_
  intro g cap w' hown hg hat hlt
  refine h g cap w' (T.grown hown hg ?_)
  rcases hat with h | h
  · left; rw [h]; rfl
  · right; rw [h]; rfl
/-- What lies in such a slice. -/
theorem vec_cell {α : Type} {V : α → Array Value} {size : Nat} (hV : ∀ x, (V x).size = size) {e : TypeId} {v : Value} {l : List α} (T : Sts w F W (vecR e size v l.length (vl V l) :: R)) (h0 : 0 < size) {j : Nat} (hj : j < l.length) :
    ∃ g c, v = .slice (some ⟨g, 0, none⟩) l.length c ∧ g < W.heap.size ∧ ∀ i u, (V l[j])[i]? = some u → W.cell? ⟨g, j * size + i, none⟩ = some u := by
  have hown := T.vec
  rcases hown.2 with ⟨_, h⟩ | ⟨g, cap, cur, rfl, _, hg, hn, hm, hc, ht⟩
  · omega
  · refine ⟨g, cap, rfl, (Array.getElem?_eq_some_iff.1 hg).1, fun i u hu => ?_⟩
    have hi : i < size := by have := (Array.getElem?_eq_some_iff.1 hu).1; rw [hV] at this; exact this
    have h2 := flatV_get hV l j hj i hi
    rw [hu] at h2
    have h3 : (vl V l)[j * size + i]? = some u := by unfold vl; rw [Array.getElem?_toList]; exact h2
    rw [← ht, List.getElem?_take] at h3
    split at h3
    · rw [cell_of_row W g _ cur e (0, 0) hg]; simpa using h3
    · cases h3
end
end Go.Proofs.YtfgacjglfdehbaaDoor
/- Inst as a value, as cells: its parts, equality, loads, stores, building. Printed by types.py. -/
namespace Go.Proofs.YtfgacjglfdehbaaDoor
open Go.RowKit
set_option linter.unusedVariables false
structure Inst where
  prom : Ballot
  vote : Ballot
  status : Int
  call : Call
  same : Bool
def NV (x : Inst) : Array Value := #[.int .i64 x.prom.round, .int .i64 x.prom.rep, .int .i64 x.vote.round, .int .i64 x.vote.rep, .int .i64 x.status, .int .i64 x.call.deed.kind, .string x.call.deed.key, .string x.call.deed.val, .int .i64 x.call.deed.ver, .int .i64 x.call.deed.ses, .int .i64 x.call.deed.num, .int .i64 (x.call.deps 0), .int .i64 (x.call.deps 1), .int .i64 (x.call.deps 2), .int .i64 (x.call.deps 3), .int .i64 (x.call.deps 4), .int .i64 (x.call.deps 5), .int .i64 (x.call.deps 6), .int .i64 x.call.seq, .bool x.same]
def noInst : Inst := ⟨noBallot, noBallot, 0, noCall, false⟩
section
variable (x y : Inst)
theorem TInst_size : (NV x).size = 20 := rfl
theorem TInst_one : allOne (NV x) = true := by simp [allOne, NV, Value.oneCell']
theorem TInst_piece : piece (NV x) 0 20 = NV x := piece_all _ _ rfl
theorem TInst_c0 : (NV x)[0]? = some (.int .i64 x.prom.round) := rfl
theorem TInst_c1 : (NV x)[1]? = some (.int .i64 x.prom.rep) := rfl
theorem TInst_c2 : (NV x)[2]? = some (.int .i64 x.vote.round) := rfl
theorem TInst_c3 : (NV x)[3]? = some (.int .i64 x.vote.rep) := rfl
theorem TInst_c4 : (NV x)[4]? = some (.int .i64 x.status) := rfl
theorem TInst_c5 : (NV x)[5]? = some (.int .i64 x.call.deed.kind) := rfl
theorem TInst_c6 : (NV x)[6]? = some (.string x.call.deed.key) := rfl
theorem TInst_c7 : (NV x)[7]? = some (.string x.call.deed.val) := rfl
theorem TInst_c8 : (NV x)[8]? = some (.int .i64 x.call.deed.ver) := rfl
theorem TInst_c9 : (NV x)[9]? = some (.int .i64 x.call.deed.ses) := rfl
theorem TInst_c10 : (NV x)[10]? = some (.int .i64 x.call.deed.num) := rfl
theorem TInst_c11 : (NV x)[11]? = some (.int .i64 (x.call.deps 0)) := rfl
theorem TInst_c12 : (NV x)[12]? = some (.int .i64 (x.call.deps 1)) := rfl
theorem TInst_c13 : (NV x)[13]? = some (.int .i64 (x.call.deps 2)) := rfl
theorem TInst_c14 : (NV x)[14]? = some (.int .i64 (x.call.deps 3)) := rfl
theorem TInst_c15 : (NV x)[15]? = some (.int .i64 (x.call.deps 4)) := rfl
theorem TInst_c16 : (NV x)[16]? = some (.int .i64 (x.call.deps 5)) := rfl
theorem TInst_c17 : (NV x)[17]? = some (.int .i64 (x.call.deps 6)) := rfl
theorem TInst_c18 : (NV x)[18]? = some (.int .i64 x.call.seq) := rfl
theorem TInst_c19 : (NV x)[19]? = some (.bool x.same) := rfl
theorem TInst_p_prom : piece (NV x) 0 2 = BV x.prom := by kernel_rfl
theorem TInst_put_prom (v : Ballot) : splice (NV x) 0 (BV v) = NV { x with prom := v } := by kernel_rfl
theorem TInst_p_vote : piece (NV x) 2 2 = BV x.vote := by kernel_rfl
theorem TInst_put_vote (v : Ballot) : splice (NV x) 2 (BV v) = NV { x with vote := v } := by kernel_rfl
theorem TInst_set_status (v : Int) : (NV x).setIfInBounds 4 (.int .i64 v) = NV { x with status := v } := rfl
theorem TInst_p_call : piece (NV x) 5 14 = CV x.call := by kernel_rfl
theorem TInst_put_call (v : Call) : splice (NV x) 5 (CV v) = NV { x with call := v } := by kernel_rfl
theorem TInst_set_same (v : Bool) : (NV x).setIfInBounds 19 (.bool v) = NV { x with same := v } := rfl
theorem TInst_cat : NV x = BV x.prom ++ BV x.vote ++ #[.int .i64 x.status] ++ CV x.call ++ #[.bool x.same] := by kernel_rfl
theorem TInst_ext : NV x = NV y ↔ BV x.prom = BV y.prom ∧ BV x.vote = BV y.vote ∧ x.status = y.status ∧ CV x.call = CV y.call ∧ x.same = y.same := by
  constructor
  · intro h
    refine ⟨?_, ?_, ?_, ?_, ?_⟩
    · have := congrArg (fun c => piece c 0 2) h; simpa only [TInst_p_prom] using this
    · have := congrArg (fun c => piece c 2 2) h; simpa only [TInst_p_vote] using this
    · have := congrArg (·[4]?) h; simpa [TInst_c4, TInst_size] using this
    · have := congrArg (fun c => piece c 5 14) h; simpa only [TInst_p_call] using this
    · have := congrArg (·[19]?) h; simpa [TInst_c19, TInst_size] using this
  · rintro ⟨h0, h1, h2, h3, h4⟩
    rw [TInst_cat x, TInst_cat y, h0, h1, h2, h3, h4]
end
theorem TInst_und : Tryd.prog.underlying 46 = some (.struct (Tryd.prog.fieldsOf 46)) := by kernel_rfl
theorem TInst_eq (d : Nat) (x y : Inst) (w : World) : (Op.equalIn (d + 4) 46 (.agg (NV x)) (.agg (NV y))).run Tryd.prog w = .ok (eqA (NV x) (NV y)) w := by
  refine eq_struct (d := d + 3) (L := [(26, 0, eqA (BV x.prom) (BV y.prom)), (26, 2, eqA (BV x.vote) (BV y.vote)), (3, 4, x.status == y.status), (32, 5, eqA (CV x.call) (CV y.call)), (4, 19, x.same == y.same)]) TInst_und (by kernel_rfl) (by kernel_rfl) ?_ ?_ w
  · simp only [List.forall_mem_cons]
    exact ⟨⟨_, _, fun w => by rw [part_row TBallot_und rfl (by kernel_rfl) (n := 2), TInst_p_prom], fun w => by rw [part_row TBallot_und rfl (by kernel_rfl) (n := 2), TInst_p_prom], fun w => TBallot_eq (d + 1) x.prom y.prom w⟩, ⟨_, _, fun w => by rw [part_row TBallot_und rfl (by kernel_rfl) (n := 2), TInst_p_vote], fun w => by rw [part_row TBallot_und rfl (by kernel_rfl) (n := 2), TInst_p_vote], fun w => TBallot_eq (d + 1) x.vote y.vote w⟩, ⟨_, _, part_cell Tryd.underlying3 rfl (by kernel_rfl) (TInst_c4 x), part_cell Tryd.underlying3 rfl (by kernel_rfl) (TInst_c4 y), fun w => run_equalIn_int w (d + 2) _ _ _ _ _ Tryd.underlying3⟩, ⟨_, _, fun w => by rw [part_row TCall_und rfl (by kernel_rfl) (n := 14), TInst_p_call], fun w => by rw [part_row TCall_und rfl (by kernel_rfl) (n := 14), TInst_p_call], fun w => TCall_eq (d + 0) x.call y.call w⟩, ⟨_, _, part_cell Tryd.underlying4 rfl (by kernel_rfl) (TInst_c19 x), part_cell Tryd.underlying4 rfl (by kernel_rfl) (TInst_c19 y), fun w => run_equalIn_bool' w (d + 2) _ _ _ Tryd.underlying4⟩, by simp⟩
  · refine eqA_of ?_
    rw [TInst_ext]
    simp [eqA_iff]
theorem TInst_eql (x y : Inst) (w : World) : (binOp .eql 46 (.agg (NV x)) (.agg (NV y))).run Tryd.prog w = .ok (.bool (eqA (NV x) (NV y))) w := eql_of (TInst_eq 9996 x y) w
theorem TInst_neq (x y : Inst) (w : World) : (binOp .neq 46 (.agg (NV x)) (.agg (NV y))).run Tryd.prog w = .ok (.bool (!eqA (NV x) (NV y))) w := neq_of (TInst_eq 9996 x y) w
theorem TInst_ld0 (v : Value) : Instr.loadAt 46 v = loadSem 46 v := rfl
theorem TInst_st0 (v u : Value) : Instr.storeAt 46 v u = storeSem 46 v u := rfl
theorem TInst_fd0 (x : Value) (i : Nat) : Instr.field 46 x i = fieldSem 46 x i := rfl
theorem TInst_bd0 (p : Array (Nat × Value)) : Instr.build 46 p = buildS 46 p := rfl
theorem TInst_ld (w : World) (v : Value) : (loadSem 46 v).run Tryd.prog w = loadVal Tryd.prog 46 20 w v := load_val TInst_und rfl (by kernel_rfl) w v
theorem TInst_st (w : World) (v u : Value) : (storeSem 46 v u).run Tryd.prog w = storeVal Tryd.prog 46 20 w v u := store_val (by kernel_rfl) w v u
theorem TInst_f_prom (x : Inst) (w : World) : (fieldSem 46 (.agg (NV x)) 0).run Tryd.prog w = .ok (.agg (BV x.prom)) w := field_of TInst_und (by kernel_rfl) (fun w => by rw [part_row TBallot_und rfl (by kernel_rfl) (n := 2), TInst_p_prom]) w
theorem TInst_f_vote (x : Inst) (w : World) : (fieldSem 46 (.agg (NV x)) 1).run Tryd.prog w = .ok (.agg (BV x.vote)) w := field_of TInst_und (by kernel_rfl) (fun w => by rw [part_row TBallot_und rfl (by kernel_rfl) (n := 2), TInst_p_vote]) w
theorem TInst_f_status (x : Inst) (w : World) : (fieldSem 46 (.agg (NV x)) 2).run Tryd.prog w = .ok (.int .i64 x.status) w := field_of TInst_und (by kernel_rfl) (part_cell Tryd.underlying3 rfl (by kernel_rfl) (TInst_c4 x)) w
theorem TInst_f_call (x : Inst) (w : World) : (fieldSem 46 (.agg (NV x)) 3).run Tryd.prog w = .ok (.agg (CV x.call)) w := field_of TInst_und (by kernel_rfl) (fun w => by rw [part_row TCall_und rfl (by kernel_rfl) (n := 14), TInst_p_call]) w
theorem TInst_f_same (x : Inst) (w : World) : (fieldSem 46 (.agg (NV x)) 4).run Tryd.prog w = .ok (.bool x.same) w := field_of TInst_und (by kernel_rfl) (part_cell Tryd.underlying4 rfl (by kernel_rfl) (TInst_c19 x)) w
def TInst_pl : Nat → Option (Nat × Nat) := fun i => (#[(0, 2), (2, 2), (4, 1), (5, 14), (19, 1)] : Array (Nat × Nat))[i]?
theorem TInst_bd (w : World) (p : Array (Nat × Value)) : (buildS 46 p).run Tryd.prog w = buildOf Tryd.prog 46 TInst_pl (NV noInst) p w := build_struct TInst_und (by kernel_rfl) (fun w => by kernel_rfl) w p
theorem TInst_fl (X : Array Value) : fillS TInst_pl X [] = some X := rfl
theorem TInst_fl_prom (x : Inst) (v : Ballot) (r : List (Nat × Value)) : fillS TInst_pl (NV x) ((0, .agg (BV v)) :: r) = fillS TInst_pl (NV { x with prom := v }) r := by
  show Instr.fill _ _ _ = Instr.fill _ _ _
  rw [fill_cons TInst_pl (NV x) (BV v) 0 0 2 r rfl rfl (by show _ ≤ 20; omega), TInst_put_prom]
theorem TInst_fl_vote (x : Inst) (v : Ballot) (r : List (Nat × Value)) : fillS TInst_pl (NV x) ((1, .agg (BV v)) :: r) = fillS TInst_pl (NV { x with vote := v }) r := by
  show Instr.fill _ _ _ = Instr.fill _ _ _
  rw [fill_cons TInst_pl (NV x) (BV v) 1 2 2 r rfl rfl (by show _ ≤ 20; omega), TInst_put_vote]
theorem TInst_fl_status (x : Inst) (v : Int) (r : List (Nat × Value)) : fillS TInst_pl (NV x) ((2, .int .i64 v) :: r) = fillS TInst_pl (NV { x with status := v }) r := rfl
theorem TInst_fl_call (x : Inst) (v : Call) (r : List (Nat × Value)) : fillS TInst_pl (NV x) ((3, .agg (CV v)) :: r) = fillS TInst_pl (NV { x with call := v }) r := by
  show Instr.fill _ _ _ = Instr.fill _ _ _
  rw [fill_cons TInst_pl (NV x) (CV v) 3 5 14 r rfl rfl (by show _ ≤ 20; omega), TInst_put_call]
theorem TInst_fl_same (x : Inst) (v : Bool) (r : List (Nat × Value)) : fillS TInst_pl (NV x) ((4, .bool v) :: r) = fillS TInst_pl (NV { x with same := v }) r := rfl
end Go.Proofs.YtfgacjglfdehbaaDoor

namespace Go.Proofs.YtfgacjglfdehbaaDoor
open Go.RowKit
attribute [local go_sem] row_alloc row_drew row_drewN row_ext row_setCell row_setRow size_ext setRow_alloc setRow_drew loadOf storeOf piece_lit DV_piece loadVal_at storeVal_at allOne_lit DV_size DV_one
attribute [local go_sem high] cell_alloc frozen_alloc setCell_alloc cell_ext frozen_ext
attribute [local go_sem ↓] index_deps0 load_deps0 store_deps0
attribute [local go_sem] index_deps load_deps store_deps
def goodAt (d : Nat → Int) (n : Int) (i : Nat) : Bool := decide (0 ≤ d i ∧ d i ≤ 64 ∧ (n ≤ i → d i = 0))
def goodD (d : Nat → Int) (n : Int) : Bool := (List.range 7).all (goodAt d n)
theorem goodD_no {d : Nat → Int} {n : Int} (j : Nat) (hj : j < 7) (h : ¬ (0 ≤ d j ∧ d j ≤ 64 ∧ (n ≤ j → d j = 0))) : goodD d n = false := by
  rw [goodD, List.all_eq_false]
  exact ⟨j, by simpa using hj, by unfold goodAt; simpa only [decide_eq_true_eq] using h⟩
theorem goodD_yes {d : Nat → Int} {n : Int} (h : ∀ i, i < 7 → 0 ≤ d i ∧ d i ≤ 64 ∧ (n ≤ i → d i = 0)) : goodD d n = true := by
  rw [goodD, List.all_eq_true]
  intro i hi
  unfold goodAt
  rw [decide_eq_true_eq]
  exact h i (by simpa using hi)
set_option maxHeartbeats 1000000 in
theorem good_any (d : Nat → Int) (n : Int) : Ans Tryd.prog 74 #[.agg (DV d), .int .i64 n] (.bool (goodD d n)) := by
  intro w
  go_enter Tryd.func74, Tryd.ntmps74
  go_wp2
  go_loop [8] (fun i => ∃ j : Nat, j ≤ 7 ∧ i = .int .i64 j ∧ Hid (∀ k, k < j → 0 ≤ d k ∧ d k ≤ 64 ∧ (n ≤ k → d k = 0))) (fun i => 7 - (intOf i).toNat)
  case atStart => exact ⟨0, by omega, rfl, fun k hk => by omega⟩
  case round =>
    obtain ⟨j, hj, rfl, hG⟩ := hrel
    by_cases hlt : j < 7
    · have hno := @goodD_no d n j hlt
      have Hno := Lib.hid hno; clear hno
      by_cases hz : d j = 0
      · have hz' : (d j != 0) = false := by simp [hz]
        have Hz := Lib.hid hz; clear hz
        go_wp2
        all_goals first
          | (go_ret
             refine ⟨?_, (Below.refl _ _).alloc (Nat.le_refl _) _⟩
             exact congrArg (fun b => Ending.returned (.bool b)) (Hno.out (by omega)).symm)
          | (go_round
             case rel =>
               refine ⟨j + 1, by omega, by go_num, fun k hk => ?_⟩
               by_cases e : k = j
               · subst e; exact ⟨by omega, by omega, fun _ => Hz.out⟩
               · exact hG k (by omega)
             case measure => simp [intOf]; omega)
      · have hz' : (d j != 0) = true := by simp [hz]
        go_wp2
        all_goals first
          | (go_ret
             refine ⟨?_, (Below.refl _ _).alloc (Nat.le_refl _) _⟩
             exact congrArg (fun b => Ending.returned (.bool b)) (Hno.out (by omega)).symm)
          | (go_round
             case rel =>
               refine ⟨j + 1, by omega, by go_num, fun k hk => ?_⟩
               by_cases e : k = j
               · subst e; omega
               · exact hG k (by omega)
             case measure => simp [intOf]; omega)
    · obtain rfl : j = 7 := by omega
      have hy := goodD_yes hG
      have Hy := Lib.hid hy; clear hy
      go_wp2
      go_ret
      exact ⟨congrArg (fun b => Ending.returned (.bool b)) Hy.out.symm, (Below.refl _ _).alloc (Nat.le_refl _) _⟩
end Go.Proofs.YtfgacjglfdehbaaDoor
/- Layers 2, 3, 5: whether items, ballots, calls can be. -/
namespace Go.Proofs.YtfgacjglfdehbaaDoor
open Go.RowKit
set_option linter.unusedVariables false
attribute [local go_sem] row_alloc row_drew row_drewN row_ext row_setCell row_setRow size_ext setRow_alloc setRow_drew loadOf storeOf piece_lit loadVal_at storeVal_at allOne_lit buildOf buildRes_some
attribute [local go_sem high] cell_alloc frozen_alloc setCell_alloc cell_ext frozen_ext cell_setRow frozen_setRow
attribute [local go_sem ↓] TDeed_ld0 TDeed_st0 TDeed_fd0 TDeed_bd0
attribute [local go_sem] TDeed_size TDeed_one TDeed_piece TDeed_c0 TDeed_c1 TDeed_c2 TDeed_c3 TDeed_c4 TDeed_c5 TDeed_set_kind TDeed_set_key TDeed_set_val TDeed_set_ver TDeed_set_ses TDeed_set_num TDeed_ld TDeed_st TDeed_f_kind TDeed_f_key TDeed_f_val TDeed_f_ver TDeed_f_ses TDeed_f_num TDeed_bd TDeed_fl TDeed_fl_kind TDeed_fl_key TDeed_fl_val TDeed_fl_ver TDeed_fl_ses TDeed_fl_num
attribute [local go_sem high] TDeed_eql TDeed_neq
attribute [local go_sem ↓] index_deps0 load_deps0 store_deps0
attribute [local go_sem] DV_piece DV_size DV_one index_deps load_deps store_deps
attribute [local go_sem high] TDeps_eql TDeps_neq
attribute [local go_sem ↓] TCall_ld0 TCall_st0 TCall_fd0 TCall_bd0
attribute [local go_sem] TCall_size TCall_one TCall_piece TCall_c0 TCall_c1 TCall_c2 TCall_c3 TCall_c4 TCall_c5 TCall_c6 TCall_c7 TCall_c8 TCall_c9 TCall_c10 TCall_c11 TCall_c12 TCall_c13 TCall_p_deed TCall_put_deed TCall_p_deps TCall_put_deps TCall_set_seq TCall_ld TCall_st TCall_f_deed TCall_f_deps TCall_f_seq TCall_bd TCall_fl TCall_fl_deed TCall_fl_deps TCall_fl_seq
attribute [local go_sem high] TCall_eql TCall_neq
attribute [local go_sem ↓] TItem_ld0 TItem_st0 TItem_fd0 TItem_bd0
attribute [local go_sem] TItem_size TItem_one TItem_piece TItem_c0 TItem_c1 TItem_set_rep TItem_set_num TItem_ld TItem_st TItem_f_rep TItem_f_num TItem_bd TItem_fl TItem_fl_rep TItem_fl_num
attribute [local go_sem high] TItem_eql TItem_neq
attribute [local go_sem ↓] TBallot_ld0 TBallot_st0 TBallot_fd0 TBallot_bd0
attribute [local go_sem] TBallot_size TBallot_one TBallot_piece TBallot_c0 TBallot_c1 TBallot_set_round TBallot_set_rep TBallot_ld TBallot_st TBallot_f_round TBallot_f_rep TBallot_bd TBallot_fl TBallot_fl_round TBallot_fl_rep
attribute [local go_sem high] TBallot_eql TBallot_neq
def goodC (c : Call) (n : Int) : Bool := goodB c.deed && goodD c.deps n && decide (0 ≤ c.seq) && decide (c.seq ≤ 1099511627776)
def goodI (x : Item) (n : Int) : Bool := decide (0 ≤ x.rep ∧ x.rep < n ∧ 1 ≤ x.num ∧ x.num ≤ 64)
def goodBal (b : Ballot) (n : Int) : Bool := decide (0 ≤ b.round ∧ b.round ≤ 1099511627776 ∧ 0 ≤ b.rep ∧ b.rep < n)
set_option maxHeartbeats 1000000 in
theorem itemGood_any (x : Item) (n : Int) : Ans Tryd.prog 46 #[.agg (IV x), .int .i64 n] (.bool (goodI x n)) := by
  intro w
  go_enter Tryd.func46, Tryd.ntmps46
  go_wp2
  all_goals
    go_ret
    refine ⟨congrArg (fun b => Ending.returned (.bool b)) ?_, (Below.refl _ _).alloc (Nat.le_refl _) _⟩
    rw [Bool.eq_iff_iff]; simp [goodI]; omega
set_option maxHeartbeats 1000000 in
theorem balGood_any (b : Ballot) (n : Int) : Ans Tryd.prog 47 #[.agg (BV b), .int .i64 n] (.bool (goodBal b n)) := by
  intro w
  go_enter Tryd.func47, Tryd.ntmps47
  go_wp2
  all_goals
    go_ret
    refine ⟨congrArg (fun b => Ending.returned (.bool b)) ?_, (Below.refl _ _).alloc (Nat.le_refl _) _⟩
    rw [Bool.eq_iff_iff]; simp [goodBal]; omega
set_option maxHeartbeats 1000000 in
theorem goodCall_any (c : Call) (n : Int) : Ans Tryd.prog 48 #[.agg (CV c), .int .i64 n] (.bool (goodC c n)) := by
  refine Ans.of_sts fun w => ?_
  have T := (Sts.start0 w).new (CV c) 32
  have c1 := good4_any c.deed
  have c2 := good_any c.deps n
  have hr := T.row
  have hg : goodC c n = (goodB c.deed && goodD c.deps n && decide (0 ≤ c.seq) && decide (c.seq ≤ 1099511627776)) := rfl
  cases h1 : goodB c.deed
  · rw [h1] at c1 hg
    have C1 := Lib.hid c1; have HG := Lib.hid hg; clear c1 c2 hg h1
    go_enter Tryd.func48, Tryd.ntmps48
    go_wp2_with fail
    refine (Ans.at C1.out T).mono ?_; clear T hr; rintro e w1 ⟨rfl, T⟩
    go_wp2
    go_ret
    exact ⟨by rw [HG.out]; rfl, T.nil⟩
  · rw [h1] at c1 hg
    cases h2 : goodD c.deps n
    · rw [h2] at c2 hg
      have C1 := Lib.hid c1; have C2 := Lib.hid c2; have HG := Lib.hid hg; clear c1 c2 hg h1 h2
      go_enter Tryd.func48, Tryd.ntmps48
      go_wp2_with fail
      refine (Ans.at C1.out T).mono ?_; clear T hr; rintro e w1 ⟨rfl, T⟩
      have hr := T.row
      go_wp2_with fail
      refine (Ans.at C2.out T).mono ?_; clear T hr; rintro e w2 ⟨rfl, T⟩
      go_wp2
      go_ret
      exact ⟨by rw [HG.out]; rfl, T.nil⟩
    · rw [h2] at c2 hg
      have C1 := Lib.hid c1; have C2 := Lib.hid c2; have HG := Lib.hid hg; clear c1 c2 hg h1 h2
      by_cases h3 : 0 ≤ c.seq
      · go_enter Tryd.func48, Tryd.ntmps48
        go_wp2_with fail
        refine (Ans.at C1.out T).mono ?_; clear T hr; rintro e w1 ⟨rfl, T⟩
        have hr := T.row
        go_wp2_with fail
        refine (Ans.at C2.out T).mono ?_; clear T hr; rintro e w2 ⟨rfl, T⟩
        have hr := row_cell T.row
        go_wp2
        all_goals go_ret
        all_goals exact ⟨by rw [HG.out]; simp_all, T.nil⟩
      · go_enter Tryd.func48, Tryd.ntmps48
        go_wp2_with fail
        refine (Ans.at C1.out T).mono ?_; clear T hr; rintro e w1 ⟨rfl, T⟩
        have hr := T.row
        go_wp2_with fail
        refine (Ans.at C2.out T).mono ?_; clear T hr; rintro e w2 ⟨rfl, T⟩
        have hr := row_cell T.row
        go_wp2
        go_ret
        exact ⟨by rw [HG.out]; simp; omega, T.nil⟩
end Go.Proofs.YtfgacjglfdehbaaDoor
/- Layer 3: what is known of items, by their places, as a thing in memory. -/
namespace Go.Proofs.YtfgacjglfdehbaaDoor
open Go.RowKit
set_option linter.unusedVariables false
/-- Rows: of so many replicas; each replica's, by numbers. -/
structure RowsM where
  n : Int
  f : Nat → List (Option Inst)
def rcells (n : Int) (v h : Nat → Value) : Array Value := #[.int .i64 n, v 0, v 1, v 2, v 3, v 4, v 5, v 6, h 0, h 1, h 2, h 3, h 4, h 5, h 6]
section
variable (n : Int) (v h : Nat → Value) (k : Nat) (x : Value)
theorem rcells_n : (rcells n v h)[0]? = some (.int .i64 n) := rfl
theorem rcells_v (hk : k < 7) : (rcells n v h)[1 + k]? = some (v k) := by
  match k, hk with
  | 0, _ => rfl
  | 1, _ => rfl
  | 2, _ => rfl
  | 3, _ => rfl
  | 4, _ => rfl
  | 5, _ => rfl
  | 6, _ => rfl
theorem rcells_h (hk : k < 7) : (rcells n v h)[8 + k]? = some (h k) := by
  match k, hk with
  | 0, _ => rfl
  | 1, _ => rfl
  | 2, _ => rfl
  | 3, _ => rfl
  | 4, _ => rfl
  | 5, _ => rfl
  | 6, _ => rfl
theorem rcells_setv (hk : k < 7) : (rcells n v h).setIfInBounds (1 + k) x = rcells n (updF v k x) h := by
  match k, hk with
  | 0, _ => simp [rcells, updF]
  | 1, _ => simp [rcells, updF]
  | 2, _ => simp [rcells, updF]
  | 3, _ => simp [rcells, updF]
  | 4, _ => simp [rcells, updF]
  | 5, _ => simp [rcells, updF]
  | 6, _ => simp [rcells, updF]
theorem rcells_seth (hk : k < 7) : (rcells n v h).setIfInBounds (8 + k) x = rcells n v (updF h k x) := by
  match k, hk with
  | 0, _ => simp [rcells, updF]
  | 1, _ => simp [rcells, updF]
  | 2, _ => simp [rcells, updF]
  | 3, _ => simp [rcells, updF]
  | 4, _ => simp [rcells, updF]
  | 5, _ => simp [rcells, updF]
  | 6, _ => simp [rcells, updF]
end
def NVo (o : Option Inst) : Array Value := NV (o.getD noInst)
def HVo (o : Option Inst) : Array Value := #[.bool o.isSome]
theorem NVo_size (o : Option Inst) : (NVo o).size = 20 := rfl
theorem HVo_size (o : Option Inst) : (HVo o).size = 1 := rfl
def instsR (v : Value) (l : List (Option Inst)) : Res := vecR 46 20 v l.length (vl NVo l)
def bitsR (h : Value) (l : List (Option Inst)) : Res := vecR 4 1 h l.length (vl HVo l)
def pairR (f : Nat → List (Option Inst)) (v h : Nat → Value) (i : Nat) : Res := starR (instsR (v i) (f i)) (bitsR (h i) (f i))
/-- The other replicas' rows. -/
def othersR (f : Nat → List (Option Inst)) (v h : Nat → Value) (k : Nat) : Res := packR (((List.range 7).erase k).map (pairR f v h))
/-- The rows in block g. -/
def rowsIR (g : Nat) (m : RowsM) : Res := exR fun q : (Nat → Value) × (Nat → Value) => packR (rowR g (rcells m.n q.1 q.2) :: (List.range 7).map (pairR m.f q.1 q.2))
section
variable {w W : World} {F : Nat → Prop} {R : List Res} {g : Nat} {m : RowsM}
theorem Sts.rowsOpen (T : Sts w F W (rowsIR g m :: R)) {k : Nat} (hk : k < 7) : ∃ v h, Sts w F W (rowR g (rcells m.n v h) :: instsR (v k) (m.f k) :: bitsR (h k) (m.f k) :: othersR m.f v h k :: R) := by
  obtain ⟨⟨v, h⟩, T⟩ := T.open
  have T := T.unpack
  have T : Sts w F W (((pairR m.f v h k :: ((List.range 7).erase k).map (pairR m.f v h)) ++ (rowR g (rcells m.n v h) :: R))) :=
    T.perm (((row_take (pairR m.f v h) hk).append_right R).cons (rowR g (rcells m.n v h)) |>.trans (List.perm_middle.symm))
  have T : Sts w F W ((((List.range 7).erase k).map (pairR m.f v h)) ++ (pairR m.f v h k :: rowR g (rcells m.n v h) :: R)) := T.perm (List.perm_middle.symm)
  have T := T.pack
  have T := T.swap.split
  exact ⟨v, h, T.perm (by
    show (instsR (v k) (m.f k) :: bitsR (h k) (m.f k) :: packR _ :: rowR g _ :: R).Perm _
    exact ((List.Perm.cons _ ((List.Perm.cons _ (.swap ..)).trans (.swap ..))).trans (.swap ..)))⟩
theorem Sts.rowsShut {v h : Nat → Value} {k : Nat} (hk : k < 7) (T : Sts w F W (rowR g (rcells m.n v h) :: instsR (v k) (m.f k) :: bitsR (h k) (m.f k) :: othersR m.f v h k :: R)) : Sts w F W (rowsIR g m :: R) := by
  have T := T.perm ((List.Perm.swap ..).trans (List.Perm.cons _ ((List.Perm.swap ..).trans (List.Perm.cons _ (.swap ..)))))
  -- insts, bits, others, row
  have T := T.join.swap
  have T := T.unpack
  have T : Sts w F W (pairR m.f v h k :: rowR g (rcells m.n v h) :: (((List.range 7).erase k).map (pairR m.f v h) ++ R)) :=
    T.perm (List.perm_middle.trans (List.Perm.cons _ List.perm_middle))
  have T : Sts w F W ((rowR g (rcells m.n v h) :: (List.range 7).map (pairR m.f v h)) ++ R) :=
    T.perm ((List.Perm.swap ..).trans (List.Perm.cons _ ((row_take (pairR m.f v h) hk).symm.append_right R)))
  exact T.pack.close (v, h)
end
/-- What is known of an item. -/
noncomputable def getM (m : RowsM) (x : Item) : Option Inst := if goodI x m.n = true then ((m.f x.rep.toNat)[x.num.toNat - 1]?).join else none
/-- A row with something at a place. -/
def putL (l : List (Option Inst)) (i : Nat) (t : Inst) : List (Option Inst) := (l ++ List.replicate (i + 1 - l.length) none).set i (some t)
/-- So much is added as is wanted. -/
theorem putL_of {l0 l : List (Option Inst)} {j p : Nat} (t : Inst) (h : l = l0 ++ List.replicate p none) (hp : p = 0 ∨ l.length ≤ j + 1) (hj : j + 1 ≤ l.length) : putL l0 j t = l.set j (some t) := by
  unfold putL
  have hl : l.length = l0.length + p := by rw [h, List.length_append, List.length_replicate]
  have e : j + 1 - l0.length = p := by omega
  rw [e, h]
noncomputable def setM (m : RowsM) (x : Item) (t : Inst) : RowsM := if goodI x m.n = true then { m with f := updF m.f x.rep.toNat (putL (m.f x.rep.toNat) (x.num.toNat - 1) t) } else m
end Go.Proofs.YtfgacjglfdehbaaDoor
/- A slice of wide things that came in: its cells, its loads. Nothing of the program stands here. -/
namespace Go.Proofs.YtfgacjglfdehbaaDoor
open Go.ChangeShapes Go.WideShapes Go.ChangeAt Go.RowKit Go.WideMaps Go.WideElems Go.Joins Go.Deep
set_option linter.unusedVariables false
/-- The slice with this address holds these things, each of n cells. -/
structure RowsIn {α : Type} (w : World) (A : Option Addr) (n : Nat) (V : α → Array Value) (l : List α) : Prop where
  nil : A = none → l = []
  cell : ∀ a, A = some a → ∀ j (h : j < l.length) i v, (V l[j])[i]? = some v → w.cell? ((a.add (j * n)).add i) = some v
  len : l.length ≤ 9223372036854775807
theorem add_blk (a : Addr) (j : Nat) : (a.add j).block = a.block := by unfold Addr.add; split <;> rfl
section
variable {α : Type} {w W : World} {A : Option Addr} {n : Nat} {V : α → Array Value} {l : List α} {P : Program} {T : TypeId} {d : TypeDesc} {a : Addr} {j : Nat}
theorem loadAt_cells (W : World) (a : Addr) (X : Array Value) (hc : ∀ i v, X[i]? = some v → W.cell? (a.add i) = some v) (hu : P.underlying T = some d) (hd : d.isRow = true) (hi : (P.info? T).map (·.size) = some X.size) :
    (Instr.loadAt T (.pointer (some a))).run P W = .ok (.agg X) W := by
  have hl : (loadCells a X.size).run P W = .ok X W := by
    have := run_loadCells_list (P := P) (w := W) a X.toList (fun j v hv => hc j v (by simpa using hv))
    simpa using this
  cases hq : P.info? T with
  | none => simp [hq] at hi
  | some i =>
    have hs : i.size = X.size := by simpa [hq] using hi
    have hagg : (isAgg T).run P W = .ok true W := by
      unfold isAgg
      rw [Sem.run_bind, run_underlying hu W]
      cases d <;> simp_all
    simp [Instr.loadAt, Instr.sureAddr, loadVar, Sem.run_bind, hagg, sizeOf, typeInfo, hq, hs, hl]
theorem RowsIn.load (h : RowsIn w A n V l) (hV : ∀ x, (V x).size = n) (hu : P.underlying T = some d) (hd : d.isRow = true) (hi : (P.info? T).map (·.size) = some n) (hb : Below w.heap.size w W) (hA : A = some a) (hj : j < l.length) :
    loadVal P T n W (.pointer (some (a.add (j * n)))) = .ok (.agg (V l[j])) W := by
  rw [← load_val hu hd hi]
  refine loadAt_cells W _ _ (fun i v hv => ?_) hu hd (by rw [hi, hV])
  have hc := h.cell a hA j hj i v hv
  exact (hb.cell (World.block_lt_of_cell? w _ hc)).trans hc
theorem RowsIn.block (h : RowsIn w A n V l) (hV : ∀ x, (V x).size = n) (hn : 0 < n) (hA : A = some a) (hj : j < l.length) : a.block < w.heap.size := by
  have hc := h.cell a hA j hj 0 ((V l[j])[0]'(by rw [hV]; exact hn)) (by rw [Array.getElem?_eq_getElem])
  have := World.block_lt_of_cell? w _ hc
  rwa [add_blk, add_blk] at this
end
theorem weigh_mem {H : Type} {P : Program} {e : TypeId} {d : DataW H} {m : Nat} : ∀ {ds : List (DataW H)}, d ∈ ds → m ∈ d.weights P e → m ∈ DataW.weightsAll P e ds
  | x :: ds, h, hm => by
    simp only [DataW.weightsAll, List.mem_append]
    rcases List.mem_cons.1 h with rfl | h
    · exact .inl hm
    · exact .inr (weigh_mem h hm)
theorem choose_list {α : Type} {p : Nat → α → Prop} : ∀ (n : Nat), (∀ i, i < n → ∃ x, p i x) → ∃ l : List α, l.length = n ∧ ∀ i (h : i < l.length), p i l[i]
  | 0, _ => ⟨[], rfl, fun i h => by simp at h⟩
  | n + 1, h => by
    obtain ⟨l, hl, hp⟩ := choose_list n fun i hi => h i (by omega)
    obtain ⟨x, hx⟩ := h n (by omega)
    refine ⟨l ++ [x], by simp [hl], fun i hi => ?_⟩
    rw [List.length_append, List.length_singleton] at hi
    by_cases hin : i < l.length
    · rw [List.getElem_append_left hin]; exact hp i hin
    · have : i = l.length := by omega
      subst this
      rw [List.getElem_append_right (by omega)]
      simpa [hl] using hx
theorem open_rowsIn {α : Type} {V : α → Array Value} {Fit : α → Prop} {H : Type} {enc : TypeId × Value → H} {P : Program} {w : World} {base : Nat} {sp : Nat → Bool} {held : Bool} {r : Reach} {b0 : Nat} {v : Value} {d : DataW H} {p : List MemPlace} {t e : TypeId} {n : Nat}
    (ht : P.underlying t = some (.slice e)) (hn : P.cellsOf e = n)
    (each : ∀ (fuel : Nat) (cs : List Value) (x : DataW H × List MemPlace), DataW.trod enc P w base sp held fuel e cs = some x → (∀ m ∈ x.1.weights P e, m ≤ reachBytes) → ∃ X : α, cs = (V X).toList ∧ Fit X)
    (hv : Value.okWide P w r b0 t v) (h : DataW.Trod enc P w base sp held t v d p) (hw : ∀ m ∈ d.weights P t, m ≤ reachBytes) :
    ∃ A l c, v = .slice A (List.length l) c ∧ RowsIn w A n V l ∧ ∀ x ∈ l, Fit x := by
  obtain ⟨fuel, hf⟩ := h
  rcases open_slice ht hf with ⟨hcs, hx⟩ | ⟨a, len, cap, m, k, D, Pl, hcs, _, hlc, hcm, hm, hx, hel⟩
  · have hv1 : v = .slice none 0 0 := by
      cases v <;> simp [Value.okWide, Cell.okWide, Cell.ok, ht] at hv <;> simp_all [Value.cells]
    exact ⟨none, [], 0, hv1, ⟨fun _ => rfl, fun a ha => (by cases ha), by simp⟩, fun s hs => (by cases hs)⟩
  · have hv1 : v = .slice (some a) len cap := by
      cases v <;> simp [Value.okWide, Cell.okWide, Cell.ok, ht] at hv <;> simp_all [Value.cells]
    have hle : len ≤ m := by rw [hm]; split <;> omega
    injection hx with hx1 hx2
    obtain ⟨l, hl, hp⟩ := choose_list (p := fun i X => Fit X ∧ ∀ q v, (V X)[q]? = some v → w.cell? ((a.add (i * n)).add q) = some v) len fun i hi => by
      obtain ⟨cs', h1, h2⟩ := hel i (by omega)
      obtain ⟨X, e1, e2⟩ := each k cs' _ h2 fun q hq => hw q (by
        rw [hx1]; simp only [DataW.weights, ht]
        exact List.mem_cons_of_mem _ (List.mem_append_left _ (weigh_mem (List.mem_map_of_mem (List.mem_range.2 hi)) hq)))
      refine ⟨X, e2, fun q v hq => ?_⟩
      rw [hn] at h1
      obtain ⟨_, hlen, hcell⟩ := World.cells?_some h1
      have hq2 : q < (V X).size := (Array.getElem?_eq_some_iff.1 hq).1
      have hlen2 : cs'.length = (V X).size := by rw [e1]; simp
      rw [hcell q (by omega), e1]
      simpa using hq
    refine ⟨some a, l, cap, by rw [hl]; exact hv1, ⟨fun ha => (by cases ha), fun a' ha j hj i v hi => ?_, ?_⟩, fun x hx => ?_⟩
    · injection ha with ha; subst ha
      exact (hp j hj).2 i v hi
    · have : maxLen = 9223372036854775807 := rfl
      omega
    · obtain ⟨i, hi, rfl⟩ := List.mem_iff_getElem.1 hx
      exact (hp i hi).1
end Go.Proofs.YtfgacjglfdehbaaDoor
/- Slices of the call's own, read like such that came in. Nothing of the program stands here. -/
namespace Go.Proofs.YtfgacjglfdehbaaDoor
open Go.RowKit
set_option linter.unusedVariables false
theorem add_none (b o j : Nat) : (⟨b, o, none⟩ : Addr).add j = ⟨b, o + j, none⟩ := by unfold Addr.add; split <;> simp_all
/-- A slice of the call's own lies like one that came in. -/
theorem vec_rows {α : Type} {V : α → Array Value} {size : Nat} (hV : ∀ x, (V x).size = size) {e : TypeId} {v : Value} {l : List α} {w W : World} {F : Nat → Prop} {R : List Res} (T : Sts w F W (vecR e size v l.length (vl V l) :: R)) (h0 : 0 < size) (hl : l.length ≤ 9223372036854775807) :
    ∃ A c, v = .slice A l.length c ∧ RowsIn W A size V l ∧ l.length ≤ c ∧ ∀ a, A = some a → ∃ g, a = ⟨g, 0, none⟩ := by
  have hown := T.vec
  rcases hown.2 with ⟨rfl, h⟩ | ⟨g, cap, cur, rfl, _, hg, hn, hm, hc, ht⟩
  · have : l = [] := List.eq_nil_of_length_eq_zero (by omega)
    subst this
    exact ⟨none, 0, rfl, ⟨fun _ => rfl, fun a ha => (by cases ha), by simp⟩, Nat.le_refl _, fun a ha => (by cases ha)⟩
  · refine ⟨some ⟨g, 0, none⟩, cap, rfl, ⟨fun ha => (by cases ha), fun a ha j hj i u hu => ?_, hl⟩, hn, fun a ha => by injection ha with ha; exact ⟨g, ha.symm⟩⟩
    injection ha with ha; subst ha
    obtain ⟨g', c', hv, _, hcell⟩ := vec_cell hV T h0 hj
    injection hv with e1
    injection e1 with e1
    injection e1 with e1
    subst e1
    have := hcell i u hu
    rw [add_none, add_none, Nat.zero_add]
    exact this
section
variable {α : Type} {w W : World} {n : Nat} {V : α → Array Value} {l : List α} {P : Program} {T : TypeId} {d : TypeDesc} {g j : Nat}
/-- A part of a thing of such a slice, loaded whole. -/
theorem RowsIn.part (h : RowsIn w (some ⟨g, 0, none⟩) n V l) (hb : Below w.heap.size w W) (hj : j < l.length) (o m : Nat) (X : Array Value) (hX : ∀ i v, X[i]? = some v → (V l[j])[o + i]? = some v) (hm : X.size = m) (hu : P.underlying T = some d) (hd : d.isRow = true) (hi : (P.info? T).map (·.size) = some m) :
    loadOf P T m W g (j * n + o) = .ok (.agg X) W := by
  rw [← loadVal_at, ← load_val hu hd hi]
  refine loadAt_cells W _ _ (fun i v hv => ?_) hu hd (by rw [hi, hm])
  have hc := h.cell _ rfl j hj (o + i) v (hX i v hv)
  rw [add_none, add_none, Nat.zero_add] at hc
  rw [add_none, Nat.add_assoc]
  exact (hb.cell (World.block_lt_of_cell? w _ hc)).trans hc
/-- A cell of a thing of such a slice. -/
theorem RowsIn.one (h : RowsIn w (some ⟨g, 0, none⟩) n V l) (hb : Below w.heap.size w W) (hj : j < l.length) (o : Nat) (v : Value) (hv : (V l[j])[o]? = some v) : W.cell? ⟨g, j * n + o, none⟩ = some v := by
  have hc := h.cell _ rfl j hj o v hv
  rw [add_none, add_none, Nat.zero_add] at hc
  exact (hb.cell (World.block_lt_of_cell? w _ hc)).trans hc
end
theorem RowsIn.later {α : Type} {w W : World} {A : Option Addr} {n : Nat} {V : α → Array Value} {l : List α} (h : RowsIn w A n V l) (hb : Below w.heap.size w W) : RowsIn W A n V l :=
  ⟨h.nil, fun a ha j hj i v hv => (hb.cell (World.block_lt_of_cell? w _ (h.cell a ha j hj i v hv))).trans (h.cell a ha j hj i v hv), h.len⟩
theorem vec_shape2 {e : TypeId} {size n : Nat} {v : Value} {xs : List Value} {w W : World} {F : Nat → Prop} {R : List Res} (T : Sts w F W (vecR e size v n xs :: R)) : ∃ A c, v = .slice A n c := by
  rcases T.vec.2 with ⟨rfl, rfl⟩ | ⟨g, cap, cur, rfl, _⟩
  · exact ⟨_, _, rfl⟩
  · exact ⟨_, _, rfl⟩
end Go.Proofs.YtfgacjglfdehbaaDoor
