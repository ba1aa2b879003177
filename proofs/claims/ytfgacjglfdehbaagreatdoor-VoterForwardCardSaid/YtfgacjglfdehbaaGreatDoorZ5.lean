/- Several texts in one. -/
import Derived.Test.YtfgacjglfdehbaaGreatDoorZ1
import Derived.Test.YtfgacjglfdehbaaGreatDoorZ4
import Derived.Test.YtfgacjglfdehbaaGreatDoorZ2
import Derived.Test.YtfgacjglfdehbaaGreatDoorZ3
import Derived.Deep.AppendLies
import Derived.Deep.RegionHeld3
import Derived.ChangeKeysEq
/- What comes in as Call. Printed by types.py. -/
namespace Go.Proofs.YtfgacjglfdehbaaGreatDoor
open Go.ChangeShapes Go.WideShapes Go.ChangeAt Go.RowKit Go.WideMaps Go.WideElems Go.Joins
open Go.ChangeMaps (open_string)
set_option linter.unusedVariables false
set_option maxRecDepth 20000
structure CallFits (x : Call) : Prop where
  deed : DeedFits x.deed
  deps : ∀ i, i < 7 → Fits (x.deps i)
  seq : Fits x.seq
section
variable {H : Type} {enc : TypeId × Value → H} {w : World} {base : Nat} {sp : Nat → Bool} {held : Bool} {r : Reach} {b0 : Nat} {v : Value} {d : DataW H} {p : List MemPlace}
theorem trod_Call {fuel : Nat} {cs : List Value} {x : DataW H × List MemPlace} (h : DataW.trod enc Tryz.prog w base sp held fuel 40 cs = some x) (hw : ∀ n ∈ x.1.weights Tryz.prog 40, n ≤ reachBytes) :
    ∃ X : Call, cs = (CV X).toList ∧ CallFits X := by
  obtain ⟨xs, n, _, hx, hlen, hxl, hg⟩ := DataW.trod_struct Tryz.underlying40 h
  have hC : Tryz.prog.cellsOf 40 = 14 := by kernel_rfl
  rw [hC] at hlen
  match xs, hxl with
  | [y0, y1, y2], _ =>
    subst hx
    have c0 : Tryz.prog.cellsOf 36 = 6 := by kernel_rfl
    have g0 : DataW.trod enc Tryz.prog w base sp held n 36 ((cs.drop 0).take (Tryz.prog.cellsOf 36)) = some y0 := hg 0 _ rfl
    rw [c0] at g0
    obtain ⟨n0, e0, w0⟩ := trod_deed g0 (fun m hm => hw m (by simp [DataW.weights, Tryz.underlying40, DataW.weightsEach]; simp_all))
    have c1 : Tryz.prog.cellsOf 38 = 7 := by kernel_rfl
    have g1 : DataW.trod enc Tryz.prog w base sp held n 38 ((cs.drop 6).take (Tryz.prog.cellsOf 38)) = some y1 := hg 1 _ rfl
    rw [c1] at g1
    obtain ⟨n1, e1, w1⟩ := trod_Deps g1
    have c2 : Tryz.prog.cellsOf 3 = 1 := by kernel_rfl
    have g2 : DataW.trod enc Tryz.prog w base sp held n 3 ((cs.drop 13).take (Tryz.prog.cellsOf 3)) = some y2 := hg 2 _ rfl
    rw [c2] at g2
    obtain ⟨n2, e2, f2, w2⟩ := DataW.trod_int Tryz.underlying3 g2
    have ee : cs = (cs.drop 0).take 6 ++ ((cs.drop 6).take 7 ++ ((cs.drop 13).take 1 ++ cs.drop 14)) := by
      exact (List.drop_zero (l := cs)).symm.trans ((seg cs 0 6).trans (congrArg (_ ++ ·) ((seg cs 6 7).trans (congrArg (_ ++ ·) (seg cs 13 1)))))
    rw [e0, e1, e2, List.drop_eq_nil_of_le (by omega)] at ee
    exact ⟨⟨n0, n1, n2⟩, ee, ⟨w0, w1, fits_of w2⟩⟩
end
end Go.Proofs.YtfgacjglfdehbaaGreatDoor
/- What comes in as Msg. Printed by types.py. -/
namespace Go.Proofs.YtfgacjglfdehbaaGreatDoor
open Go.ChangeShapes Go.WideShapes Go.ChangeAt Go.RowKit Go.WideMaps Go.WideElems Go.Joins
open Go.ChangeMaps (open_string)
set_option linter.unusedVariables false
set_option maxRecDepth 100000
structure MsgFits (x : Msg) : Prop where
  kind : Fits x.kind
  frm : Fits x.frm
  to : Fits x.to
  item : ItemFits x.item
  bal : BallotFits x.bal
  vote : BallotFits x.vote
  status : Fits x.status
  call : CallFits x.call
section
variable {H : Type} {enc : TypeId × Value → H} {w : World} {base : Nat} {sp : Nat → Bool} {held : Bool} {r : Reach} {b0 : Nat} {v : Value} {d : DataW H} {p : List MemPlace}
theorem trod_Msg {fuel : Nat} {cs : List Value} {x : DataW H × List MemPlace} (h : DataW.trod enc Tryz.prog w base sp held fuel 42 cs = some x) (hw : ∀ n ∈ x.1.weights Tryz.prog 42, n ≤ reachBytes) :
    ∃ X : Msg, cs = (MV X).toList ∧ MsgFits X := by
  obtain ⟨xs, n, _, hx, hlen, hxl, hg⟩ := DataW.trod_struct Tryz.underlying42 h
  have hC : Tryz.prog.cellsOf 42 = 25 := by kernel_rfl
  rw [hC] at hlen
  match xs, hxl with
  | [y0, y1, y2, y3, y4, y5, y6, y7, y8], _ =>
    subst hx
    have c0 : Tryz.prog.cellsOf 3 = 1 := by kernel_rfl
    have g0 : DataW.trod enc Tryz.prog w base sp held n 3 ((cs.drop 0).take (Tryz.prog.cellsOf 3)) = some y0 := hg 0 _ rfl
    rw [c0] at g0
    obtain ⟨n0, e0, f0, w0⟩ := DataW.trod_int Tryz.underlying3 g0
    have c1 : Tryz.prog.cellsOf 3 = 1 := by kernel_rfl
    have g1 : DataW.trod enc Tryz.prog w base sp held n 3 ((cs.drop 1).take (Tryz.prog.cellsOf 3)) = some y1 := hg 1 _ rfl
    rw [c1] at g1
    obtain ⟨n1, e1, f1, w1⟩ := DataW.trod_int Tryz.underlying3 g1
    have c2 : Tryz.prog.cellsOf 3 = 1 := by kernel_rfl
    have g2 : DataW.trod enc Tryz.prog w base sp held n 3 ((cs.drop 2).take (Tryz.prog.cellsOf 3)) = some y2 := hg 2 _ rfl
    rw [c2] at g2
    obtain ⟨n2, e2, f2, w2⟩ := DataW.trod_int Tryz.underlying3 g2
    have c3 : Tryz.prog.cellsOf 32 = 2 := by kernel_rfl
    have g3 : DataW.trod enc Tryz.prog w base sp held n 32 ((cs.drop 3).take (Tryz.prog.cellsOf 32)) = some y3 := hg 3 _ rfl
    rw [c3] at g3
    obtain ⟨n3, e3, w3⟩ := trod_Item g3
    have c4 : Tryz.prog.cellsOf 34 = 2 := by kernel_rfl
    have g4 : DataW.trod enc Tryz.prog w base sp held n 34 ((cs.drop 5).take (Tryz.prog.cellsOf 34)) = some y4 := hg 4 _ rfl
    rw [c4] at g4
    obtain ⟨n4, e4, w4⟩ := trod_Ballot g4
    have c5 : Tryz.prog.cellsOf 34 = 2 := by kernel_rfl
    have g5 : DataW.trod enc Tryz.prog w base sp held n 34 ((cs.drop 7).take (Tryz.prog.cellsOf 34)) = some y5 := hg 5 _ rfl
    rw [c5] at g5
    obtain ⟨n5, e5, w5⟩ := trod_Ballot g5
    have c6 : Tryz.prog.cellsOf 3 = 1 := by kernel_rfl
    have g6 : DataW.trod enc Tryz.prog w base sp held n 3 ((cs.drop 9).take (Tryz.prog.cellsOf 3)) = some y6 := hg 6 _ rfl
    rw [c6] at g6
    obtain ⟨n6, e6, f6, w6⟩ := DataW.trod_int Tryz.underlying3 g6
    have c7 : Tryz.prog.cellsOf 4 = 1 := by kernel_rfl
    have g7 : DataW.trod enc Tryz.prog w base sp held n 4 ((cs.drop 10).take (Tryz.prog.cellsOf 4)) = some y7 := hg 7 _ rfl
    rw [c7] at g7
    obtain ⟨n7, e7, f7⟩ := DataW.trod_bool Tryz.underlying4 g7
    have c8 : Tryz.prog.cellsOf 40 = 14 := by kernel_rfl
    have g8 : DataW.trod enc Tryz.prog w base sp held n 40 ((cs.drop 11).take (Tryz.prog.cellsOf 40)) = some y8 := hg 8 _ rfl
    rw [c8] at g8
    obtain ⟨n8, e8, w8⟩ := trod_Call g8 (fun m hm => hw m (by simp [DataW.weights, Tryz.underlying42, DataW.weightsEach]; simp_all))
    have ee : cs = (cs.drop 0).take 1 ++ ((cs.drop 1).take 1 ++ ((cs.drop 2).take 1 ++ ((cs.drop 3).take 2 ++ ((cs.drop 5).take 2 ++ ((cs.drop 7).take 2 ++ ((cs.drop 9).take 1 ++ ((cs.drop 10).take 1 ++ ((cs.drop 11).take 14 ++ cs.drop 25)))))))) := by
      exact (List.drop_zero (l := cs)).symm.trans ((seg cs 0 1).trans (congrArg (_ ++ ·) ((seg cs 1 1).trans (congrArg (_ ++ ·) ((seg cs 2 1).trans (congrArg (_ ++ ·) ((seg cs 3 2).trans (congrArg (_ ++ ·) ((seg cs 5 2).trans (congrArg (_ ++ ·) ((seg cs 7 2).trans (congrArg (_ ++ ·) ((seg cs 9 1).trans (congrArg (_ ++ ·) ((seg cs 10 1).trans (congrArg (_ ++ ·) (seg cs 11 14)))))))))))))))))
    rw [e0, e1, e2, e3, e4, e5, e6, e7, e8, List.drop_eq_nil_of_le (by omega)] at ee
    exact ⟨⟨n0, n1, n2, n3, n4, n5, n6, n7, n8⟩, ee, ⟨fits_of w0, fits_of w1, fits_of w2, w3, w4, w5, fits_of w6, w8⟩⟩
end
end Go.Proofs.YtfgacjglfdehbaaGreatDoor
/- Things in memory, many in one; one of a row of them taken out. Nothing of the program stands here. -/
namespace Go.Proofs.YtfgacjglfdehbaaGreatDoor
open Go.RowKit Go.Lib
set_option linter.unusedVariables false
/-- Many things as one. -/
def packR (L : List Res) : Res where
  sat F W := Sat W L F
  stay h hs := hs.stay h
  lt hs := hs.lt
section
variable {w W : World} {F : Nat → Prop} {L R : List Res}
theorem Sts.unpack (h : Sts w F W (packR L :: R)) : Sts w F W (L ++ R) := by
  obtain ⟨⟨G, ⟨A, B, ha, hb, hd, hf⟩, hg⟩, m⟩ := h
  exact ⟨⟨G, (Sat.append (L1 := L) ha hb hd).congr fun k => (hf k).symm, hg⟩, m⟩
theorem Sts.pack (h : Sts w F W (L ++ R)) : Sts w F W (packR L :: R) := by
  obtain ⟨⟨G, hs, hg⟩, m⟩ := h
  obtain ⟨A, B, ha, hb, hd, hf⟩ := Sat.parts (L1 := L) hs
  exact ⟨⟨G, ⟨A, B, ha, hb, hd, hf⟩, hg⟩, m⟩
end
/-- One of a row of things is taken out. -/
theorem row_take (f : Nat → Res) {n k : Nat} (hk : k < n) : ((List.range n).map f).Perm (f k :: ((List.range n).erase k).map f) :=
  (List.perm_cons_erase (List.mem_range.2 hk)).map f
/-- The others stay. -/
theorem row_others {f g : Nat → Res} {n k : Nat} (h : ∀ i, i ≠ k → f i = g i) : ((List.range n).erase k).map f = ((List.range n).erase k).map g :=
  List.map_congr_left fun i hi => h i ((List.nodup_range.mem_erase_iff.1 hi).1)
/-- A function, turned at one place. -/
def updF {α : Type} (f : Nat → α) (k : Nat) (x : α) : Nat → α := fun i => if i = k then x else f i
theorem updF_same {α : Type} (f : Nat → α) (k : Nat) (x : α) : updF f k x k = x := by unfold updF; rw [if_pos rfl]
theorem updF_other {α : Type} (f : Nat → α) {k i : Nat} (x : α) (h : i ≠ k) : updF f k x i = f i := by unfold updF; rw [if_neg h]
end Go.Proofs.YtfgacjglfdehbaaGreatDoor
/- Slices of wide things of the call's own: append in a region that draws its order; their cells and loads. Nothing of the program stands here. -/
namespace Go.Proofs.YtfgacjglfdehbaaGreatDoor
open Go.RowKit
set_option linter.unusedVariables false
/-- The cells of a row of things. -/
def vl {α : Type} (V : α → Array Value) (l : List α) : List Value := (flatV V l).toList
theorem vl_snoc {α : Type} (V : α → Array Value) (l : List α) (x : α) : vl V (l ++ [x]) = vl V l ++ (V x).toList := by
  unfold vl; rw [flatV_append, flatV_one, Array.toList_append]
section
variable {P : Program} {w W : World} {F : Nat → Prop} {R : List Res}
theorem step_append_vec {ops : Array Oper} {o : Oper} {a : Act} {K : Act → World → Prop} {Q : Exit → Act → World → Prop} {E : Prop} (hgd : o.guard = none) (s x : Operand) (t : TypeId)
    (ho : o.op = .call { callee := .builtin .append, args := #[s, x], argTypes := #[t, t] })
    (e : TypeId) (i : TypeInfo) (z : Value) (size bytes : Nat) (ht : P.underlying t = some (.slice e)) (hi : P.info? e = some i) (hz : i.zero = some z)
    (hsize : i.size = size) (hby : i.bytes = bytes) (hzs : z.cells.size = size) (hsz : 0 < size)
    (v : Value) (n : Nat) (xs : List Value) (hs : a.eval s = v) (T : Sts w F W (vecR e size v n xs :: R))
    (ad : Addr) (m c : Nat) (news : List Value) (hx : a.eval x = .slice (some ad) m c) (hl : news.length = m * size) (hnews : ∀ j u, news[j]? = some u → W.cell? (ad.add j) = some u) (h1 : ∀ u ∈ news, u.oneCell' = true)
    (hm : 0 < m) (h63 : n + m ≤ maxLen) (hbytes : (n + m) * bytes ≤ 140737488355328)
    (h : ∀ g cap w', Sts w F w' (vecR e size (.slice (some ⟨g, 0, none⟩) (n + m) cap) (n + m) (xs ++ news) :: R) → K (a.put o.dst (.slice (some ⟨g, 0, none⟩) (n + m) cap)) w') :
    if Region.wanted o (yielded ops a.tmps) = true then Oper.wp P o a W K Q else E := by
  refine step_append_lies W hgd s x t ho 0 e i z size bytes ht hi hz hsize hby hzs hsz v n xs hs T.vec ad m c news hx hl hnews h1 hm h63 hbytes (Nat.zero_le _) W.heap.size rfl ?_
  intro g cap w' hown hg hat hlt
  refine h g cap w' (T.grown hown hg ?_)
  rcases hat with h | h
  · left; rw [h]; rfl
  · right; rw [h]; rfl
/-- What lies in such a slice. -/
theorem vec_cell {α : Type} {V : α → Array Value} {size : Nat} (hV : ∀ x, (V x).size = size) {e : TypeId} {v : Value} {l : List α} (T : Sts w F W (vecR e size v l.length (vl V l) :: R)) (h0 : 0 < size) {j : Nat} (hj : j < l.length) :
    ∃ g c, v = .slice (some ⟨g, 0, none⟩) l.length c ∧ g < W.heap.size ∧ ∀ i u, (V l[j])[i]? = some u → W.cell? ⟨g, j * size + i, none⟩ = some u := by
  have hown := T.vec
  rcases hown.2 with ⟨_, h⟩ | ⟨g, cap, cur, rfl, _, hg, hn, hm, hc, ht⟩
  · omega
  · refine ⟨g, cap, rfl, (Array.getElem?_eq_some_iff.1 hg).1, fun i u hu => ?_⟩
    have hi : i < size := by have := (Array.getElem?_eq_some_iff.1 hu).1; rw [hV] at this; exact this
    have h2 := flatV_get hV l j hj i hi
    rw [hu] at h2
    have h3 : (vl V l)[j * size + i]? = some u := by unfold vl; rw [Array.getElem?_toList]; exact h2
    rw [← ht, List.getElem?_take] at h3
    split at h3
    · rw [cell_of_row W g _ cur e (0, 0) hg]; simpa using h3
    · cases h3
end
end Go.Proofs.YtfgacjglfdehbaaGreatDoor
/- Inst as a value, as cells: its parts, equality, loads, stores, building. Printed by types.py. -/
namespace Go.Proofs.YtfgacjglfdehbaaGreatDoor
open Go.RowKit
set_option linter.unusedVariables false
structure Inst where
  prom : Ballot
  vote : Ballot
  status : Int
  call : Call
  same : Bool
def NV (x : Inst) : Array Value := #[.int .i64 x.prom.round, .int .i64 x.prom.rep, .int .i64 x.vote.round, .int .i64 x.vote.rep, .int .i64 x.status, .int .i64 x.call.deed.kind, .string x.call.deed.key, .string x.call.deed.val, .int .i64 x.call.deed.ver, .int .i64 x.call.deed.ses, .int .i64 x.call.deed.num, .int .i64 (x.call.deps 0), .int .i64 (x.call.deps 1), .int .i64 (x.call.deps 2), .int .i64 (x.call.deps 3), .int .i64 (x.call.deps 4), .int .i64 (x.call.deps 5), .int .i64 (x.call.deps 6), .int .i64 x.call.seq, .bool x.same]
def noInst : Inst := ⟨noBallot, noBallot, 0, noCall, false⟩
section
variable (x y : Inst)
theorem TInst_size : (NV x).size = 20 := rfl
theorem TInst_one : allOne (NV x) = true := by simp [allOne, NV, Value.oneCell']
theorem TInst_piece : piece (NV x) 0 20 = NV x := piece_all _ _ rfl
theorem TInst_c0 : (NV x)[0]? = some (.int .i64 x.prom.round) := rfl
theorem TInst_c1 : (NV x)[1]? = some (.int .i64 x.prom.rep) := rfl
theorem TInst_c2 : (NV x)[2]? = some (.int .i64 x.vote.round) := rfl
theorem TInst_c3 : (NV x)[3]? = some (.int .i64 x.vote.rep) := rfl
theorem TInst_c4 : (NV x)[4]? = some (.int .i64 x.status) := rfl
theorem TInst_c5 : (NV x)[5]? = some (.int .i64 x.call.deed.kind) := rfl
theorem TInst_c6 : (NV x)[6]? = some (.string x.call.deed.key) := rfl
theorem TInst_c7 : (NV x)[7]? = some (.string x.call.deed.val) := rfl
theorem TInst_c8 : (NV x)[8]? = some (.int .i64 x.call.deed.ver) := rfl
theorem TInst_c9 : (NV x)[9]? = some (.int .i64 x.call.deed.ses) := rfl
theorem TInst_c10 : (NV x)[10]? = some (.int .i64 x.call.deed.num) := rfl
theorem TInst_c11 : (NV x)[11]? = some (.int .i64 (x.call.deps 0)) := rfl
theorem TInst_c12 : (NV x)[12]? = some (.int .i64 (x.call.deps 1)) := rfl
theorem TInst_c13 : (NV x)[13]? = some (.int .i64 (x.call.deps 2)) := rfl
theorem TInst_c14 : (NV x)[14]? = some (.int .i64 (x.call.deps 3)) := rfl
theorem TInst_c15 : (NV x)[15]? = some (.int .i64 (x.call.deps 4)) := rfl
theorem TInst_c16 : (NV x)[16]? = some (.int .i64 (x.call.deps 5)) := rfl
theorem TInst_c17 : (NV x)[17]? = some (.int .i64 (x.call.deps 6)) := rfl
theorem TInst_c18 : (NV x)[18]? = some (.int .i64 x.call.seq) := rfl
theorem TInst_c19 : (NV x)[19]? = some (.bool x.same) := rfl
theorem TInst_p_prom : piece (NV x) 0 2 = BV x.prom := by kernel_rfl
theorem TInst_put_prom (v : Ballot) : splice (NV x) 0 (BV v) = NV { x with prom := v } := by kernel_rfl
theorem TInst_p_vote : piece (NV x) 2 2 = BV x.vote := by kernel_rfl
theorem TInst_put_vote (v : Ballot) : splice (NV x) 2 (BV v) = NV { x with vote := v } := by kernel_rfl
theorem TInst_set_status (v : Int) : (NV x).setIfInBounds 4 (.int .i64 v) = NV { x with status := v } := rfl
theorem TInst_p_call : piece (NV x) 5 14 = CV x.call := by kernel_rfl
theorem TInst_put_call (v : Call) : splice (NV x) 5 (CV v) = NV { x with call := v } := by kernel_rfl
theorem TInst_set_same (v : Bool) : (NV x).setIfInBounds 19 (.bool v) = NV { x with same := v } := rfl
theorem TInst_cat : NV x = BV x.prom ++ BV x.vote ++ #[.int .i64 x.status] ++ CV x.call ++ #[.bool x.same] := by kernel_rfl
theorem TInst_ext : NV x = NV y ↔ BV x.prom = BV y.prom ∧ BV x.vote = BV y.vote ∧ x.status = y.status ∧ CV x.call = CV y.call ∧ x.same = y.same := by
  constructor
  · intro h
    refine ⟨?_, ?_, ?_, ?_, ?_⟩
    · have := congrArg (fun c => piece c 0 2) h; simpa only [TInst_p_prom] using this
    · have := congrArg (fun c => piece c 2 2) h; simpa only [TInst_p_vote] using this
    · have := congrArg (·[4]?) h; simpa [TInst_c4, TInst_size] using this
    · have := congrArg (fun c => piece c 5 14) h; simpa only [TInst_p_call] using this
    · have := congrArg (·[19]?) h; simpa [TInst_c19, TInst_size] using this
  · rintro ⟨h0, h1, h2, h3, h4⟩
    rw [TInst_cat x, TInst_cat y, h0, h1, h2, h3, h4]
end
theorem TInst_und : Tryz.prog.underlying 52 = some (.struct (Tryz.prog.fieldsOf 52)) := by kernel_rfl
theorem TInst_eq (d : Nat) (x y : Inst) (w : World) : (Op.equalIn (d + 4) 52 (.agg (NV x)) (.agg (NV y))).run Tryz.prog w = .ok (eqA (NV x) (NV y)) w := by
  refine eq_struct (d := d + 3) (L := [(34, 0, eqA (BV x.prom) (BV y.prom)), (34, 2, eqA (BV x.vote) (BV y.vote)), (3, 4, x.status == y.status), (40, 5, eqA (CV x.call) (CV y.call)), (4, 19, x.same == y.same)]) TInst_und (by kernel_rfl) (by kernel_rfl) ?_ ?_ w
  · simp only [List.forall_mem_cons]
    exact ⟨⟨_, _, fun w => by rw [part_row TBallot_und rfl (by kernel_rfl) (n := 2), TInst_p_prom], fun w => by rw [part_row TBallot_und rfl (by kernel_rfl) (n := 2), TInst_p_prom], fun w => TBallot_eq (d + 1) x.prom y.prom w⟩, ⟨_, _, fun w => by rw [part_row TBallot_und rfl (by kernel_rfl) (n := 2), TInst_p_vote], fun w => by rw [part_row TBallot_und rfl (by kernel_rfl) (n := 2), TInst_p_vote], fun w => TBallot_eq (d + 1) x.vote y.vote w⟩, ⟨_, _, part_cell Tryz.underlying3 rfl (by kernel_rfl) (TInst_c4 x), part_cell Tryz.underlying3 rfl (by kernel_rfl) (TInst_c4 y), fun w => run_equalIn_int w (d + 2) _ _ _ _ _ Tryz.underlying3⟩, ⟨_, _, fun w => by rw [part_row TCall_und rfl (by kernel_rfl) (n := 14), TInst_p_call], fun w => by rw [part_row TCall_und rfl (by kernel_rfl) (n := 14), TInst_p_call], fun w => TCall_eq (d + 0) x.call y.call w⟩, ⟨_, _, part_cell Tryz.underlying4 rfl (by kernel_rfl) (TInst_c19 x), part_cell Tryz.underlying4 rfl (by kernel_rfl) (TInst_c19 y), fun w => run_equalIn_bool' w (d + 2) _ _ _ Tryz.underlying4⟩, by simp⟩
  · refine eqA_of ?_
    rw [TInst_ext]
    simp [eqA_iff]
theorem TInst_eql (x y : Inst) (w : World) : (binOp .eql 52 (.agg (NV x)) (.agg (NV y))).run Tryz.prog w = .ok (.bool (eqA (NV x) (NV y))) w := eql_of (TInst_eq 9996 x y) w
theorem TInst_neq (x y : Inst) (w : World) : (binOp .neq 52 (.agg (NV x)) (.agg (NV y))).run Tryz.prog w = .ok (.bool (!eqA (NV x) (NV y))) w := neq_of (TInst_eq 9996 x y) w
theorem TInst_ld0 (v : Value) : Instr.loadAt 52 v = loadSem 52 v := rfl
theorem TInst_st0 (v u : Value) : Instr.storeAt 52 v u = storeSem 52 v u := rfl
theorem TInst_fd0 (x : Value) (i : Nat) : Instr.field 52 x i = fieldSem 52 x i := rfl
theorem TInst_bd0 (p : Array (Nat × Value)) : Instr.build 52 p = buildS 52 p := rfl
theorem TInst_ld (w : World) (v : Value) : (loadSem 52 v).run Tryz.prog w = loadVal Tryz.prog 52 20 w v := load_val TInst_und rfl (by kernel_rfl) w v
theorem TInst_st (w : World) (v u : Value) : (storeSem 52 v u).run Tryz.prog w = storeVal Tryz.prog 52 20 w v u := store_val (by kernel_rfl) w v u
theorem TInst_f_prom (x : Inst) (w : World) : (fieldSem 52 (.agg (NV x)) 0).run Tryz.prog w = .ok (.agg (BV x.prom)) w := field_of TInst_und (by kernel_rfl) (fun w => by rw [part_row TBallot_und rfl (by kernel_rfl) (n := 2), TInst_p_prom]) w
theorem TInst_f_vote (x : Inst) (w : World) : (fieldSem 52 (.agg (NV x)) 1).run Tryz.prog w = .ok (.agg (BV x.vote)) w := field_of TInst_und (by kernel_rfl) (fun w => by rw [part_row TBallot_und rfl (by kernel_rfl) (n := 2), TInst_p_vote]) w
theorem TInst_f_status (x : Inst) (w : World) : (fieldSem 52 (.agg (NV x)) 2).run Tryz.prog w = .ok (.int .i64 x.status) w := field_of TInst_und (by kernel_rfl) (part_cell Tryz.underlying3 rfl (by kernel_rfl) (TInst_c4 x)) w
theorem TInst_f_call (x : Inst) (w : World) : (fieldSem 52 (.agg (NV x)) 3).run Tryz.prog w = .ok (.agg (CV x.call)) w := field_of TInst_und (by kernel_rfl) (fun w => by rw [part_row TCall_und rfl (by kernel_rfl) (n := 14), TInst_p_call]) w
theorem TInst_f_same (x : Inst) (w : World) : (fieldSem 52 (.agg (NV x)) 4).run Tryz.prog w = .ok (.bool x.same) w := field_of TInst_und (by kernel_rfl) (part_cell Tryz.underlying4 rfl (by kernel_rfl) (TInst_c19 x)) w
def TInst_pl : Nat → Option (Nat × Nat) := fun i => (#[(0, 2), (2, 2), (4, 1), (5, 14), (19, 1)] : Array (Nat × Nat))[i]?
theorem TInst_bd (w : World) (p : Array (Nat × Value)) : (buildS 52 p).run Tryz.prog w = buildOf Tryz.prog 52 TInst_pl (NV noInst) p w := build_struct TInst_und (by kernel_rfl) (fun w => by kernel_rfl) w p
theorem TInst_fl (X : Array Value) : fillS TInst_pl X [] = some X := rfl
theorem TInst_fl_prom (x : Inst) (v : Ballot) (r : List (Nat × Value)) : fillS TInst_pl (NV x) ((0, .agg (BV v)) :: r) = fillS TInst_pl (NV { x with prom := v }) r := by
  show Instr.fill _ _ _ = Instr.fill _ _ _
  rw [fill_cons TInst_pl (NV x) (BV v) 0 0 2 r rfl rfl (by show _ ≤ 20; omega), TInst_put_prom]
theorem TInst_fl_vote (x : Inst) (v : Ballot) (r : List (Nat × Value)) : fillS TInst_pl (NV x) ((1, .agg (BV v)) :: r) = fillS TInst_pl (NV { x with vote := v }) r := by
  show Instr.fill _ _ _ = Instr.fill _ _ _
  rw [fill_cons TInst_pl (NV x) (BV v) 1 2 2 r rfl rfl (by show _ ≤ 20; omega), TInst_put_vote]
theorem TInst_fl_status (x : Inst) (v : Int) (r : List (Nat × Value)) : fillS TInst_pl (NV x) ((2, .int .i64 v) :: r) = fillS TInst_pl (NV { x with status := v }) r := rfl
theorem TInst_fl_call (x : Inst) (v : Call) (r : List (Nat × Value)) : fillS TInst_pl (NV x) ((3, .agg (CV v)) :: r) = fillS TInst_pl (NV { x with call := v }) r := by
  show Instr.fill _ _ _ = Instr.fill _ _ _
  rw [fill_cons TInst_pl (NV x) (CV v) 3 5 14 r rfl rfl (by show _ ≤ 20; omega), TInst_put_call]
theorem TInst_fl_same (x : Inst) (v : Bool) (r : List (Nat × Value)) : fillS TInst_pl (NV x) ((4, .bool v) :: r) = fillS TInst_pl (NV { x with same := v }) r := rfl
end Go.Proofs.YtfgacjglfdehbaaGreatDoor

namespace Go.Proofs.YtfgacjglfdehbaaGreatDoor
open Go.RowKit
attribute [local go_sem] row_alloc row_drew row_drewN row_ext row_setCell row_setRow size_ext setRow_alloc setRow_drew loadOf storeOf piece_lit DV_piece loadVal_at storeVal_at allOne_lit DV_size DV_one
attribute [local go_sem high] cell_alloc frozen_alloc setCell_alloc cell_ext frozen_ext
attribute [local go_sem ↓] index_deps0 load_deps0 store_deps0
attribute [local go_sem] index_deps load_deps store_deps
def goodAt (d : Nat → Int) (n : Int) (i : Nat) : Bool := decide (0 ≤ d i ∧ d i ≤ 64 ∧ (n ≤ i → d i = 0))
def goodD (d : Nat → Int) (n : Int) : Bool := (List.range 7).all (goodAt d n)
theorem goodD_no {d : Nat → Int} {n : Int} (j : Nat) (hj : j < 7) (h : ¬ (0 ≤ d j ∧ d j ≤ 64 ∧ (n ≤ j → d j = 0))) : goodD d n = false := by
  rw [goodD, List.all_eq_false]
  exact ⟨j, by simpa using hj, by unfold goodAt; simpa only [decide_eq_true_eq] using h⟩
theorem goodD_yes {d : Nat → Int} {n : Int} (h : ∀ i, i < 7 → 0 ≤ d i ∧ d i ≤ 64 ∧ (n ≤ i → d i = 0)) : goodD d n = true := by
  rw [goodD, List.all_eq_true]
  intro i hi
  unfold goodAt
  rw [decide_eq_true_eq]
  exact h i (by simpa using hi)
set_option maxHeartbeats 1000000 in
theorem good_any (d : Nat → Int) (n : Int) : Ans Tryz.prog 69 #[.agg (DV d), .int .i64 n] (.bool (goodD d n)) := by
  intro w
  go_enter Tryz.func69, Tryz.ntmps69
  go_wp2
  go_loop [8] (fun i => ∃ j : Nat, j ≤ 7 ∧ i = .int .i64 j ∧ Hid (∀ k, k < j → 0 ≤ d k ∧ d k ≤ 64 ∧ (n ≤ k → d k = 0))) (fun i => 7 - (intOf i).toNat)
  case atStart => exact ⟨0, by omega, rfl, fun k hk => by omega⟩
  case round =>
    obtain ⟨j, hj, rfl, hG⟩ := hrel
    by_cases hlt : j < 7
    · have hno := @goodD_no d n j hlt
      have Hno := Lib.hid hno; clear hno
      by_cases hz : d j = 0
      · have hz' : (d j != 0) = false := by simp [hz]
        have Hz := Lib.hid hz; clear hz
        go_wp2
        all_goals first
          | (go_ret
             refine ⟨?_, (Below.refl _ _).alloc (Nat.le_refl _) _⟩
             exact congrArg (fun b => Ending.returned (.bool b)) (Hno.out (by omega)).symm)
          | (go_round
             case rel =>
               refine ⟨j + 1, by omega, by go_num, fun k hk => ?_⟩
               by_cases e : k = j
               · subst e; exact ⟨by omega, by omega, fun _ => Hz.out⟩
               · exact hG k (by omega)
             case measure => simp [intOf]; omega)
      · have hz' : (d j != 0) = true := by simp [hz]
        go_wp2
        all_goals first
          | (go_ret
             refine ⟨?_, (Below.refl _ _).alloc (Nat.le_refl _) _⟩
             exact congrArg (fun b => Ending.returned (.bool b)) (Hno.out (by omega)).symm)
          | (go_round
             case rel =>
               refine ⟨j + 1, by omega, by go_num, fun k hk => ?_⟩
               by_cases e : k = j
               · subst e; omega
               · exact hG k (by omega)
             case measure => simp [intOf]; omega)
    · obtain rfl : j = 7 := by omega
      have hy := goodD_yes hG
      have Hy := Lib.hid hy; clear hy
      go_wp2
      go_ret
      exact ⟨congrArg (fun b => Ending.returned (.bool b)) Hy.out.symm, (Below.refl _ _).alloc (Nat.le_refl _) _⟩
set_option maxHeartbeats 1000000 in
theorem rgood_any (d : Nat → Int) (n : Int) : Ans Tryz.prog 54 #[.agg (DV d), .int .i64 n] (.bool (goodD d n)) := by
  intro w
  go_enter Tryz.func54, Tryz.ntmps54
  go_wp2
  go_loop [5] (fun i => ∃ j : Nat, j ≤ 7 ∧ i = .int .i64 j ∧ Hid (∀ k, k < j → 0 ≤ d k ∧ d k ≤ 64 ∧ (n ≤ k → d k = 0))) (fun i => 7 - (intOf i).toNat)
  case atStart => exact ⟨0, by omega, rfl, fun k hk => by omega⟩
  case round =>
    obtain ⟨j, hj, rfl, hG⟩ := hrel
    by_cases hlt : j < 7
    · have hno := @goodD_no d n j hlt
      have Hno := Lib.hid hno; clear hno
      have hD := DV_get d j hlt
      by_cases hz : d j = 0
      · have hz' : (d j != 0) = false := by simp [hz]
        have Hz := Lib.hid hz; clear hz
        go_wp2
        all_goals first
          | (go_ret
             refine ⟨?_, (Below.refl _ _).alloc (Nat.le_refl _) _⟩
             exact congrArg (fun b => Ending.returned (.bool b)) (Hno.out (by omega)).symm)
          | (go_round
             case rel =>
               refine ⟨j + 1, by omega, by go_num, fun k hk => ?_⟩
               by_cases e : k = j
               · subst e; exact ⟨by omega, by omega, fun _ => Hz.out⟩
               · exact hG k (by omega)
             case measure => simp [intOf]; omega)
      · have hz' : (d j != 0) = true := by simp [hz]
        go_wp2
        all_goals first
          | (go_ret
             refine ⟨?_, (Below.refl _ _).alloc (Nat.le_refl _) _⟩
             exact congrArg (fun b => Ending.returned (.bool b)) (Hno.out (by omega)).symm)
          | (go_round
             case rel =>
               refine ⟨j + 1, by omega, by go_num, fun k hk => ?_⟩
               by_cases e : k = j
               · subst e; omega
               · exact hG k (by omega)
             case measure => simp [intOf]; omega)
    · obtain rfl : j = 7 := by omega
      have hy := goodD_yes hG
      have Hy := Lib.hid hy; clear hy
      go_wp2
      go_ret
      exact ⟨congrArg (fun b => Ending.returned (.bool b)) Hy.out.symm, (Below.refl _ _).alloc (Nat.le_refl _) _⟩
end Go.Proofs.YtfgacjglfdehbaaGreatDoor
/- Layers 2, 3, 5: whether items, ballots, calls can be. -/
namespace Go.Proofs.YtfgacjglfdehbaaGreatDoor
open Go.RowKit
set_option linter.unusedVariables false
attribute [local go_sem] row_alloc row_drew row_drewN row_ext row_setCell row_setRow size_ext setRow_alloc setRow_drew loadOf storeOf piece_lit loadVal_at storeVal_at allOne_lit buildOf buildRes_some
attribute [local go_sem high] cell_alloc frozen_alloc setCell_alloc cell_ext frozen_ext cell_setRow frozen_setRow
attribute [local go_sem ↓] TDeed_ld0 TDeed_st0 TDeed_fd0 TDeed_bd0
attribute [local go_sem] TDeed_size TDeed_one TDeed_piece TDeed_c0 TDeed_c1 TDeed_c2 TDeed_c3 TDeed_c4 TDeed_c5 TDeed_set_kind TDeed_set_key TDeed_set_val TDeed_set_ver TDeed_set_ses TDeed_set_num TDeed_ld TDeed_st TDeed_f_kind TDeed_f_key TDeed_f_val TDeed_f_ver TDeed_f_ses TDeed_f_num TDeed_bd TDeed_fl TDeed_fl_kind TDeed_fl_key TDeed_fl_val TDeed_fl_ver TDeed_fl_ses TDeed_fl_num
attribute [local go_sem high] TDeed_eql TDeed_neq
attribute [local go_sem ↓] index_deps0 load_deps0 store_deps0
attribute [local go_sem] DV_piece DV_size DV_one index_deps load_deps store_deps
attribute [local go_sem high] TDeps_eql TDeps_neq
attribute [local go_sem ↓] TCall_ld0 TCall_st0 TCall_fd0 TCall_bd0
attribute [local go_sem] TCall_size TCall_one TCall_piece TCall_c0 TCall_c1 TCall_c2 TCall_c3 TCall_c4 TCall_c5 TCall_c6 TCall_c7 TCall_c8 TCall_c9 TCall_c10 TCall_c11 TCall_c12 TCall_c13 TCall_p_deed TCall_put_deed TCall_p_deps TCall_put_deps TCall_set_seq TCall_ld TCall_st TCall_f_deed TCall_f_deps TCall_f_seq TCall_bd TCall_fl TCall_fl_deed TCall_fl_deps TCall_fl_seq
attribute [local go_sem high] TCall_eql TCall_neq
attribute [local go_sem ↓] TItem_ld0 TItem_st0 TItem_fd0 TItem_bd0
attribute [local go_sem] TItem_size TItem_one TItem_piece TItem_c0 TItem_c1 TItem_set_rep TItem_set_num TItem_ld TItem_st TItem_f_rep TItem_f_num TItem_bd TItem_fl TItem_fl_rep TItem_fl_num
attribute [local go_sem high] TItem_eql TItem_neq
attribute [local go_sem ↓] TBallot_ld0 TBallot_st0 TBallot_fd0 TBallot_bd0
attribute [local go_sem] TBallot_size TBallot_one TBallot_piece TBallot_c0 TBallot_c1 TBallot_set_round TBallot_set_rep TBallot_ld TBallot_st TBallot_f_round TBallot_f_rep TBallot_bd TBallot_fl TBallot_fl_round TBallot_fl_rep
attribute [local go_sem high] TBallot_eql TBallot_neq
def goodC (c : Call) (n : Int) : Bool := goodB c.deed && goodD c.deps n && decide (0 ≤ c.seq) && decide (c.seq ≤ 1099511627776)
set_option maxHeartbeats 1000000 in
theorem rgoodC_any (c : Call) (n : Int) : Ans Tryz.prog 31 #[.agg (CV c), .int .i64 n] (.bool (goodC c n)) := by
  refine Ans.of_sts fun w => ?_
  have T := (Sts.start0 w).new (CV c) 40
  have c1 := rgood4_any c.deed
  have c2 := rgood_any c.deps n
  have hr := T.row
  have hg : goodC c n = (goodB c.deed && goodD c.deps n && decide (0 ≤ c.seq) && decide (c.seq ≤ 1099511627776)) := rfl
  cases h1 : goodB c.deed
  · rw [h1] at c1 hg
    have C1 := Lib.hid c1; have HG := Lib.hid hg; clear c1 c2 hg h1
    go_enter Tryz.func31, Tryz.ntmps31
    go_wp2_with fail
    refine (Ans.at C1.out T).mono ?_; clear T hr; rintro e w1 ⟨rfl, T⟩
    go_wp2
    go_ret
    exact ⟨by rw [HG.out]; rfl, T.nil⟩
  · rw [h1] at c1 hg
    cases h2 : goodD c.deps n
    · rw [h2] at c2 hg
      have C1 := Lib.hid c1; have C2 := Lib.hid c2; have HG := Lib.hid hg; clear c1 c2 hg h1 h2
      go_enter Tryz.func31, Tryz.ntmps31
      go_wp2_with fail
      refine (Ans.at C1.out T).mono ?_; clear T hr; rintro e w1 ⟨rfl, T⟩
      have hr := T.row
      go_wp2_with fail
      refine (Ans.at C2.out T).mono ?_; clear T hr; rintro e w2 ⟨rfl, T⟩
      go_wp2
      go_ret
      exact ⟨by rw [HG.out]; rfl, T.nil⟩
    · rw [h2] at c2 hg
      have C1 := Lib.hid c1; have C2 := Lib.hid c2; have HG := Lib.hid hg; clear c1 c2 hg h1 h2
      by_cases h3 : 0 ≤ c.seq
      · go_enter Tryz.func31, Tryz.ntmps31
        go_wp2_with fail
        refine (Ans.at C1.out T).mono ?_; clear T hr; rintro e w1 ⟨rfl, T⟩
        have hr := T.row
        go_wp2_with fail
        refine (Ans.at C2.out T).mono ?_; clear T hr; rintro e w2 ⟨rfl, T⟩
        have hr := row_cell T.row
        go_wp2
        all_goals go_ret
        all_goals exact ⟨by rw [HG.out]; simp_all, T.nil⟩
      · go_enter Tryz.func31, Tryz.ntmps31
        go_wp2_with fail
        refine (Ans.at C1.out T).mono ?_; clear T hr; rintro e w1 ⟨rfl, T⟩
        have hr := T.row
        go_wp2_with fail
        refine (Ans.at C2.out T).mono ?_; clear T hr; rintro e w2 ⟨rfl, T⟩
        have hr := row_cell T.row
        go_wp2
        go_ret
        exact ⟨by rw [HG.out]; simp; omega, T.nil⟩
def goodI (x : Item) (n : Int) : Bool := decide (0 ≤ x.rep ∧ x.rep < n ∧ 1 ≤ x.num ∧ x.num ≤ 64)
def goodBal (b : Ballot) (n : Int) : Bool := decide (0 ≤ b.round ∧ b.round ≤ 1099511627776 ∧ 0 ≤ b.rep ∧ b.rep < n)
set_option maxHeartbeats 1000000 in
theorem itemGood_any (x : Item) (n : Int) : Ans Tryz.prog 40 #[.agg (IV x), .int .i64 n] (.bool (goodI x n)) := by
  intro w
  go_enter Tryz.func40, Tryz.ntmps40
  go_wp2
  all_goals
    go_ret
    refine ⟨congrArg (fun b => Ending.returned (.bool b)) ?_, (Below.refl _ _).alloc (Nat.le_refl _) _⟩
    rw [Bool.eq_iff_iff]; simp [goodI]; omega
set_option maxHeartbeats 1000000 in
theorem ritemGood_any (x : Item) (n : Int) : Ans Tryz.prog 28 #[.agg (IV x), .int .i64 n] (.bool (goodI x n)) := by
  intro w
  go_enter Tryz.func28, Tryz.ntmps28
  go_wp2
  all_goals
    go_ret
    refine ⟨congrArg (fun b => Ending.returned (.bool b)) ?_, (Below.refl _ _).alloc (Nat.le_refl _) _⟩
    rw [Bool.eq_iff_iff]; simp [goodI]; omega
set_option maxHeartbeats 1000000 in
theorem balGood_any (b : Ballot) (n : Int) : Ans Tryz.prog 41 #[.agg (BV b), .int .i64 n] (.bool (goodBal b n)) := by
  intro w
  go_enter Tryz.func41, Tryz.ntmps41
  go_wp2
  all_goals
    go_ret
    refine ⟨congrArg (fun b => Ending.returned (.bool b)) ?_, (Below.refl _ _).alloc (Nat.le_refl _) _⟩
    rw [Bool.eq_iff_iff]; simp [goodBal]; omega
set_option maxHeartbeats 1000000 in
theorem rbalGood_any (b : Ballot) (n : Int) : Ans Tryz.prog 29 #[.agg (BV b), .int .i64 n] (.bool (goodBal b n)) := by
  intro w
  go_enter Tryz.func29, Tryz.ntmps29
  go_wp2
  all_goals
    go_ret
    refine ⟨congrArg (fun b => Ending.returned (.bool b)) ?_, (Below.refl _ _).alloc (Nat.le_refl _) _⟩
    rw [Bool.eq_iff_iff]; simp [goodBal]; omega
set_option maxHeartbeats 1000000 in
theorem goodCall_any (c : Call) (n : Int) : Ans Tryz.prog 42 #[.agg (CV c), .int .i64 n] (.bool (goodC c n)) := by
  refine Ans.of_sts fun w => ?_
  have T := (Sts.start0 w).new (CV c) 40
  have c1 := good4_any c.deed
  have c2 := good_any c.deps n
  have hr := T.row
  have hg : goodC c n = (goodB c.deed && goodD c.deps n && decide (0 ≤ c.seq) && decide (c.seq ≤ 1099511627776)) := rfl
  cases h1 : goodB c.deed
  · rw [h1] at c1 hg
    have C1 := Lib.hid c1; have HG := Lib.hid hg; clear c1 c2 hg h1
    go_enter Tryz.func42, Tryz.ntmps42
    go_wp2_with fail
    refine (Ans.at C1.out T).mono ?_; clear T hr; rintro e w1 ⟨rfl, T⟩
    go_wp2
    go_ret
    exact ⟨by rw [HG.out]; rfl, T.nil⟩
  · rw [h1] at c1 hg
    cases h2 : goodD c.deps n
    · rw [h2] at c2 hg
      have C1 := Lib.hid c1; have C2 := Lib.hid c2; have HG := Lib.hid hg; clear c1 c2 hg h1 h2
      go_enter Tryz.func42, Tryz.ntmps42
      go_wp2_with fail
      refine (Ans.at C1.out T).mono ?_; clear T hr; rintro e w1 ⟨rfl, T⟩
      have hr := T.row
      go_wp2_with fail
      refine (Ans.at C2.out T).mono ?_; clear T hr; rintro e w2 ⟨rfl, T⟩
      go_wp2
      go_ret
      exact ⟨by rw [HG.out]; rfl, T.nil⟩
    · rw [h2] at c2 hg
      have C1 := Lib.hid c1; have C2 := Lib.hid c2; have HG := Lib.hid hg; clear c1 c2 hg h1 h2
      by_cases h3 : 0 ≤ c.seq
      · go_enter Tryz.func42, Tryz.ntmps42
        go_wp2_with fail
        refine (Ans.at C1.out T).mono ?_; clear T hr; rintro e w1 ⟨rfl, T⟩
        have hr := T.row
        go_wp2_with fail
        refine (Ans.at C2.out T).mono ?_; clear T hr; rintro e w2 ⟨rfl, T⟩
        have hr := row_cell T.row
        go_wp2
        all_goals go_ret
        all_goals exact ⟨by rw [HG.out]; simp_all, T.nil⟩
      · go_enter Tryz.func42, Tryz.ntmps42
        go_wp2_with fail
        refine (Ans.at C1.out T).mono ?_; clear T hr; rintro e w1 ⟨rfl, T⟩
        have hr := T.row
        go_wp2_with fail
        refine (Ans.at C2.out T).mono ?_; clear T hr; rintro e w2 ⟨rfl, T⟩
        have hr := row_cell T.row
        go_wp2
        go_ret
        exact ⟨by rw [HG.out]; simp; omega, T.nil⟩
end Go.Proofs.YtfgacjglfdehbaaGreatDoor
