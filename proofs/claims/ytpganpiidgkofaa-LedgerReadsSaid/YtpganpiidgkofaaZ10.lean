/- Several texts in one. -/
import Derived.Test.YtpganpiidgkofaaZ7
import Derived.Test.YtpganpiidgkofaaZ5
import Derived.Test.YtpganpiidgkofaaZ9
import Derived.Test.YtpganpiidgkofaaZ2
import Derived.Deep.Slices
import Derived.DataReads
/- Layers 2, 3, 5: whether items, ballots, calls can be. -/
namespace Go.Proofs.Ytpganpiidgkofaa
open Go.RowKit
set_option linter.unusedVariables false
attribute [local go_sem] row_alloc row_drew row_drewN row_ext row_setCell row_setRow size_ext setRow_alloc setRow_drew loadOf storeOf piece_lit loadVal_at storeVal_at allOne_lit buildOf buildRes_some
attribute [local go_sem high] cell_alloc frozen_alloc setCell_alloc cell_ext frozen_ext cell_setRow frozen_setRow
attribute [local go_sem ↓] TDeed_ld0 TDeed_st0 TDeed_fd0 TDeed_bd0
attribute [local go_sem] TDeed_size TDeed_one TDeed_piece TDeed_c0 TDeed_c1 TDeed_c2 TDeed_c3 TDeed_c4 TDeed_c5 TDeed_set_kind TDeed_set_key TDeed_set_val TDeed_set_ver TDeed_set_ses TDeed_set_num TDeed_ld TDeed_st TDeed_f_kind TDeed_f_key TDeed_f_val TDeed_f_ver TDeed_f_ses TDeed_f_num TDeed_bd TDeed_fl TDeed_fl_kind TDeed_fl_key TDeed_fl_val TDeed_fl_ver TDeed_fl_ses TDeed_fl_num
attribute [local go_sem high] TDeed_eql TDeed_neq
attribute [local go_sem ↓] index_deps0 load_deps0 store_deps0
attribute [local go_sem] DV_piece DV_size DV_one index_deps load_deps store_deps
attribute [local go_sem high] TDeps_eql TDeps_neq
attribute [local go_sem ↓] TCall_ld0 TCall_st0 TCall_fd0 TCall_bd0
attribute [local go_sem] TCall_size TCall_one TCall_piece TCall_c0 TCall_c1 TCall_c2 TCall_c3 TCall_c4 TCall_c5 TCall_c6 TCall_c7 TCall_c8 TCall_c9 TCall_c10 TCall_c11 TCall_c12 TCall_c13 TCall_p_deed TCall_put_deed TCall_p_deps TCall_put_deps TCall_set_seq TCall_ld TCall_st TCall_f_deed TCall_f_deps TCall_f_seq TCall_bd TCall_fl TCall_fl_deed TCall_fl_deps TCall_fl_seq
attribute [local go_sem high] TCall_eql TCall_neq
attribute [local go_sem ↓] TItem_ld0 TItem_st0 TItem_fd0 TItem_bd0
attribute [local go_sem] TItem_size TItem_one TItem_piece TItem_c0 TItem_c1 TItem_set_rep TItem_set_num TItem_ld TItem_st TItem_f_rep TItem_f_num TItem_bd TItem_fl TItem_fl_rep TItem_fl_num
attribute [local go_sem high] TItem_eql TItem_neq
attribute [local go_sem ↓] TBallot_ld0 TBallot_st0 TBallot_fd0 TBallot_bd0
attribute [local go_sem] TBallot_size TBallot_one TBallot_piece TBallot_c0 TBallot_c1 TBallot_set_round TBallot_set_rep TBallot_ld TBallot_st TBallot_f_round TBallot_f_rep TBallot_bd TBallot_fl TBallot_fl_round TBallot_fl_rep
attribute [local go_sem high] TBallot_eql TBallot_neq
def goodC (c : Call) (n : Int) : Bool := goodB c.deed && goodD c.deps n && decide (0 ≤ c.seq) && decide (c.seq ≤ 1099511627776)
set_option maxHeartbeats 1000000 in
theorem rgoodC_any (c : Call) (n : Int) : Ans Try.prog 61 #[.agg (CV c), .int .i64 n] (.bool (goodC c n)) := by
  refine Ans.of_sts fun w => ?_
  have T := (Sts.start0 w).new (CV c) 37
  have c1 := rgood4_any c.deed
  have c2 := rgood_any c.deps n
  have hr := T.row
  have hg : goodC c n = (goodB c.deed && goodD c.deps n && decide (0 ≤ c.seq) && decide (c.seq ≤ 1099511627776)) := rfl
  cases h1 : goodB c.deed
  · rw [h1] at c1 hg
    have C1 := Lib.hid c1; have HG := Lib.hid hg; clear c1 c2 hg h1
    go_enter Try.func61, Try.ntmps61
    go_wp2_with fail
    refine (Ans.at C1.out T).mono ?_; clear T hr; rintro e w1 ⟨rfl, T⟩
    go_wp2
    go_ret
    exact ⟨by rw [HG.out]; rfl, T.nil⟩
  · rw [h1] at c1 hg
    cases h2 : goodD c.deps n
    · rw [h2] at c2 hg
      have C1 := Lib.hid c1; have C2 := Lib.hid c2; have HG := Lib.hid hg; clear c1 c2 hg h1 h2
      go_enter Try.func61, Try.ntmps61
      go_wp2_with fail
      refine (Ans.at C1.out T).mono ?_; clear T hr; rintro e w1 ⟨rfl, T⟩
      have hr := T.row
      go_wp2_with fail
      refine (Ans.at C2.out T).mono ?_; clear T hr; rintro e w2 ⟨rfl, T⟩
      go_wp2
      go_ret
      exact ⟨by rw [HG.out]; rfl, T.nil⟩
    · rw [h2] at c2 hg
      have C1 := Lib.hid c1; have C2 := Lib.hid c2; have HG := Lib.hid hg; clear c1 c2 hg h1 h2
      by_cases h3 : 0 ≤ c.seq
      · go_enter Try.func61, Try.ntmps61
        go_wp2_with fail
        refine (Ans.at C1.out T).mono ?_; clear T hr; rintro e w1 ⟨rfl, T⟩
        have hr := T.row
        go_wp2_with fail
        refine (Ans.at C2.out T).mono ?_; clear T hr; rintro e w2 ⟨rfl, T⟩
        have hr := row_cell T.row
        go_wp2
        all_goals go_ret
        all_goals exact ⟨by rw [HG.out]; simp_all, T.nil⟩
      · go_enter Try.func61, Try.ntmps61
        go_wp2_with fail
        refine (Ans.at C1.out T).mono ?_; clear T hr; rintro e w1 ⟨rfl, T⟩
        have hr := T.row
        go_wp2_with fail
        refine (Ans.at C2.out T).mono ?_; clear T hr; rintro e w2 ⟨rfl, T⟩
        have hr := row_cell T.row
        go_wp2
        go_ret
        exact ⟨by rw [HG.out]; simp; omega, T.nil⟩
def goodI (x : Item) (n : Int) : Bool := decide (0 ≤ x.rep ∧ x.rep < n ∧ 1 ≤ x.num ∧ x.num ≤ 64)
def goodBal (b : Ballot) (n : Int) : Bool := decide (0 ≤ b.round ∧ b.round ≤ 1099511627776 ∧ 0 ≤ b.rep ∧ b.rep < n)
set_option maxHeartbeats 1000000 in
theorem itemGood_any (x : Item) (n : Int) : Ans Try.prog 55 #[.agg (IV x), .int .i64 n] (.bool (goodI x n)) := by
  intro w
  go_enter Try.func55, Try.ntmps55
  go_wp2
  all_goals
    go_ret
    refine ⟨congrArg (fun b => Ending.returned (.bool b)) ?_, (Below.refl _ _).alloc (Nat.le_refl _) _⟩
    rw [Bool.eq_iff_iff]; simp [goodI]; omega
set_option maxHeartbeats 1000000 in
theorem ritemGood_any (x : Item) (n : Int) : Ans Try.prog 19 #[.agg (IV x), .int .i64 n] (.bool (goodI x n)) := by
  intro w
  go_enter Try.func19, Try.ntmps19
  go_wp2
  all_goals
    go_ret
    refine ⟨congrArg (fun b => Ending.returned (.bool b)) ?_, (Below.refl _ _).alloc (Nat.le_refl _) _⟩
    rw [Bool.eq_iff_iff]; simp [goodI]; omega
set_option maxHeartbeats 1000000 in
theorem balGood_any (b : Ballot) (n : Int) : Ans Try.prog 86 #[.agg (BV b), .int .i64 n] (.bool (goodBal b n)) := by
  intro w
  go_enter Try.func86, Try.ntmps86
  go_wp2
  all_goals
    go_ret
    refine ⟨congrArg (fun b => Ending.returned (.bool b)) ?_, (Below.refl _ _).alloc (Nat.le_refl _) _⟩
    rw [Bool.eq_iff_iff]; simp [goodBal]; omega
set_option maxHeartbeats 1000000 in
theorem rbalGood_any (b : Ballot) (n : Int) : Ans Try.prog 60 #[.agg (BV b), .int .i64 n] (.bool (goodBal b n)) := by
  intro w
  go_enter Try.func60, Try.ntmps60
  go_wp2
  all_goals
    go_ret
    refine ⟨congrArg (fun b => Ending.returned (.bool b)) ?_, (Below.refl _ _).alloc (Nat.le_refl _) _⟩
    rw [Bool.eq_iff_iff]; simp [goodBal]; omega
set_option maxHeartbeats 1000000 in
theorem goodCall_any (c : Call) (n : Int) : Ans Try.prog 87 #[.agg (CV c), .int .i64 n] (.bool (goodC c n)) := by
  refine Ans.of_sts fun w => ?_
  have T := (Sts.start0 w).new (CV c) 37
  have c1 := good4_any c.deed
  have c2 := good_any c.deps n
  have hr := T.row
  have hg : goodC c n = (goodB c.deed && goodD c.deps n && decide (0 ≤ c.seq) && decide (c.seq ≤ 1099511627776)) := rfl
  cases h1 : goodB c.deed
  · rw [h1] at c1 hg
    have C1 := Lib.hid c1; have HG := Lib.hid hg; clear c1 c2 hg h1
    go_enter Try.func87, Try.ntmps87
    go_wp2_with fail
    refine (Ans.at C1.out T).mono ?_; clear T hr; rintro e w1 ⟨rfl, T⟩
    go_wp2
    go_ret
    exact ⟨by rw [HG.out]; rfl, T.nil⟩
  · rw [h1] at c1 hg
    cases h2 : goodD c.deps n
    · rw [h2] at c2 hg
      have C1 := Lib.hid c1; have C2 := Lib.hid c2; have HG := Lib.hid hg; clear c1 c2 hg h1 h2
      go_enter Try.func87, Try.ntmps87
      go_wp2_with fail
      refine (Ans.at C1.out T).mono ?_; clear T hr; rintro e w1 ⟨rfl, T⟩
      have hr := T.row
      go_wp2_with fail
      refine (Ans.at C2.out T).mono ?_; clear T hr; rintro e w2 ⟨rfl, T⟩
      go_wp2
      go_ret
      exact ⟨by rw [HG.out]; rfl, T.nil⟩
    · rw [h2] at c2 hg
      have C1 := Lib.hid c1; have C2 := Lib.hid c2; have HG := Lib.hid hg; clear c1 c2 hg h1 h2
      by_cases h3 : 0 ≤ c.seq
      · go_enter Try.func87, Try.ntmps87
        go_wp2_with fail
        refine (Ans.at C1.out T).mono ?_; clear T hr; rintro e w1 ⟨rfl, T⟩
        have hr := T.row
        go_wp2_with fail
        refine (Ans.at C2.out T).mono ?_; clear T hr; rintro e w2 ⟨rfl, T⟩
        have hr := row_cell T.row
        go_wp2
        all_goals go_ret
        all_goals exact ⟨by rw [HG.out]; simp_all, T.nil⟩
      · go_enter Try.func87, Try.ntmps87
        go_wp2_with fail
        refine (Ans.at C1.out T).mono ?_; clear T hr; rintro e w1 ⟨rfl, T⟩
        have hr := T.row
        go_wp2_with fail
        refine (Ans.at C2.out T).mono ?_; clear T hr; rintro e w2 ⟨rfl, T⟩
        have hr := row_cell T.row
        go_wp2
        go_ret
        exact ⟨by rw [HG.out]; simp; omega, T.nil⟩
end Go.Proofs.Ytpganpiidgkofaa
/- Layer 3: what is known of items, by their places, as a thing in memory. -/
namespace Go.Proofs.Ytpganpiidgkofaa
open Go.RowKit
set_option linter.unusedVariables false
/-- Rows: of so many replicas; each replica's, by numbers. -/
structure RowsM where
  n : Int
  f : Nat → List (Option Inst)
def rcells (n : Int) (v h : Nat → Value) : Array Value := #[.int .i64 n, v 0, v 1, v 2, v 3, v 4, v 5, v 6, h 0, h 1, h 2, h 3, h 4, h 5, h 6]
section
variable (n : Int) (v h : Nat → Value) (k : Nat) (x : Value)
theorem rcells_n : (rcells n v h)[0]? = some (.int .i64 n) := rfl
theorem rcells_v (hk : k < 7) : (rcells n v h)[1 + k]? = some (v k) := by
  match k, hk with
  | 0, _ => rfl
  | 1, _ => rfl
  | 2, _ => rfl
  | 3, _ => rfl
  | 4, _ => rfl
  | 5, _ => rfl
  | 6, _ => rfl
theorem rcells_h (hk : k < 7) : (rcells n v h)[8 + k]? = some (h k) := by
  match k, hk with
  | 0, _ => rfl
  | 1, _ => rfl
  | 2, _ => rfl
  | 3, _ => rfl
  | 4, _ => rfl
  | 5, _ => rfl
  | 6, _ => rfl
theorem rcells_setv (hk : k < 7) : (rcells n v h).setIfInBounds (1 + k) x = rcells n (updF v k x) h := by
  match k, hk with
  | 0, _ => simp [rcells, updF]
  | 1, _ => simp [rcells, updF]
  | 2, _ => simp [rcells, updF]
  | 3, _ => simp [rcells, updF]
  | 4, _ => simp [rcells, updF]
  | 5, _ => simp [rcells, updF]
  | 6, _ => simp [rcells, updF]
theorem rcells_seth (hk : k < 7) : (rcells n v h).setIfInBounds (8 + k) x = rcells n v (updF h k x) := by
  match k, hk with
  | 0, _ => simp [rcells, updF]
  | 1, _ => simp [rcells, updF]
  | 2, _ => simp [rcells, updF]
  | 3, _ => simp [rcells, updF]
  | 4, _ => simp [rcells, updF]
  | 5, _ => simp [rcells, updF]
  | 6, _ => simp [rcells, updF]
end
def NVo (o : Option Inst) : Array Value := NV (o.getD noInst)
def HVo (o : Option Inst) : Array Value := #[.bool o.isSome]
theorem NVo_size (o : Option Inst) : (NVo o).size = 20 := rfl
theorem HVo_size (o : Option Inst) : (HVo o).size = 1 := rfl
def instsR (v : Value) (l : List (Option Inst)) : Res := vecR 39 20 v l.length (vl NVo l)
def bitsR (h : Value) (l : List (Option Inst)) : Res := vecR 4 1 h l.length (vl HVo l)
def pairR (f : Nat → List (Option Inst)) (v h : Nat → Value) (i : Nat) : Res := starR (instsR (v i) (f i)) (bitsR (h i) (f i))
/-- The other replicas' rows. -/
def othersR (f : Nat → List (Option Inst)) (v h : Nat → Value) (k : Nat) : Res := packR (((List.range 7).erase k).map (pairR f v h))
/-- The rows in block g. -/
def rowsIR (g : Nat) (m : RowsM) : Res := exR fun q : (Nat → Value) × (Nat → Value) => packR (rowR g (rcells m.n q.1 q.2) :: (List.range 7).map (pairR m.f q.1 q.2))
section
variable {w W : World} {F : Nat → Prop} {R : List Res} {g : Nat} {m : RowsM}
theorem Sts.rowsOpen (T : Sts w F W (rowsIR g m :: R)) {k : Nat} (hk : k < 7) : ∃ v h, Sts w F W (rowR g (rcells m.n v h) :: instsR (v k) (m.f k) :: bitsR (h k) (m.f k) :: othersR m.f v h k :: R) := by
  obtain ⟨⟨v, h⟩, T⟩ := T.open
  have T := T.unpack
  have T : Sts w F W (((pairR m.f v h k :: ((List.range 7).erase k).map (pairR m.f v h)) ++ (rowR g (rcells m.n v h) :: R))) :=
    T.perm (((row_take (pairR m.f v h) hk).append_right R).cons (rowR g (rcells m.n v h)) |>.trans (List.perm_middle.symm))
  have T : Sts w F W ((((List.range 7).erase k).map (pairR m.f v h)) ++ (pairR m.f v h k :: rowR g (rcells m.n v h) :: R)) := T.perm (List.perm_middle.symm)
  have T := T.pack
  have T := T.swap.split
  exact ⟨v, h, T.perm (by
    show (instsR (v k) (m.f k) :: bitsR (h k) (m.f k) :: packR _ :: rowR g _ :: R).Perm _
    exact ((List.Perm.cons _ ((List.Perm.cons _ (.swap ..)).trans (.swap ..))).trans (.swap ..)))⟩
theorem Sts.rowsShut {v h : Nat → Value} {k : Nat} (hk : k < 7) (T : Sts w F W (rowR g (rcells m.n v h) :: instsR (v k) (m.f k) :: bitsR (h k) (m.f k) :: othersR m.f v h k :: R)) : Sts w F W (rowsIR g m :: R) := by
  have T := T.perm ((List.Perm.swap ..).trans (List.Perm.cons _ ((List.Perm.swap ..).trans (List.Perm.cons _ (.swap ..)))))
  -- insts, bits, others, row
  have T := T.join.swap
  have T := T.unpack
  have T : Sts w F W (pairR m.f v h k :: rowR g (rcells m.n v h) :: (((List.range 7).erase k).map (pairR m.f v h) ++ R)) :=
    T.perm (List.perm_middle.trans (List.Perm.cons _ List.perm_middle))
  have T : Sts w F W ((rowR g (rcells m.n v h) :: (List.range 7).map (pairR m.f v h)) ++ R) :=
    T.perm ((List.Perm.swap ..).trans (List.Perm.cons _ ((row_take (pairR m.f v h) hk).symm.append_right R)))
  exact T.pack.close (v, h)
theorem others_upd (f : Nat → List (Option Inst)) (v h : Nat → Value) (k : Nat) (l : List (Option Inst)) (x y : Value) : othersR (updF f k l) (updF v k x) (updF h k y) k = othersR f v h k := by
  unfold othersR
  congr 1
  refine row_others fun i hi => ?_
  unfold pairR
  rw [updF_other _ _ hi, updF_other _ _ hi, updF_other _ _ hi]
end
/-- What is known of an item. -/
noncomputable def getM (m : RowsM) (x : Item) : Option Inst := if goodI x m.n = true then ((m.f x.rep.toNat)[x.num.toNat - 1]?).join else none
/-- A row with something at a place. -/
def putL (l : List (Option Inst)) (i : Nat) (t : Inst) : List (Option Inst) := (l ++ List.replicate (i + 1 - l.length) none).set i (some t)
/-- So much is added as is wanted. -/
theorem putL_of {l0 l : List (Option Inst)} {j p : Nat} (t : Inst) (h : l = l0 ++ List.replicate p none) (hp : p = 0 ∨ l.length ≤ j + 1) (hj : j + 1 ≤ l.length) : putL l0 j t = l.set j (some t) := by
  unfold putL
  have hl : l.length = l0.length + p := by rw [h, List.length_append, List.length_replicate]
  have e : j + 1 - l0.length = p := by omega
  rw [e, h]
noncomputable def setM (m : RowsM) (x : Item) (t : Inst) : RowsM := if goodI x m.n = true then { m with f := updF m.f x.rep.toNat (putL (m.f x.rep.toNat) (x.num.toNat - 1) t) } else m
end Go.Proofs.Ytpganpiidgkofaa
/- A slice of wide things that came in: its cells, its loads. Nothing of the program stands here. -/
namespace Go.Proofs.Ytpganpiidgkofaa
open Go.ChangeShapes Go.WideShapes Go.ChangeAt Go.RowKit Go.WideMaps Go.WideElems Go.Joins Go.Deep
set_option linter.unusedVariables false
/-- The slice with this address holds these things, each of n cells. -/
structure RowsIn {α : Type} (w : World) (A : Option Addr) (n : Nat) (V : α → Array Value) (l : List α) : Prop where
  nil : A = none → l = []
  cell : ∀ a, A = some a → ∀ j (h : j < l.length) i v, (V l[j])[i]? = some v → w.cell? ((a.add (j * n)).add i) = some v
  len : l.length ≤ 9223372036854775807
theorem add_blk (a : Addr) (j : Nat) : (a.add j).block = a.block := by unfold Addr.add; split <;> rfl
section
variable {α : Type} {w W : World} {A : Option Addr} {n : Nat} {V : α → Array Value} {l : List α} {P : Program} {T : TypeId} {d : TypeDesc} {a : Addr} {j : Nat}
theorem loadAt_cells (W : World) (a : Addr) (X : Array Value) (hc : ∀ i v, X[i]? = some v → W.cell? (a.add i) = some v) (hu : P.underlying T = some d) (hd : d.isRow = true) (hi : (P.info? T).map (·.size) = some X.size) :
    (Instr.loadAt T (.pointer (some a))).run P W = .ok (.agg X) W := by
  have hl : (loadCells a X.size).run P W = .ok X W := by
    have := run_loadCells_list (P := P) (w := W) a X.toList (fun j v hv => hc j v (by simpa using hv))
    simpa using this
  cases hq : P.info? T with
  | none => simp [hq] at hi
  | some i =>
    have hs : i.size = X.size := by simpa [hq] using hi
    have hagg : (isAgg T).run P W = .ok true W := by
      unfold isAgg
      rw [Sem.run_bind, run_underlying hu W]
      cases d <;> simp_all
    simp [Instr.loadAt, Instr.sureAddr, loadVar, Sem.run_bind, hagg, sizeOf, typeInfo, hq, hs, hl]
theorem RowsIn.load (h : RowsIn w A n V l) (hV : ∀ x, (V x).size = n) (hu : P.underlying T = some d) (hd : d.isRow = true) (hi : (P.info? T).map (·.size) = some n) (hb : Below w.heap.size w W) (hA : A = some a) (hj : j < l.length) :
    loadVal P T n W (.pointer (some (a.add (j * n)))) = .ok (.agg (V l[j])) W := by
  rw [← load_val hu hd hi]
  refine loadAt_cells W _ _ (fun i v hv => ?_) hu hd (by rw [hi, hV])
  have hc := h.cell a hA j hj i v hv
  exact (hb.cell (World.block_lt_of_cell? w _ hc)).trans hc
theorem RowsIn.block (h : RowsIn w A n V l) (hV : ∀ x, (V x).size = n) (hn : 0 < n) (hA : A = some a) (hj : j < l.length) : a.block < w.heap.size := by
  have hc := h.cell a hA j hj 0 ((V l[j])[0]'(by rw [hV]; exact hn)) (by rw [Array.getElem?_eq_getElem])
  have := World.block_lt_of_cell? w _ hc
  rwa [add_blk, add_blk] at this
end
theorem weigh_mem {H : Type} {P : Program} {e : TypeId} {d : DataW H} {m : Nat} : ∀ {ds : List (DataW H)}, d ∈ ds → m ∈ d.weights P e → m ∈ DataW.weightsAll P e ds
  | x :: ds, h, hm => by
    simp only [DataW.weightsAll, List.mem_append]
    rcases List.mem_cons.1 h with rfl | h
    · exact .inl hm
    · exact .inr (weigh_mem h hm)
theorem choose_list {α : Type} {p : Nat → α → Prop} : ∀ (n : Nat), (∀ i, i < n → ∃ x, p i x) → ∃ l : List α, l.length = n ∧ ∀ i (h : i < l.length), p i l[i]
  | 0, _ => ⟨[], rfl, fun i h => by simp at h⟩
  | n + 1, h => by
    obtain ⟨l, hl, hp⟩ := choose_list n fun i hi => h i (by omega)
    obtain ⟨x, hx⟩ := h n (by omega)
    refine ⟨l ++ [x], by simp [hl], fun i hi => ?_⟩
    rw [List.length_append, List.length_singleton] at hi
    by_cases hin : i < l.length
    · rw [List.getElem_append_left hin]; exact hp i hin
    · have : i = l.length := by omega
      subst this
      rw [List.getElem_append_right (by omega)]
      simpa [hl] using hx
theorem open_rowsIn {α : Type} {V : α → Array Value} {Fit : α → Prop} {H : Type} {enc : TypeId × Value → H} {P : Program} {w : World} {base : Nat} {sp : Nat → Bool} {held : Bool} {r : Reach} {b0 : Nat} {v : Value} {d : DataW H} {p : List MemPlace} {t e : TypeId} {n : Nat}
    (ht : P.underlying t = some (.slice e)) (hn : P.cellsOf e = n)
    (each : ∀ (fuel : Nat) (cs : List Value) (x : DataW H × List MemPlace), DataW.trod enc P w base sp held fuel e cs = some x → (∀ m ∈ x.1.weights P e, m ≤ reachBytes) → ∃ X : α, cs = (V X).toList ∧ Fit X)
    (hv : Value.okWide P w r b0 t v) (h : DataW.Trod enc P w base sp held t v d p) (hw : ∀ m ∈ d.weights P t, m ≤ reachBytes) :
    ∃ A l c, v = .slice A (List.length l) c ∧ RowsIn w A n V l ∧ ∀ x ∈ l, Fit x := by
  obtain ⟨fuel, hf⟩ := h
  rcases open_slice ht hf with ⟨hcs, hx⟩ | ⟨a, len, cap, m, k, D, Pl, hcs, _, hlc, hcm, hm, hx, hel⟩
  · have hv1 : v = .slice none 0 0 := by
      cases v <;> simp [Value.okWide, Cell.okWide, Cell.ok, ht] at hv <;> simp_all [Value.cells]
    exact ⟨none, [], 0, hv1, ⟨fun _ => rfl, fun a ha => (by cases ha), by simp⟩, fun s hs => (by cases hs)⟩
  · have hv1 : v = .slice (some a) len cap := by
      cases v <;> simp [Value.okWide, Cell.okWide, Cell.ok, ht] at hv <;> simp_all [Value.cells]
    have hle : len ≤ m := by rw [hm]; split <;> omega
    injection hx with hx1 hx2
    obtain ⟨l, hl, hp⟩ := choose_list (p := fun i X => Fit X ∧ ∀ q v, (V X)[q]? = some v → w.cell? ((a.add (i * n)).add q) = some v) len fun i hi => by
      obtain ⟨cs', h1, h2⟩ := hel i (by omega)
      obtain ⟨X, e1, e2⟩ := each k cs' _ h2 fun q hq => hw q (by
        rw [hx1]; simp only [DataW.weights, ht]
        exact List.mem_cons_of_mem _ (List.mem_append_left _ (weigh_mem (List.mem_map_of_mem (List.mem_range.2 hi)) hq)))
      refine ⟨X, e2, fun q v hq => ?_⟩
      rw [hn] at h1
      obtain ⟨_, hlen, hcell⟩ := World.cells?_some h1
      have hq2 : q < (V X).size := (Array.getElem?_eq_some_iff.1 hq).1
      have hlen2 : cs'.length = (V X).size := by rw [e1]; simp
      rw [hcell q (by omega), e1]
      simpa using hq
    refine ⟨some a, l, cap, by rw [hl]; exact hv1, ⟨fun ha => (by cases ha), fun a' ha j hj i v hi => ?_, ?_⟩, fun x hx => ?_⟩
    · injection ha with ha; subst ha
      exact (hp j hj).2 i v hi
    · have : maxLen = 9223372036854775807 := rfl
      omega
    · obtain ⟨i, hi, rfl⟩ := List.mem_iff_getElem.1 hx
      exact (hp i hi).1
end Go.Proofs.Ytpganpiidgkofaa
