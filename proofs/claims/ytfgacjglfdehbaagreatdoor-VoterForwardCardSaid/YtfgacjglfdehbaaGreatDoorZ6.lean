/- Several texts in one. -/
import Derived.Test.YtfgacjglfdehbaaGreatDoorZ5
import Derived.Test.YtfgacjglfdehbaaGreatDoorZ1
import Derived.Deep.Slices
import Derived.DataReads
import Derived.BigQuiet
import Derived.Deep.RegionHeld3
import Derived.Deep.DeepCutAuto
/- Layer 3: what is known of items, by their places, as a thing in memory. -/
namespace Go.Proofs.YtfgacjglfdehbaaGreatDoor
open Go.RowKit
set_option linter.unusedVariables false
/-- Rows: of so many replicas; each replica's, by numbers. -/
structure RowsM where
  n : Int
  f : Nat → List (Option Inst)
def rcells (n : Int) (v h : Nat → Value) : Array Value := #[.int .i64 n, v 0, v 1, v 2, v 3, v 4, v 5, v 6, h 0, h 1, h 2, h 3, h 4, h 5, h 6]
section
variable (n : Int) (v h : Nat → Value) (k : Nat) (x : Value)
theorem rcells_n : (rcells n v h)[0]? = some (.int .i64 n) := rfl
theorem rcells_v (hk : k < 7) : (rcells n v h)[1 + k]? = some (v k) := by
  match k, hk with
  | 0, _ => rfl
  | 1, _ => rfl
  | 2, _ => rfl
  | 3, _ => rfl
  | 4, _ => rfl
  | 5, _ => rfl
  | 6, _ => rfl
theorem rcells_h (hk : k < 7) : (rcells n v h)[8 + k]? = some (h k) := by
  match k, hk with
  | 0, _ => rfl
  | 1, _ => rfl
  | 2, _ => rfl
  | 3, _ => rfl
  | 4, _ => rfl
  | 5, _ => rfl
  | 6, _ => rfl
theorem rcells_setv (hk : k < 7) : (rcells n v h).setIfInBounds (1 + k) x = rcells n (updF v k x) h := by
  match k, hk with
  | 0, _ => simp [rcells, updF]
  | 1, _ => simp [rcells, updF]
  | 2, _ => simp [rcells, updF]
  | 3, _ => simp [rcells, updF]
  | 4, _ => simp [rcells, updF]
  | 5, _ => simp [rcells, updF]
  | 6, _ => simp [rcells, updF]
theorem rcells_seth (hk : k < 7) : (rcells n v h).setIfInBounds (8 + k) x = rcells n v (updF h k x) := by
  match k, hk with
  | 0, _ => simp [rcells, updF]
  | 1, _ => simp [rcells, updF]
  | 2, _ => simp [rcells, updF]
  | 3, _ => simp [rcells, updF]
  | 4, _ => simp [rcells, updF]
  | 5, _ => simp [rcells, updF]
  | 6, _ => simp [rcells, updF]
end
def NVo (o : Option Inst) : Array Value := NV (o.getD noInst)
def HVo (o : Option Inst) : Array Value := #[.bool o.isSome]
theorem NVo_size (o : Option Inst) : (NVo o).size = 20 := rfl
theorem HVo_size (o : Option Inst) : (HVo o).size = 1 := rfl
def instsR (v : Value) (l : List (Option Inst)) : Res := vecR 52 20 v l.length (vl NVo l)
def bitsR (h : Value) (l : List (Option Inst)) : Res := vecR 4 1 h l.length (vl HVo l)
def pairR (f : Nat → List (Option Inst)) (v h : Nat → Value) (i : Nat) : Res := starR (instsR (v i) (f i)) (bitsR (h i) (f i))
/-- The other replicas' rows. -/
def othersR (f : Nat → List (Option Inst)) (v h : Nat → Value) (k : Nat) : Res := packR (((List.range 7).erase k).map (pairR f v h))
/-- The rows in block g. -/
def rowsIR (g : Nat) (m : RowsM) : Res := exR fun q : (Nat → Value) × (Nat → Value) => packR (rowR g (rcells m.n q.1 q.2) :: (List.range 7).map (pairR m.f q.1 q.2))
section
variable {w W : World} {F : Nat → Prop} {R : List Res} {g : Nat} {m : RowsM}
theorem Sts.rowsOpen (T : Sts w F W (rowsIR g m :: R)) {k : Nat} (hk : k < 7) : ∃ v h, Sts w F W (rowR g (rcells m.n v h) :: instsR (v k) (m.f k) :: bitsR (h k) (m.f k) :: othersR m.f v h k :: R) := by
  obtain ⟨⟨v, h⟩, T⟩ := T.open
  have T := T.unpack
  have T : Sts w F W (((pairR m.f v h k :: ((List.range 7).erase k).map (pairR m.f v h)) ++ (rowR g (rcells m.n v h) :: R))) :=
    T.perm (((row_take (pairR m.f v h) hk).append_right R).cons (rowR g (rcells m.n v h)) |>.trans (List.perm_middle.symm))
  have T : Sts w F W ((((List.range 7).erase k).map (pairR m.f v h)) ++ (pairR m.f v h k :: rowR g (rcells m.n v h) :: R)) := T.perm (List.perm_middle.symm)
  have T := T.pack
  have T := T.swap.split
  exact ⟨v, h, T.perm (by
    show (instsR (v k) (m.f k) :: bitsR (h k) (m.f k) :: packR _ :: rowR g _ :: R).Perm _
    exact ((List.Perm.cons _ ((List.Perm.cons _ (.swap ..)).trans (.swap ..))).trans (.swap ..)))⟩
theorem Sts.rowsShut {v h : Nat → Value} {k : Nat} (hk : k < 7) (T : Sts w F W (rowR g (rcells m.n v h) :: instsR (v k) (m.f k) :: bitsR (h k) (m.f k) :: othersR m.f v h k :: R)) : Sts w F W (rowsIR g m :: R) := by
  have T := T.perm ((List.Perm.swap ..).trans (List.Perm.cons _ ((List.Perm.swap ..).trans (List.Perm.cons _ (.swap ..)))))
  -- insts, bits, others, row
  have T := T.join.swap
  have T := T.unpack
  have T : Sts w F W (pairR m.f v h k :: rowR g (rcells m.n v h) :: (((List.range 7).erase k).map (pairR m.f v h) ++ R)) :=
    T.perm (List.perm_middle.trans (List.Perm.cons _ List.perm_middle))
  have T : Sts w F W ((rowR g (rcells m.n v h) :: (List.range 7).map (pairR m.f v h)) ++ R) :=
    T.perm ((List.Perm.swap ..).trans (List.Perm.cons _ ((row_take (pairR m.f v h) hk).symm.append_right R)))
  exact T.pack.close (v, h)
end
/-- What is known of an item. -/
noncomputable def getM (m : RowsM) (x : Item) : Option Inst := if goodI x m.n = true then ((m.f x.rep.toNat)[x.num.toNat - 1]?).join else none
/-- A row with something at a place. -/
def putL (l : List (Option Inst)) (i : Nat) (t : Inst) : List (Option Inst) := (l ++ List.replicate (i + 1 - l.length) none).set i (some t)
/-- So much is added as is wanted. -/
theorem putL_of {l0 l : List (Option Inst)} {j p : Nat} (t : Inst) (h : l = l0 ++ List.replicate p none) (hp : p = 0 ∨ l.length ≤ j + 1) (hj : j + 1 ≤ l.length) : putL l0 j t = l.set j (some t) := by
  unfold putL
  have hl : l.length = l0.length + p := by rw [h, List.length_append, List.length_replicate]
  have e : j + 1 - l0.length = p := by omega
  rw [e, h]
noncomputable def setM (m : RowsM) (x : Item) (t : Inst) : RowsM := if goodI x m.n = true then { m with f := updF m.f x.rep.toNat (putL (m.f x.rep.toNat) (x.num.toNat - 1) t) } else m
end Go.Proofs.YtfgacjglfdehbaaGreatDoor
/- A slice of wide things that came in: its cells, its loads. Nothing of the program stands here. -/
namespace Go.Proofs.YtfgacjglfdehbaaGreatDoor
open Go.ChangeShapes Go.WideShapes Go.ChangeAt Go.RowKit Go.WideMaps Go.WideElems Go.Joins Go.Deep
set_option linter.unusedVariables false
/-- The slice with this address holds these things, each of n cells. -/
structure RowsIn {α : Type} (w : World) (A : Option Addr) (n : Nat) (V : α → Array Value) (l : List α) : Prop where
  nil : A = none → l = []
  cell : ∀ a, A = some a → ∀ j (h : j < l.length) i v, (V l[j])[i]? = some v → w.cell? ((a.add (j * n)).add i) = some v
  len : l.length ≤ 9223372036854775807
theorem add_blk (a : Addr) (j : Nat) : (a.add j).block = a.block := by unfold Addr.add; split <;> rfl
section
variable {α : Type} {w W : World} {A : Option Addr} {n : Nat} {V : α → Array Value} {l : List α} {P : Program} {T : TypeId} {d : TypeDesc} {a : Addr} {j : Nat}
theorem loadAt_cells (W : World) (a : Addr) (X : Array Value) (hc : ∀ i v, X[i]? = some v → W.cell? (a.add i) = some v) (hu : P.underlying T = some d) (hd : d.isRow = true) (hi : (P.info? T).map (·.size) = some X.size) :
    (Instr.loadAt T (.pointer (some a))).run P W = .ok (.agg X) W := by
  have hl : (loadCells a X.size).run P W = .ok X W := by
    have := run_loadCells_list (P := P) (w := W) a X.toList (fun j v hv => hc j v (by simpa using hv))
    simpa using this
  cases hq : P.info? T with
  | none => simp [hq] at hi
  | some i =>
    have hs : i.size = X.size := by simpa [hq] using hi
    have hagg : (isAgg T).run P W = .ok true W := by
      unfold isAgg
      rw [Sem.run_bind, run_underlying hu W]
      cases d <;> simp_all
    simp [Instr.loadAt, Instr.sureAddr, loadVar, Sem.run_bind, hagg, sizeOf, typeInfo, hq, hs, hl]
theorem RowsIn.load (h : RowsIn w A n V l) (hV : ∀ x, (V x).size = n) (hu : P.underlying T = some d) (hd : d.isRow = true) (hi : (P.info? T).map (·.size) = some n) (hb : Below w.heap.size w W) (hA : A = some a) (hj : j < l.length) :
    loadVal P T n W (.pointer (some (a.add (j * n)))) = .ok (.agg (V l[j])) W := by
  rw [← load_val hu hd hi]
  refine loadAt_cells W _ _ (fun i v hv => ?_) hu hd (by rw [hi, hV])
  have hc := h.cell a hA j hj i v hv
  exact (hb.cell (World.block_lt_of_cell? w _ hc)).trans hc
theorem RowsIn.block (h : RowsIn w A n V l) (hV : ∀ x, (V x).size = n) (hn : 0 < n) (hA : A = some a) (hj : j < l.length) : a.block < w.heap.size := by
  have hc := h.cell a hA j hj 0 ((V l[j])[0]'(by rw [hV]; exact hn)) (by rw [Array.getElem?_eq_getElem])
  have := World.block_lt_of_cell? w _ hc
  rwa [add_blk, add_blk] at this
end
theorem weigh_mem {H : Type} {P : Program} {e : TypeId} {d : DataW H} {m : Nat} : ∀ {ds : List (DataW H)}, d ∈ ds → m ∈ d.weights P e → m ∈ DataW.weightsAll P e ds
  | x :: ds, h, hm => by
    simp only [DataW.weightsAll, List.mem_append]
    rcases List.mem_cons.1 h with rfl | h
    · exact .inl hm
    · exact .inr (weigh_mem h hm)
theorem choose_list {α : Type} {p : Nat → α → Prop} : ∀ (n : Nat), (∀ i, i < n → ∃ x, p i x) → ∃ l : List α, l.length = n ∧ ∀ i (h : i < l.length), p i l[i]
  | 0, _ => ⟨[], rfl, fun i h => by simp at h⟩
  | n + 1, h => by
    obtain ⟨l, hl, hp⟩ := choose_list n fun i hi => h i (by omega)
    obtain ⟨x, hx⟩ := h n (by omega)
    refine ⟨l ++ [x], by simp [hl], fun i hi => ?_⟩
    rw [List.length_append, List.length_singleton] at hi
    by_cases hin : i < l.length
    · rw [List.getElem_append_left hin]; exact hp i hin
    · have : i = l.length := by omega
      subst this
      rw [List.getElem_append_right (by omega)]
      simpa [hl] using hx
theorem open_rowsIn {α : Type} {V : α → Array Value} {Fit : α → Prop} {H : Type} {enc : TypeId × Value → H} {P : Program} {w : World} {base : Nat} {sp : Nat → Bool} {held : Bool} {r : Reach} {b0 : Nat} {v : Value} {d : DataW H} {p : List MemPlace} {t e : TypeId} {n : Nat}
    (ht : P.underlying t = some (.slice e)) (hn : P.cellsOf e = n)
    (each : ∀ (fuel : Nat) (cs : List Value) (x : DataW H × List MemPlace), DataW.trod enc P w base sp held fuel e cs = some x → (∀ m ∈ x.1.weights P e, m ≤ reachBytes) → ∃ X : α, cs = (V X).toList ∧ Fit X)
    (hv : Value.okWide P w r b0 t v) (h : DataW.Trod enc P w base sp held t v d p) (hw : ∀ m ∈ d.weights P t, m ≤ reachBytes) :
    ∃ A l c, v = .slice A (List.length l) c ∧ RowsIn w A n V l ∧ ∀ x ∈ l, Fit x := by
  obtain ⟨fuel, hf⟩ := h
  rcases open_slice ht hf with ⟨hcs, hx⟩ | ⟨a, len, cap, m, k, D, Pl, hcs, _, hlc, hcm, hm, hx, hel⟩
  · have hv1 : v = .slice none 0 0 := by
      cases v <;> simp [Value.okWide, Cell.okWide, Cell.ok, ht] at hv <;> simp_all [Value.cells]
    exact ⟨none, [], 0, hv1, ⟨fun _ => rfl, fun a ha => (by cases ha), by simp⟩, fun s hs => (by cases hs)⟩
  · have hv1 : v = .slice (some a) len cap := by
      cases v <;> simp [Value.okWide, Cell.okWide, Cell.ok, ht] at hv <;> simp_all [Value.cells]
    have hle : len ≤ m := by rw [hm]; split <;> omega
    injection hx with hx1 hx2
    obtain ⟨l, hl, hp⟩ := choose_list (p := fun i X => Fit X ∧ ∀ q v, (V X)[q]? = some v → w.cell? ((a.add (i * n)).add q) = some v) len fun i hi => by
      obtain ⟨cs', h1, h2⟩ := hel i (by omega)
      obtain ⟨X, e1, e2⟩ := each k cs' _ h2 fun q hq => hw q (by
        rw [hx1]; simp only [DataW.weights, ht]
        exact List.mem_cons_of_mem _ (List.mem_append_left _ (weigh_mem (List.mem_map_of_mem (List.mem_range.2 hi)) hq)))
      refine ⟨X, e2, fun q v hq => ?_⟩
      rw [hn] at h1
      obtain ⟨_, hlen, hcell⟩ := World.cells?_some h1
      have hq2 : q < (V X).size := (Array.getElem?_eq_some_iff.1 hq).1
      have hlen2 : cs'.length = (V X).size := by rw [e1]; simp
      rw [hcell q (by omega), e1]
      simpa using hq
    refine ⟨some a, l, cap, by rw [hl]; exact hv1, ⟨fun ha => (by cases ha), fun a' ha j hj i v hi => ?_, ?_⟩, fun x hx => ?_⟩
    · injection ha with ha; subst ha
      exact (hp j hj).2 i v hi
    · have : maxLen = 9223372036854775807 := rfl
      omega
    · obtain ⟨i, hi, rfl⟩ := List.mem_iff_getElem.1 hx
      exact (hp i hi).1
end Go.Proofs.YtfgacjglfdehbaaGreatDoor
/- Slices of the call's own, read like such that came in. Nothing of the program stands here. -/
namespace Go.Proofs.YtfgacjglfdehbaaGreatDoor
open Go.RowKit
set_option linter.unusedVariables false
theorem add_none (b o j : Nat) : (⟨b, o, none⟩ : Addr).add j = ⟨b, o + j, none⟩ := by unfold Addr.add; split <;> simp_all
/-- A slice of the call's own lies like one that came in. -/
theorem vec_rows {α : Type} {V : α → Array Value} {size : Nat} (hV : ∀ x, (V x).size = size) {e : TypeId} {v : Value} {l : List α} {w W : World} {F : Nat → Prop} {R : List Res} (T : Sts w F W (vecR e size v l.length (vl V l) :: R)) (h0 : 0 < size) (hl : l.length ≤ 9223372036854775807) :
    ∃ A c, v = .slice A l.length c ∧ RowsIn W A size V l ∧ l.length ≤ c ∧ ∀ a, A = some a → ∃ g, a = ⟨g, 0, none⟩ := by
  have hown := T.vec
  rcases hown.2 with ⟨rfl, h⟩ | ⟨g, cap, cur, rfl, _, hg, hn, hm, hc, ht⟩
  · have : l = [] := List.eq_nil_of_length_eq_zero (by omega)
    subst this
    exact ⟨none, 0, rfl, ⟨fun _ => rfl, fun a ha => (by cases ha), by simp⟩, Nat.le_refl _, fun a ha => (by cases ha)⟩
  · refine ⟨some ⟨g, 0, none⟩, cap, rfl, ⟨fun ha => (by cases ha), fun a ha j hj i u hu => ?_, hl⟩, hn, fun a ha => by injection ha with ha; exact ⟨g, ha.symm⟩⟩
    injection ha with ha; subst ha
    obtain ⟨g', c', hv, _, hcell⟩ := vec_cell hV T h0 hj
    injection hv with e1
    injection e1 with e1
    injection e1 with e1
    subst e1
    have := hcell i u hu
    rw [add_none, add_none, Nat.zero_add]
    exact this
section
variable {α : Type} {w W : World} {n : Nat} {V : α → Array Value} {l : List α} {P : Program} {T : TypeId} {d : TypeDesc} {g j : Nat}
/-- A part of a thing of such a slice, loaded whole. -/
theorem RowsIn.part (h : RowsIn w (some ⟨g, 0, none⟩) n V l) (hb : Below w.heap.size w W) (hj : j < l.length) (o m : Nat) (X : Array Value) (hX : ∀ i v, X[i]? = some v → (V l[j])[o + i]? = some v) (hm : X.size = m) (hu : P.underlying T = some d) (hd : d.isRow = true) (hi : (P.info? T).map (·.size) = some m) :
    loadOf P T m W g (j * n + o) = .ok (.agg X) W := by
  rw [← loadVal_at, ← load_val hu hd hi]
  refine loadAt_cells W _ _ (fun i v hv => ?_) hu hd (by rw [hi, hm])
  have hc := h.cell _ rfl j hj (o + i) v (hX i v hv)
  rw [add_none, add_none, Nat.zero_add] at hc
  rw [add_none, Nat.add_assoc]
  exact (hb.cell (World.block_lt_of_cell? w _ hc)).trans hc
/-- A cell of a thing of such a slice. -/
theorem RowsIn.one (h : RowsIn w (some ⟨g, 0, none⟩) n V l) (hb : Below w.heap.size w W) (hj : j < l.length) (o : Nat) (v : Value) (hv : (V l[j])[o]? = some v) : W.cell? ⟨g, j * n + o, none⟩ = some v := by
  have hc := h.cell _ rfl j hj o v hv
  rw [add_none, add_none, Nat.zero_add] at hc
  exact (hb.cell (World.block_lt_of_cell? w _ hc)).trans hc
end
theorem RowsIn.later {α : Type} {w W : World} {A : Option Addr} {n : Nat} {V : α → Array Value} {l : List α} (h : RowsIn w A n V l) (hb : Below w.heap.size w W) : RowsIn W A n V l :=
  ⟨h.nil, fun a ha j hj i v hv => (hb.cell (World.block_lt_of_cell? w _ (h.cell a ha j hj i v hv))).trans (h.cell a ha j hj i v hv), h.len⟩
theorem vec_shape2 {e : TypeId} {size n : Nat} {v : Value} {xs : List Value} {w W : World} {F : Nat → Prop} {R : List Res} (T : Sts w F W (vecR e size v n xs :: R)) : ∃ A c, v = .slice A n c := by
  rcases T.vec.2 with ⟨rfl, rfl⟩ | ⟨g, cap, cur, rfl, _⟩
  · exact ⟨_, _, rfl⟩
  · exact ⟨_, _, rfl⟩
end Go.Proofs.YtfgacjglfdehbaaGreatDoor
/- Things in memory, in another order. Nothing of the program stands here. -/
namespace Go.Proofs.YtfgacjglfdehbaaGreatDoor
open Go.RowKit
set_option linter.unusedVariables false
/-- The first things, in another order. -/
def pickL (L : List Res) (p : List Nat) : List Res := p.filterMap (fun i => L[i]?) ++ L.drop p.length
theorem range_get {α : Type} (L : List α) : ∀ n, (List.range n).filterMap (fun i => L[i]?) = L.take n
  | 0 => by simp
  | n + 1 => by
    rw [List.range_succ, List.filterMap_append, range_get L n, List.take_add_one]
    cases h : L[n]? <;> simp [List.filterMap, h]
theorem pick_perm (L : List Res) (p : List Nat) (hp : p.isPerm (List.range p.length) = true) : L.Perm (pickL L p) := by
  have h : p.Perm (List.range p.length) := List.isPerm_iff.1 hp
  have h2 := (h.filterMap fun i => L[i]?).symm
  rw [range_get] at h2
  have h3 := h2.append_right (L.drop p.length)
  rw [List.take_append_drop] at h3
  exact h3
theorem Sts.ord {w W : World} {F : Nat → Prop} {L L' : List Res} (h : Sts w F W L) (p : List Nat) (hp : p.isPerm (List.range p.length) = true := by rfl) (e : pickL L p = L' := by dsimp only [pickL, List.filterMap, List.length_cons, List.length_nil, Nat.reduceAdd, List.drop, List.getElem?_cons_succ, List.getElem?_cons_zero, List.cons_append, List.nil_append]) : Sts w F W L' := by
  rw [← e]; exact h.perm (pick_perm L p hp)
example {w W : World} {F : Nat → Prop} {a b c d : Res} {R : List Res} (h : Sts w F W (a :: b :: c :: d :: R)) : Sts w F W (c :: a :: d :: b :: R) := by
  have T := h.ord [2, 0, 1]
  have T2 := T.ord [0, 1, 3, 2]
  with_reducible exact T2
example {w W : World} {F : Nat → Prop} {a b c d : Res} (h : Sts w F W [a, b, c, d]) : Sts w F W [d, a, b, c] := by
  have T := h.ord [3, 0, 1, 2]
  with_reducible exact T
end Go.Proofs.YtfgacjglfdehbaaGreatDoor
/- Layer 3: rows of items: what stands at a place. -/
namespace Go.Proofs.YtfgacjglfdehbaaGreatDoor
open Go.RowKit
set_option linter.unusedVariables false
set_option maxRecDepth 20000
attribute [local go_sem] row_alloc row_drew row_drewN row_ext row_setCell row_setRow size_ext setRow_alloc setRow_drew loadOf storeOf piece_lit loadVal_at storeVal_at allOne_lit buildOf buildRes_some
attribute [local go_sem high] cell_alloc frozen_alloc setCell_alloc cell_ext frozen_ext cell_setRow frozen_setRow
attribute [local go_sem ↓] TDeed_ld0 TDeed_st0 TDeed_fd0 TDeed_bd0
attribute [local go_sem] TDeed_size TDeed_one TDeed_piece TDeed_c0 TDeed_c1 TDeed_c2 TDeed_c3 TDeed_c4 TDeed_c5 TDeed_set_kind TDeed_set_key TDeed_set_val TDeed_set_ver TDeed_set_ses TDeed_set_num TDeed_ld TDeed_st TDeed_f_kind TDeed_f_key TDeed_f_val TDeed_f_ver TDeed_f_ses TDeed_f_num TDeed_bd TDeed_fl TDeed_fl_kind TDeed_fl_key TDeed_fl_val TDeed_fl_ver TDeed_fl_ses TDeed_fl_num
attribute [local go_sem high] TDeed_eql TDeed_neq
attribute [local go_sem ↓] index_deps0 load_deps0 store_deps0
attribute [local go_sem] DV_piece DV_size DV_one index_deps load_deps store_deps
attribute [local go_sem high] TDeps_eql TDeps_neq
attribute [local go_sem ↓] TCall_ld0 TCall_st0 TCall_fd0 TCall_bd0
attribute [local go_sem] TCall_size TCall_one TCall_piece TCall_c0 TCall_c1 TCall_c2 TCall_c3 TCall_c4 TCall_c5 TCall_c6 TCall_c7 TCall_c8 TCall_c9 TCall_c10 TCall_c11 TCall_c12 TCall_c13 TCall_p_deed TCall_put_deed TCall_p_deps TCall_put_deps TCall_set_seq TCall_ld TCall_st TCall_f_deed TCall_f_deps TCall_f_seq TCall_bd TCall_fl TCall_fl_deed TCall_fl_deps TCall_fl_seq
attribute [local go_sem high] TCall_eql TCall_neq
attribute [local go_sem ↓] TItem_ld0 TItem_st0 TItem_fd0 TItem_bd0
attribute [local go_sem] TItem_size TItem_one TItem_piece TItem_c0 TItem_c1 TItem_set_rep TItem_set_num TItem_ld TItem_st TItem_f_rep TItem_f_num TItem_bd TItem_fl TItem_fl_rep TItem_fl_num
attribute [local go_sem high] TItem_eql TItem_neq
attribute [local go_sem ↓] TBallot_ld0 TBallot_st0 TBallot_fd0 TBallot_bd0
attribute [local go_sem] TBallot_size TBallot_one TBallot_piece TBallot_c0 TBallot_c1 TBallot_set_round TBallot_set_rep TBallot_ld TBallot_st TBallot_f_round TBallot_f_rep TBallot_bd TBallot_fl TBallot_fl_round TBallot_fl_rep
attribute [local go_sem high] TBallot_eql TBallot_neq
attribute [local go_sem ↓] TInst_ld0 TInst_st0 TInst_fd0 TInst_bd0
attribute [local go_sem] TInst_size TInst_one TInst_piece TInst_c0 TInst_c1 TInst_c2 TInst_c3 TInst_c4 TInst_c5 TInst_c6 TInst_c7 TInst_c8 TInst_c9 TInst_c10 TInst_c11 TInst_c12 TInst_c13 TInst_c14 TInst_c15 TInst_c16 TInst_c17 TInst_c18 TInst_c19 TInst_p_prom TInst_put_prom TInst_p_vote TInst_put_vote TInst_set_status TInst_p_call TInst_put_call TInst_set_same TInst_ld TInst_st TInst_f_prom TInst_f_vote TInst_f_status TInst_f_call TInst_f_same TInst_bd TInst_fl TInst_fl_prom TInst_fl_vote TInst_fl_status TInst_fl_call TInst_fl_same
attribute [local go_sem high] TInst_eql TInst_neq
attribute [local go_sem] rcells_n
theorem ret_row2 {P : Program} {fn : Func} {R : Ending → World → Prop} {a : Act} {w : World} {p u : Tmp} {T : TypeId} {n : Nat} {d : TypeDesc} (X : Array Value) {g : Nat} (hu : P.underlying T = some d) (hd : d.isRow = true)
    (hi : (P.info? T).map (·.size) = some n) (hr : fn.results = #[.cell p T, .tmp u]) (hp : a.tmps.getD p undef = .pointer (some ⟨g, 0, none⟩)) (hdf : a.defers = []) (hX : X.size = n) (hrow : row? w g = some X) (hR : R (.returned (.tuple #[.agg X, a.tmps.getD u undef])) w) : bodyPost P fn R .ret a w := by
  obtain ⟨t, ht⟩ := row_some hrow
  refine bodyPost_ret (v := .tuple #[.agg X, a.tmps.getD u undef]) ?_ hdf hR
  have hp' : a.tmps[p]?.getD undef = .pointer (some ⟨g, 0, none⟩) := by simpa using hp
  simp [results, hr, hp', asAddr, run_loadVar_row w g t T X (0, 0) d ht hu (by cases d <;> first | rfl | exact hd) (by rw [hi, hX])]
theorem noInst_lit : NV noInst = #[.int .i64 0, .int .i64 0, .int .i64 0, .int .i64 0, .int .i64 0, .int .i64 0, .string { data := #[] }, .string { data := #[] }, .int .i64 0, .int .i64 0, .int .i64 0, .int .i64 0, .int .i64 0, .int .i64 0, .int .i64 0, .int .i64 0, .int .i64 0, .int .i64 0, .int .i64 0, .bool false] := by kernel_rfl
/-- A call that reads some things, and leaves all as it was. -/
def Reads (P : Program) (f : FuncId) (args : Array Value) (L : List Res) (v : Value) : Prop :=
  ∀ W G, Sat W L G → Calls P f args W fun e W' => e = .returned v ∧ Below W.heap.size W W'
theorem Sts.satOf {w W : World} {F : Nat → Prop} {L R : List Res} (T : Sts w F W (L ++ R)) : ∃ G, Sat W L G := by
  obtain ⟨G, hG, _⟩ := T.call
  exact ⟨G, hG⟩
theorem Reads.at {P : Program} {f : FuncId} {args : Array Value} {L R : List Res} {v : Value} {w W : World} {F : Nat → Prop} (h : Reads P f args L v) (T : Sts w F W (L ++ R)) : Calls P f args W fun e W' => e = .returned v ∧ Below W.heap.size W W' := by
  obtain ⟨G, hG⟩ := T.satOf
  exact h W G hG
theorem Reads.at1 {P : Program} {f : FuncId} {args : Array Value} {r : Res} {R : List Res} {v : Value} {w W : World} {F : Nat → Prop} (h : Reads P f args [r] v) (T : Sts w F W (r :: R)) : Calls P f args W fun e W' => e = .returned v ∧ Below W.heap.size W W' := Reads.at (R := R) h T
theorem Reads.does {P : Program} {f : FuncId} {args : Array Value} {L : List Res} {v : Value} (h : Reads P f args L v) : Does P f args L v L := fun W G hS =>
  (h W G hS).mono fun _ _ ⟨he, hb⟩ => ⟨he, (Sts.start hS).pure hb⟩
/-- What lies in rows of items. -/
theorem rows_facts {W : World} {G : Nat → Prop} {g : Nat} {m : RowsM} (hS : Sat W [rowsIR g m] G) {k : Nat} (hk : k < 7) : ∃ v h A c B d, v k = .slice A (m.f k).length c ∧ h k = .slice B (m.f k).length d ∧
    row? W g = some (rcells m.n v h) ∧ RowsIn W A 20 NVo (m.f k) ∧ RowsIn W B 1 HVo (m.f k) ∧ (∀ a, A = some a → ∃ gv, a = ⟨gv, 0, none⟩) ∧ ∀ a, B = some a → ∃ gv, a = ⟨gv, 0, none⟩ := by
  obtain ⟨v, h, T⟩ := (Sts.start hS).rowsOpen hk
  have hml : (m.f k).length ≤ 9223372036854775807 := by
    rcases T.drop.vec.2 with ⟨-, h⟩ | ⟨g, cap, cur, -, _, hg, hn, hm, _⟩
    · omega
    · unfold maxLen at hm; omega
  obtain ⟨A, c, hv, hA, _, hAa⟩ := vec_rows NVo_size T.drop (by omega) hml
  obtain ⟨B, d, hh, hB, _, hBa⟩ := vec_rows HVo_size T.drop.drop (by omega) hml
  exact ⟨v, h, A, c, B, d, hv, hh, T.row, hA, hB, hAa, hBa⟩
set_option maxHeartbeats 4000000 in
theorem irAtR (g : Nat) (m : RowsM) (hn : 0 ≤ m.n ∧ m.n ≤ 7) (x : Item) :
    Reads Tryz.prog 67 #[.pointer (some ⟨g, 0, none⟩), .agg (IV x)] [rowsIR g m] (.tuple #[.agg (NV ((getM m x).getD noInst)), .bool (getM m x).isSome]) := by
  intro W G hS
  obtain ⟨w3, hw3⟩ : ∃ w3, w3 = ((W.alloc (.cells (IV x) 32)).alloc (.cells (NV noInst) 52)).alloc (.cells (NV noInst) 52) := ⟨_, rfl⟩
  have T := (((Sts.start0 W).new (IV x) 32).new (NV noInst) 52).new (NV noInst) 52
  simp only [World.size_alloc] at T
  rw [← hw3] at T
  rw [noInst_lit] at hw3
  -- result, none, item
  have cg := itemGood_any x m.n
  have hB := T.below
  cases hg : goodI x m.n
  case false =>
    obtain ⟨v, h, A, c, B, d, -, -, hr, -⟩ := rows_facts hS (k := 0) (by omega)
    have r0 : row? w3 g = some (rcells m.n v h) := (row_below hB (row_lt hr)).trans hr
    have c0 : w3.cell? ⟨g, 0, none⟩ = some (.int .i64 m.n) := row_cell r0 0
    have hm : getM m x = none := by unfold getM; rw [hg, if_neg (by simp)]
    rw [hm]
    rw [hg] at cg
    clear hS hr hB hm hg
    go_enter Tryz.func67, Tryz.ntmps67
    go_wp2_with fail
    rw [← hw3]
    clear hw3
    generalize W.heap.size + 1 + 1 = g3 at *
    generalize W.heap.size + 1 = g2 at *
    generalize hg1 : W.heap.size = g1 at *
    have r4 := T.row; have r5 := T.row1; have r6 := T.row2
    have l4 := row_lt r4; have l5 := row_lt r5; have l6 := row_lt r6
    have c6 := row_cell r6
    have l0 : g < w3.heap.size := row_lt r0
    refine wp_region_ext (by kernel_rfl) (by kernel_rfl) ?_
    repeat (go_big_quiet_step (first | (go_at_call 40; exact cg.quiet)))
    refine wpQuiet_nil ?_
    rintro _ ⟨x9, rfl⟩
    have T := T.ext x9
    clear r4 r5 r6 l4 l5 l6 c6 c0 l0 r0
    generalize ext _ x9 = w4 at *
    have r4 := T.row; have r5 := T.row1; have l4 := row_lt r4; have l5 := row_lt r5; have c5 := row_cell r5
    go_wp2_with fail
    have T := T.swap.setRow (NV noInst)
    refine ret_row2 (NV noInst) TInst_und rfl (by kernel_rfl) rfl rfl rfl (TInst_size _) T.row ?_
    exact ⟨rfl, hg1 ▸ T.below⟩
  case true =>
    rw [hg] at cg
    have hg2 := hg
    unfold goodI at hg2
    rw [decide_eq_true_iff] at hg2
    obtain ⟨xr, xn⟩ := x
    dsimp only at hg2
    obtain ⟨k, rfl⟩ := Int.eq_ofNat_of_zero_le hg2.1
    obtain ⟨j, rfl⟩ : ∃ j : Nat, xn = (j : Int) + 1 := ⟨(xn - 1).toNat, by omega⟩
    have hk : k < 7 := by omega
    have hgm : getM m ⟨(k : Int), (j : Int) + 1⟩ = ((m.f k)[j]?).join := by
      unfold getM
      rw [hg, if_pos rfl]
      have e1 : ((k : Int)).toNat = k := by omega
      have e2 : ((j : Int) + 1).toNat - 1 = j := by omega
      dsimp only
      rw [e1, e2]
    rw [hgm]
    clear hgm hg
    obtain ⟨v, h, A, c, B, d, hv, hh, hr, hA, hBB, hAa, hBa⟩ := rows_facts hS hk
    have r0 : row? w3 g = some (rcells m.n v h) := (row_below hB (row_lt hr)).trans hr
    have c0 : w3.cell? ⟨g, 0, none⟩ = some (.int .i64 m.n) := row_cell r0 0
    have hcv : w3.cell? ⟨g, 1 + k, none⟩ = some (.slice A (m.f k).length c) := by rw [row_cell r0, rcells_v _ _ _ _ hk, hv]
    have hch : w3.cell? ⟨g, 8 + k, none⟩ = some (.slice B (m.f k).length d) := by rw [row_cell r0, rcells_h _ _ _ _ hk, hh]
    have hj64 : j < 64 := by omega
    clear hS
    cases hoj : (m.f k)[j]? with
    | none =>
      have hjl : ¬ j < (m.f k).length := fun h => by rw [List.getElem?_eq_getElem h] at hoj; cases hoj
      have hdl : decide (((m.f k).length : Int) < (j : Int) + 1) = true := by rw [decide_eq_true_iff]; omega
      clear hr hB hA hBB hAa hBa
      go_enter Tryz.func67, Tryz.ntmps67
      go_wp2_with fail
      rw [← hw3]
      clear hw3
      generalize W.heap.size + 1 + 1 = g3 at *
      generalize W.heap.size + 1 = g2 at *
      generalize hg1 : W.heap.size = g1 at *
      have r4 := T.row; have r5 := T.row1; have r6 := T.row2
      have l4 := row_lt r4; have l5 := row_lt r5; have l6 := row_lt r6
      have c6 := row_cell r6
      have l0 : g < w3.heap.size := row_lt r0
      refine wp_region_ext (by kernel_rfl) (by kernel_rfl) ?_
      repeat (go_big_quiet_step (first | (go_at_call 40; exact cg.quiet)))
      refine wpQuiet_nil ?_
      rintro _ ⟨x9, rfl⟩
      have T := T.ext x9
      clear r4 r5 r6 l4 l5 l6 c6 c0 l0 r0 hcv hch
      generalize ext _ x9 = w4 at *
      have r4 := T.row; have r5 := T.row1; have l4 := row_lt r4; have l5 := row_lt r5; have c5 := row_cell r5
      go_wp2_with fail
      have T := T.swap.setRow (NV noInst)
      refine ret_row2 (NV noInst) TInst_und rfl (by kernel_rfl) rfl rfl rfl (TInst_size _) T.row ?_
      exact ⟨rfl, hg1 ▸ T.below⟩
    | some o =>
      have hjl : j < (m.f k).length := (List.getElem?_eq_some_iff.1 hoj).1
      have hdl : decide (((m.f k).length : Int) < (j : Int) + 1) = false := by rw [decide_eq_false_iff_not]; omega
      have hlj : (m.f k)[j] = o := (List.getElem?_eq_some_iff.1 hoj).2
      cases B with
      | none => rw [hBB.nil rfl] at hjl; simp at hjl
      | some b =>
      obtain ⟨gb, rfl⟩ := hBa b rfl
      have hcb : w3.cell? ⟨gb, j, none⟩ = some (.bool o.isSome) := by
        have := hBB.one hB hjl 0 (.bool o.isSome) (by rw [hlj]; rfl)
        rw [Nat.mul_one, Nat.add_zero] at this; exact this
      have hgb := World.block_lt_of_cell? w3 _ hcb
      cases o with
      | none =>
        clear hr hB hA hBB hAa hBa
        simp only [Option.isSome] at hcb
        go_enter Tryz.func67, Tryz.ntmps67
        go_wp2_with fail
        rw [← hw3]
        clear hw3
        generalize W.heap.size + 1 + 1 = g3 at *
        generalize W.heap.size + 1 = g2 at *
        generalize hg1 : W.heap.size = g1 at *
        have r4 := T.row; have r5 := T.row1; have r6 := T.row2
        have l4 := row_lt r4; have l5 := row_lt r5; have l6 := row_lt r6
        have c6 := row_cell r6
        have l0 : g < w3.heap.size := row_lt r0
        refine wp_region_ext (by kernel_rfl) (by kernel_rfl) ?_
        repeat (go_big_quiet_step (first | (go_at_call 40; exact cg.quiet)))
        refine wpQuiet_nil ?_
        rintro _ ⟨x9, rfl⟩
        have T := T.ext x9
        clear r4 r5 r6 l4 l5 l6 c6 c0 l0 r0 hcv hch hcb hgb
        generalize ext _ x9 = w4 at *
        have r4 := T.row; have r5 := T.row1; have l4 := row_lt r4; have l5 := row_lt r5; have c5 := row_cell r5
        go_wp2_with fail
        have T := T.swap.setRow (NV noInst)
        refine ret_row2 (NV noInst) TInst_und rfl (by kernel_rfl) rfl rfl rfl (TInst_size _) T.row ?_
        exact ⟨rfl, hg1 ▸ T.below⟩
      | some t =>
        simp only [Option.isSome] at hcb
        have hrg := row_lt hr
        have HR := Lib.hid hr; have HA := Lib.hid hA; have HAa := Lib.hid hAa
        clear hr hB hA hBB hAa hBa
        go_enter Tryz.func67, Tryz.ntmps67
        go_wp2_with fail
        rw [← hw3]
        clear hw3
        generalize W.heap.size + 1 + 1 = g3 at *
        generalize W.heap.size + 1 = g2 at *
        generalize hg1 : W.heap.size = g1 at *
        have r4 := T.row; have r5 := T.row1; have r6 := T.row2
        have l4 := row_lt r4; have l5 := row_lt r5; have l6 := row_lt r6
        have c6 := row_cell r6
        have l0 : g < w3.heap.size := row_lt r0
        refine wp_region_ext (by kernel_rfl) (by kernel_rfl) ?_
        repeat (go_big_quiet_step (first | (go_at_call 40; exact cg.quiet)))
        refine wpQuiet_nil ?_
        rintro _ ⟨x9, rfl⟩
        have T := T.ext x9
        clear r4 r5 r6 l4 l5 l6 c6 c0 l0 r0 hcv hch hcb hgb
        generalize ext _ x9 = w4 at *
        have r4 := T.row; have r5 := T.row1; have l4 := row_lt r4; have l5 := row_lt r5
        go_upto_region 4 with fail
        clear r4 l4
        have TE := T.swap
        obtain ⟨S, hSd⟩ : ∃ S : World → Prop, ∀ W', S W' ↔ ∃ Y, Sts W (fun _ => False) W' [rowR g2 Y, rowR g3 (NV noInst), rowR g1 (IV ⟨(k : Int), (j : Int) + 1⟩)] := ⟨_, fun _ => Iff.rfl⟩
        have s0 : S w4.drew := (hSd _).2 ⟨_, TE.drew⟩
        have KS : ∀ W' X, S W' → S (W'.setRow g2 X) := fun W' X h => let ⟨Y, h⟩ := (hSd _).1 h; (hSd _).2 ⟨X, h.setRow X⟩
        have BS : ∀ W', S W' → Below W.heap.size W W' := fun W' h => let ⟨Y, h⟩ := (hSd _).1 h; h.below
        cases A with
        | none => rw [HA.out.nil rfl] at hjl; simp at hjl
        | some a =>
          obtain ⟨gv, rfl⟩ := HAa.out a rfl
          have q1 : ∀ W', S W' → W'.cell? ⟨g, 1 + k, none⟩ = some (.slice (some ⟨gv, 0, none⟩) (m.f k).length c) := fun W' hs => by
            have := (row_below (BS _ hs) (row_lt HR.out)).trans HR.out
            rw [row_cell this, rcells_v _ _ _ _ hk, hv]
          have q2 : ∀ W', S W' → W'.cell? ⟨g1, 0, none⟩ = some (.int .i64 k) := fun W' hs => by
            obtain ⟨Y, h⟩ := (hSd _).1 hs
            exact row_cell h.row2 0
          have q3 : ∀ W', S W' → W'.cell? ⟨g1, 1, none⟩ = some (.int .i64 ((j : Int) + 1)) := fun W' hs => by
            obtain ⟨Y, h⟩ := (hSd _).1 hs
            exact row_cell h.row2 1
          have q4 : ∀ W', S W' → loadVal Tryz.prog 52 20 W' (.pointer (some ⟨gv, j * 20, none⟩)) = .ok (.agg (NV t)) W' := fun W' hs => by
            have := HA.out.load (P := Tryz.prog) (T := 52) NVo_size TInst_und rfl (by kernel_rfl) (BS _ hs) rfl hjl
            rw [add_none, Nat.zero_add, hlj] at this
            exact this
          have FS : ∀ W', S W' → S W' ∧ W'.cell? ⟨g1, 0, none⟩ = some (.int .i64 k) ∧ W'.cell? ⟨g1, 1, none⟩ = some (.int .i64 ((j : Int) + 1)) ∧ W'.cell? ⟨g, 1 + k, none⟩ = some (.slice (some ⟨gv, 0, none⟩) (m.f k).length c) ∧ loadVal Tryz.prog 52 20 W' (.pointer (some ⟨gv, j * 20, none⟩)) = .ok (.agg (NV t)) W' := fun W' h => ⟨h, q2 W' h, q3 W' h, q1 W' h, q4 W' h⟩
          have K2 : ∀ W' X, (S W' ∧ W'.cell? ⟨g1, 0, none⟩ = some (.int .i64 k) ∧ W'.cell? ⟨g1, 1, none⟩ = some (.int .i64 ((j : Int) + 1)) ∧ W'.cell? ⟨g, 1 + k, none⟩ = some (.slice (some ⟨gv, 0, none⟩) (m.f k).length c) ∧ loadVal Tryz.prog 52 20 W' (.pointer (some ⟨gv, j * 20, none⟩)) = .ok (.agg (NV t)) W') → (S (W'.setRow g2 X) ∧ (W'.setRow g2 X).cell? ⟨g1, 0, none⟩ = some (.int .i64 k) ∧ (W'.setRow g2 X).cell? ⟨g1, 1, none⟩ = some (.int .i64 ((j : Int) + 1)) ∧ (W'.setRow g2 X).cell? ⟨g, 1 + k, none⟩ = some (.slice (some ⟨gv, 0, none⟩) (m.f k).length c) ∧ loadVal Tryz.prog 52 20 (W'.setRow g2 X) (.pointer (some ⟨gv, j * 20, none⟩)) = .ok (.agg (NV t)) (W'.setRow g2 X)) := fun W' X h => FS _ (KS W' X h.1)
          have S0 := FS _ s0
          have HTE := Lib.hid TE
          clear hSd TE q1 q2 q3 q4 KS FS s0 BS T HA HAa HR
          have hk7 : (k : Int) < 7 := by omega
          have hk0 : ¬ (k : Int) < 0 := by omega
          have hj7 : (j : Int) < ((m.f k).length : Int) := by omega
          have hj0 : (0 : Int) ≤ (j : Int) := by omega
          have hw1 : IntKind.i64.wrap ((j : Int) + 1 - 1) = j := by rw [IntKind.wrap_i64]; omega
          have hw2 : IntKind.i64.wrap (j : Int) = j := by rw [IntKind.wrap_i64]; omega
          go_region_held3 (fun W' => S W' ∧ W'.cell? ⟨g1, 0, none⟩ = some (.int .i64 k) ∧ W'.cell? ⟨g1, 1, none⟩ = some (.int .i64 ((j : Int) + 1)) ∧ W'.cell? ⟨g, 1 + k, none⟩ = some (.slice (some ⟨gv, 0, none⟩) (m.f k).length c) ∧ loadVal Tryz.prog 52 20 W' (.pointer (some ⟨gv, j * 20, none⟩)) = .ok (.agg (NV t)) W')
            (first | assumption | exact S0 | exact K2 _ _ (by assumption))
            (fail)
          have TF := HTE.out.drew.setRow (NV t)
          clear HTE S0 K2
          simp only [Exit.then]
          go_wp2_with fail
          refine ret_row2 (NV t) TInst_und rfl (by kernel_rfl) rfl rfl rfl (TInst_size _) TF.row ?_
          exact ⟨rfl, hg1 ▸ TF.below⟩
end Go.Proofs.YtfgacjglfdehbaaGreatDoor
