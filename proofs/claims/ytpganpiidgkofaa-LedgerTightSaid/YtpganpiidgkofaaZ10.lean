/- Several texts in one. -/
import Derived.Test.YtpganpiidgkofaaZ2
import Derived.Deep.Slices
import Derived.DataReads
import Derived.Test.YtpganpiidgkofaaZ8
/- A slice of wide things that came in: its cells, its loads. Nothing of the program stands here. -/
namespace Go.Proofs.Ytpganpiidgkofaa
open Go.ChangeShapes Go.WideShapes Go.ChangeAt Go.RowKit Go.WideMaps Go.WideElems Go.Joins Go.Deep
set_option linter.unusedVariables false
/-- The slice with this address holds these things, each of n cells. -/
structure RowsIn {α : Type} (w : World) (A : Option Addr) (n : Nat) (V : α → Array Value) (l : List α) : Prop where
  nil : A = none → l = []
  cell : ∀ a, A = some a → ∀ j (h : j < l.length) i v, (V l[j])[i]? = some v → w.cell? ((a.add (j * n)).add i) = some v
  len : l.length ≤ 9223372036854775807
theorem add_blk (a : Addr) (j : Nat) : (a.add j).block = a.block := by unfold Addr.add; split <;> rfl
section
variable {α : Type} {w W : World} {A : Option Addr} {n : Nat} {V : α → Array Value} {l : List α} {P : Program} {T : TypeId} {d : TypeDesc} {a : Addr} {j : Nat}
theorem loadAt_cells (W : World) (a : Addr) (X : Array Value) (hc : ∀ i v, X[i]? = some v → W.cell? (a.add i) = some v) (hu : P.underlying T = some d) (hd : d.isRow = true) (hi : (P.info? T).map (·.size) = some X.size) :
    (Instr.loadAt T (.pointer (some a))).run P W = .ok (.agg X) W := by
  have hl : (loadCells a X.size).run P W = .ok X W := by
    have := run_loadCells_list (P := P) (w := W) a X.toList (fun j v hv => hc j v (by simpa using hv))
    simpa using this
  cases hq : P.info? T with
  | none => simp [hq] at hi
  | some i =>
    have hs : i.size = X.size := by simpa [hq] using hi
    have hagg : (isAgg T).run P W = .ok true W := by
      unfold isAgg
      rw [Sem.run_bind, run_underlying hu W]
      cases d <;> simp_all
    simp [Instr.loadAt, Instr.sureAddr, loadVar, Sem.run_bind, hagg, sizeOf, typeInfo, hq, hs, hl]
theorem RowsIn.load (h : RowsIn w A n V l) (hV : ∀ x, (V x).size = n) (hu : P.underlying T = some d) (hd : d.isRow = true) (hi : (P.info? T).map (·.size) = some n) (hb : Below w.heap.size w W) (hA : A = some a) (hj : j < l.length) :
    loadVal P T n W (.pointer (some (a.add (j * n)))) = .ok (.agg (V l[j])) W := by
  rw [← load_val hu hd hi]
  refine loadAt_cells W _ _ (fun i v hv => ?_) hu hd (by rw [hi, hV])
  have hc := h.cell a hA j hj i v hv
  exact (hb.cell (World.block_lt_of_cell? w _ hc)).trans hc
theorem RowsIn.block (h : RowsIn w A n V l) (hV : ∀ x, (V x).size = n) (hn : 0 < n) (hA : A = some a) (hj : j < l.length) : a.block < w.heap.size := by
  have hc := h.cell a hA j hj 0 ((V l[j])[0]'(by rw [hV]; exact hn)) (by rw [Array.getElem?_eq_getElem])
  have := World.block_lt_of_cell? w _ hc
  rwa [add_blk, add_blk] at this
end
theorem weigh_mem {H : Type} {P : Program} {e : TypeId} {d : DataW H} {m : Nat} : ∀ {ds : List (DataW H)}, d ∈ ds → m ∈ d.weights P e → m ∈ DataW.weightsAll P e ds
  | x :: ds, h, hm => by
    simp only [DataW.weightsAll, List.mem_append]
    rcases List.mem_cons.1 h with rfl | h
    · exact .inl hm
    · exact .inr (weigh_mem h hm)
theorem choose_list {α : Type} {p : Nat → α → Prop} : ∀ (n : Nat), (∀ i, i < n → ∃ x, p i x) → ∃ l : List α, l.length = n ∧ ∀ i (h : i < l.length), p i l[i]
  | 0, _ => ⟨[], rfl, fun i h => by simp at h⟩
  | n + 1, h => by
    obtain ⟨l, hl, hp⟩ := choose_list n fun i hi => h i (by omega)
    obtain ⟨x, hx⟩ := h n (by omega)
    refine ⟨l ++ [x], by simp [hl], fun i hi => ?_⟩
    rw [List.length_append, List.length_singleton] at hi
    by_cases hin : i < l.length
    · rw [List.getElem_append_left hin]; exact hp i hin
    · have : i = l.length := by omega
      subst this
      rw [List.getElem_append_right (by omega)]
      simpa [hl] using hx
theorem open_rowsIn {α : Type} {V : α → Array Value} {Fit : α → Prop} {H : Type} {enc : TypeId × Value → H} {P : Program} {w : World} {base : Nat} {sp : Nat → Bool} {held : Bool} {r : Reach} {b0 : Nat} {v : Value} {d : DataW H} {p : List MemPlace} {t e : TypeId} {n : Nat}
    (ht : P.underlying t = some (.slice e)) (hn : P.cellsOf e = n)
    (each : ∀ (fuel : Nat) (cs : List Value) (x : DataW H × List MemPlace), DataW.trod enc P w base sp held fuel e cs = some x → (∀ m ∈ x.1.weights P e, m ≤ reachBytes) → ∃ X : α, cs = (V X).toList ∧ Fit X)
    (hv : Value.okWide P w r b0 t v) (h : DataW.Trod enc P w base sp held t v d p) (hw : ∀ m ∈ d.weights P t, m ≤ reachBytes) :
    ∃ A l c, v = .slice A (List.length l) c ∧ RowsIn w A n V l ∧ ∀ x ∈ l, Fit x := by
  obtain ⟨fuel, hf⟩ := h
  rcases open_slice ht hf with ⟨hcs, hx⟩ | ⟨a, len, cap, m, k, D, Pl, hcs, _, hlc, hcm, hm, hx, hel⟩
  · have hv1 : v = .slice none 0 0 := by
      cases v <;> simp [Value.okWide, Cell.okWide, Cell.ok, ht] at hv <;> simp_all [Value.cells]
    exact ⟨none, [], 0, hv1, ⟨fun _ => rfl, fun a ha => (by cases ha), by simp⟩, fun s hs => (by cases hs)⟩
  · have hv1 : v = .slice (some a) len cap := by
      cases v <;> simp [Value.okWide, Cell.okWide, Cell.ok, ht] at hv <;> simp_all [Value.cells]
    have hle : len ≤ m := by rw [hm]; split <;> omega
    injection hx with hx1 hx2
    obtain ⟨l, hl, hp⟩ := choose_list (p := fun i X => Fit X ∧ ∀ q v, (V X)[q]? = some v → w.cell? ((a.add (i * n)).add q) = some v) len fun i hi => by
      obtain ⟨cs', h1, h2⟩ := hel i (by omega)
      obtain ⟨X, e1, e2⟩ := each k cs' _ h2 fun q hq => hw q (by
        rw [hx1]; simp only [DataW.weights, ht]
        exact List.mem_cons_of_mem _ (List.mem_append_left _ (weigh_mem (List.mem_map_of_mem (List.mem_range.2 hi)) hq)))
      refine ⟨X, e2, fun q v hq => ?_⟩
      rw [hn] at h1
      obtain ⟨_, hlen, hcell⟩ := World.cells?_some h1
      have hq2 : q < (V X).size := (Array.getElem?_eq_some_iff.1 hq).1
      have hlen2 : cs'.length = (V X).size := by rw [e1]; simp
      rw [hcell q (by omega), e1]
      simpa using hq
    refine ⟨some a, l, cap, by rw [hl]; exact hv1, ⟨fun ha => (by cases ha), fun a' ha j hj i v hi => ?_, ?_⟩, fun x hx => ?_⟩
    · injection ha with ha; subst ha
      exact (hp j hj).2 i v hi
    · have : maxLen = 9223372036854775807 := rfl
      omega
    · obtain ⟨i, hi, rfl⟩ := List.mem_iff_getElem.1 hx
      exact (hp i hi).1
end Go.Proofs.Ytpganpiidgkofaa
/- Slices of the call's own, read like such that came in. Nothing of the program stands here. -/
namespace Go.Proofs.Ytpganpiidgkofaa
open Go.RowKit
set_option linter.unusedVariables false
theorem add_none (b o j : Nat) : (⟨b, o, none⟩ : Addr).add j = ⟨b, o + j, none⟩ := by unfold Addr.add; split <;> simp_all
/-- A slice of the call's own lies like one that came in. -/
theorem vec_rows {α : Type} {V : α → Array Value} {size : Nat} (hV : ∀ x, (V x).size = size) {e : TypeId} {v : Value} {l : List α} {w W : World} {F : Nat → Prop} {R : List Res} (T : Sts w F W (vecR e size v l.length (vl V l) :: R)) (h0 : 0 < size) (hl : l.length ≤ 9223372036854775807) :
    ∃ A c, v = .slice A l.length c ∧ RowsIn W A size V l ∧ l.length ≤ c ∧ ∀ a, A = some a → ∃ g, a = ⟨g, 0, none⟩ := by
  have hown := T.vec
  rcases hown.2 with ⟨rfl, h⟩ | ⟨g, cap, cur, rfl, _, hg, hn, hm, hc, ht⟩
  · have : l = [] := List.eq_nil_of_length_eq_zero (by omega)
    subst this
    exact ⟨none, 0, rfl, ⟨fun _ => rfl, fun a ha => (by cases ha), by simp⟩, Nat.le_refl _, fun a ha => (by cases ha)⟩
  · refine ⟨some ⟨g, 0, none⟩, cap, rfl, ⟨fun ha => (by cases ha), fun a ha j hj i u hu => ?_, hl⟩, hn, fun a ha => by injection ha with ha; exact ⟨g, ha.symm⟩⟩
    injection ha with ha; subst ha
    obtain ⟨g', c', hv, _, hcell⟩ := vec_cell hV T h0 hj
    injection hv with e1
    injection e1 with e1
    injection e1 with e1
    subst e1
    have := hcell i u hu
    rw [add_none, add_none, Nat.zero_add]
    exact this
section
variable {α : Type} {w W : World} {n : Nat} {V : α → Array Value} {l : List α} {P : Program} {T : TypeId} {d : TypeDesc} {g j : Nat}
/-- A part of a thing of such a slice, loaded whole. -/
theorem RowsIn.part (h : RowsIn w (some ⟨g, 0, none⟩) n V l) (hb : Below w.heap.size w W) (hj : j < l.length) (o m : Nat) (X : Array Value) (hX : ∀ i v, X[i]? = some v → (V l[j])[o + i]? = some v) (hm : X.size = m) (hu : P.underlying T = some d) (hd : d.isRow = true) (hi : (P.info? T).map (·.size) = some m) :
    loadOf P T m W g (j * n + o) = .ok (.agg X) W := by
  rw [← loadVal_at, ← load_val hu hd hi]
  refine loadAt_cells W _ _ (fun i v hv => ?_) hu hd (by rw [hi, hm])
  have hc := h.cell _ rfl j hj (o + i) v (hX i v hv)
  rw [add_none, add_none, Nat.zero_add] at hc
  rw [add_none, Nat.add_assoc]
  exact (hb.cell (World.block_lt_of_cell? w _ hc)).trans hc
/-- A cell of a thing of such a slice. -/
theorem RowsIn.one (h : RowsIn w (some ⟨g, 0, none⟩) n V l) (hb : Below w.heap.size w W) (hj : j < l.length) (o : Nat) (v : Value) (hv : (V l[j])[o]? = some v) : W.cell? ⟨g, j * n + o, none⟩ = some v := by
  have hc := h.cell _ rfl j hj o v hv
  rw [add_none, add_none, Nat.zero_add] at hc
  exact (hb.cell (World.block_lt_of_cell? w _ hc)).trans hc
end
theorem RowsIn.later {α : Type} {w W : World} {A : Option Addr} {n : Nat} {V : α → Array Value} {l : List α} (h : RowsIn w A n V l) (hb : Below w.heap.size w W) : RowsIn W A n V l :=
  ⟨h.nil, fun a ha j hj i v hv => (hb.cell (World.block_lt_of_cell? w _ (h.cell a ha j hj i v hv))).trans (h.cell a ha j hj i v hv), h.len⟩
theorem vec_shape2 {e : TypeId} {size n : Nat} {v : Value} {xs : List Value} {w W : World} {F : Nat → Prop} {R : List Res} (T : Sts w F W (vecR e size v n xs :: R)) : ∃ A c, v = .slice A n c := by
  rcases T.vec.2 with ⟨rfl, rfl⟩ | ⟨g, cap, cur, rfl, _⟩
  · exact ⟨_, _, rfl⟩
  · exact ⟨_, _, rfl⟩
end Go.Proofs.Ytpganpiidgkofaa
/- Things in memory, in another order. Nothing of the program stands here. -/
namespace Go.Proofs.Ytpganpiidgkofaa
open Go.RowKit
set_option linter.unusedVariables false
/-- The first things, in another order. -/
def pickL (L : List Res) (p : List Nat) : List Res := p.filterMap (fun i => L[i]?) ++ L.drop p.length
theorem range_get {α : Type} (L : List α) : ∀ n, (List.range n).filterMap (fun i => L[i]?) = L.take n
  | 0 => by simp
  | n + 1 => by
    rw [List.range_succ, List.filterMap_append, range_get L n, List.take_add_one]
    cases h : L[n]? <;> simp [List.filterMap, h]
theorem pick_perm (L : List Res) (p : List Nat) (hp : p.isPerm (List.range p.length) = true) : L.Perm (pickL L p) := by
  have h : p.Perm (List.range p.length) := List.isPerm_iff.1 hp
  have h2 := (h.filterMap fun i => L[i]?).symm
  rw [range_get] at h2
  have h3 := h2.append_right (L.drop p.length)
  rw [List.take_append_drop] at h3
  exact h3
theorem Sts.ord {w W : World} {F : Nat → Prop} {L L' : List Res} (h : Sts w F W L) (p : List Nat) (hp : p.isPerm (List.range p.length) = true := by rfl) (e : pickL L p = L' := by dsimp only [pickL, List.filterMap, List.length_cons, List.length_nil, Nat.reduceAdd, List.drop, List.getElem?_cons_succ, List.getElem?_cons_zero, List.cons_append, List.nil_append]) : Sts w F W L' := by
  rw [← e]; exact h.perm (pick_perm L p hp)
example {w W : World} {F : Nat → Prop} {a b c d : Res} {R : List Res} (h : Sts w F W (a :: b :: c :: d :: R)) : Sts w F W (c :: a :: d :: b :: R) := by
  have T := h.ord [2, 0, 1]
  have T2 := T.ord [0, 1, 3, 2]
  with_reducible exact T2
example {w W : World} {F : Nat → Prop} {a b c d : Res} (h : Sts w F W [a, b, c, d]) : Sts w F W [d, a, b, c] := by
  have T := h.ord [3, 0, 1, 2]
  with_reducible exact T
end Go.Proofs.Ytpganpiidgkofaa
