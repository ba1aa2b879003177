/- A slice of wide things that came in: its cells, its loads. Nothing of the program stands here. -/
import Derived.Test.YtahajjfbkdocaaaKitb
import Derived.Test.YtahajjfbkdocaaaOpenBase
import Derived.Deep.Slices
import Derived.DataReads
namespace Go.Proofs.Ytahajjfbkdocaaa
open Go.ChangeShapes Go.WideShapes Go.ChangeAt Go.RowKit Go.WideMaps Go.WideElems Go.Joins Go.Deep
set_option linter.unusedVariables false
/-- The slice with this address holds these things, each of n cells. -/
structure RowsIn {α : Type} (w : World) (A : Option Addr) (n : Nat) (V : α → Array Value) (l : List α) : Prop where
  nil : A = none → l = []
  cell : ∀ a, A = some a → ∀ j (h : j < l.length) i v, (V l[j])[i]? = some v → w.cell? ((a.add (j * n)).add i) = some v
  len : l.length ≤ 9223372036854775807
theorem add_blk (a : Addr) (j : Nat) : (a.add j).block = a.block := by unfold Addr.add; split <;> rfl
section
variable {α : Type} {w W : World} {A : Option Addr} {n : Nat} {V : α → Array Value} {l : List α} {P : Program} {T : TypeId} {d : TypeDesc} {a : Addr} {j : Nat}
theorem loadAt_cells (W : World) (a : Addr) (X : Array Value) (hc : ∀ i v, X[i]? = some v → W.cell? (a.add i) = some v) (hu : P.underlying T = some d) (hd : d.isRow = true) (hi : (P.info? T).map (·.size) = some X.size) :
    (Instr.loadAt T (.pointer (some a))).run P W = .ok (.agg X) W := by
  have hl : (loadCells a X.size).run P W = .ok X W := by
    have := run_loadCells_list (P := P) (w := W) a X.toList (fun j v hv => hc j v (by simpa using hv))
    simpa using this
  cases hq : P.info? T with
  | none => simp [hq] at hi
  | some i =>
    have hs : i.size = X.size := by simpa [hq] using hi
    have hagg : (isAgg T).run P W = .ok true W := by
      unfold isAgg
      rw [Sem.run_bind, run_underlying hu W]
      cases d <;> simp_all
    simp [Instr.loadAt, Instr.sureAddr, loadVar, Sem.run_bind, hagg, sizeOf, typeInfo, hq, hs, hl]
theorem RowsIn.load (h : RowsIn w A n V l) (hV : ∀ x, (V x).size = n) (hu : P.underlying T = some d) (hd : d.isRow = true) (hi : (P.info? T).map (·.size) = some n) (hb : Below w.heap.size w W) (hA : A = some a) (hj : j < l.length) :
    loadVal P T n W (.pointer (some (a.add (j * n)))) = .ok (.agg (V l[j])) W := by
  rw [← load_val hu hd hi]
  refine loadAt_cells W _ _ (fun i v hv => ?_) hu hd (by rw [hi, hV])
  have hc := h.cell a hA j hj i v hv
  exact (hb.cell (World.block_lt_of_cell? w _ hc)).trans hc
theorem RowsIn.block (h : RowsIn w A n V l) (hV : ∀ x, (V x).size = n) (hn : 0 < n) (hA : A = some a) (hj : j < l.length) : a.block < w.heap.size := by
  have hc := h.cell a hA j hj 0 ((V l[j])[0]'(by rw [hV]; exact hn)) (by rw [Array.getElem?_eq_getElem])
  have := World.block_lt_of_cell? w _ hc
  rwa [add_blk, add_blk] at this
end
theorem weigh_mem {H : Type} {P : Program} {e : TypeId} {d : DataW H} {m : Nat} : ∀ {ds : List (DataW H)}, d ∈ ds → m ∈ d.weights P e → m ∈ DataW.weightsAll P e ds
  | x :: ds, h, hm => by
    simp only [DataW.weightsAll, List.mem_append]
    rcases List.mem_cons.1 h with rfl | h
    · exact .inl hm
    · exact .inr (weigh_mem h hm)
theorem choose_list {α : Type} {p : Nat → α → Prop} : ∀ (n : Nat), (∀ i, i < n → ∃ x, p i x) → ∃ l : List α, l.length = n ∧ ∀ i (h : i < l.length), p i l[i]
  | 0, _ => ⟨[], rfl, fun i h => by simp at h⟩
  | n + 1, h => by
    obtain ⟨l, hl, hp⟩ := choose_list n fun i hi => h i (by omega)
    obtain ⟨x, hx⟩ := h n (by omega)
    refine ⟨l ++ [x], by simp [hl], fun i hi => ?_⟩
    rw [List.length_append, List.length_singleton] at hi
    by_cases hin : i < l.length
    · rw [List.getElem_append_left hin]; exact hp i hin
    · have : i = l.length := by omega
      subst this
      rw [List.getElem_append_right (by omega)]
      simpa [hl] using hx
theorem open_rowsIn {α : Type} {V : α → Array Value} {Fit : α → Prop} {H : Type} {enc : TypeId × Value → H} {P : Program} {w : World} {base : Nat} {sp : Nat → Bool} {held : Bool} {r : Reach} {b0 : Nat} {v : Value} {d : DataW H} {p : List MemPlace} {t e : TypeId} {n : Nat}
    (ht : P.underlying t = some (.slice e)) (hn : P.cellsOf e = n)
    (each : ∀ (fuel : Nat) (cs : List Value) (x : DataW H × List MemPlace), DataW.trod enc P w base sp held fuel e cs = some x → (∀ m ∈ x.1.weights P e, m ≤ reachBytes) → ∃ X : α, cs = (V X).toList ∧ Fit X)
    (hv : Value.okWide P w r b0 t v) (h : DataW.Trod enc P w base sp held t v d p) (hw : ∀ m ∈ d.weights P t, m ≤ reachBytes) :
    ∃ A l c, v = .slice A (List.length l) c ∧ RowsIn w A n V l ∧ ∀ x ∈ l, Fit x := by
  obtain ⟨fuel, hf⟩ := h
  rcases open_slice ht hf with ⟨hcs, hx⟩ | ⟨a, len, cap, m, k, D, Pl, hcs, _, hlc, hcm, hm, hx, hel⟩
  · have hv1 : v = .slice none 0 0 := by
      cases v <;> simp [Value.okWide, Cell.okWide, Cell.ok, ht] at hv <;> simp_all [Value.cells]
    exact ⟨none, [], 0, hv1, ⟨fun _ => rfl, fun a ha => (by cases ha), by simp⟩, fun s hs => (by cases hs)⟩
  · have hv1 : v = .slice (some a) len cap := by
      cases v <;> simp [Value.okWide, Cell.okWide, Cell.ok, ht] at hv <;> simp_all [Value.cells]
    have hle : len ≤ m := by rw [hm]; split <;> omega
    injection hx with hx1 hx2
    obtain ⟨l, hl, hp⟩ := choose_list (p := fun i X => Fit X ∧ ∀ q v, (V X)[q]? = some v → w.cell? ((a.add (i * n)).add q) = some v) len fun i hi => by
      obtain ⟨cs', h1, h2⟩ := hel i (by omega)
      obtain ⟨X, e1, e2⟩ := each k cs' _ h2 fun q hq => hw q (by
        rw [hx1]; simp only [DataW.weights, ht]
        exact List.mem_cons_of_mem _ (List.mem_append_left _ (weigh_mem (List.mem_map_of_mem (List.mem_range.2 hi)) hq)))
      refine ⟨X, e2, fun q v hq => ?_⟩
      rw [hn] at h1
      obtain ⟨_, hlen, hcell⟩ := World.cells?_some h1
      have hq2 : q < (V X).size := (Array.getElem?_eq_some_iff.1 hq).1
      have hlen2 : cs'.length = (V X).size := by rw [e1]; simp
      rw [hcell q (by omega), e1]
      simpa using hq
    refine ⟨some a, l, cap, by rw [hl]; exact hv1, ⟨fun ha => (by cases ha), fun a' ha j hj i v hi => ?_, ?_⟩, fun x hx => ?_⟩
    · injection ha with ha; subst ha
      exact (hp j hj).2 i v hi
    · have : maxLen = 9223372036854775807 := rfl
      omega
    · obtain ⟨i, hi, rfl⟩ := List.mem_iff_getElem.1 hx
      exact (hp i hi).1
end Go.Proofs.Ytahajjfbkdocaaa
