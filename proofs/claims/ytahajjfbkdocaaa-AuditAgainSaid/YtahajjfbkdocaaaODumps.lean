/- What comes in as dumps: slices of slices of entries. -/
import Derived.Test.YtahajjfbkdocaaaRowsIn
import Derived.Test.YtahajjfbkdocaaaOEntry
import Derived.Test.YtahajjfbkdocaaaAudK
namespace Go.Proofs.Ytahajjfbkdocaaa
open Go.ChangeShapes Go.WideShapes Go.ChangeAt Go.RowKit Go.WideMaps Go.WideElems Go.Joins Go.Deep
open Go.ChangeMaps (open_string)
set_option linter.unusedVariables false
theorem trod_rowsIn {α : Type} {V : α → Array Value} {Fit : α → Prop} {H : Type} {enc : TypeId × Value → H} {P : Program} {w : World} {base : Nat} {sp : Nat → Bool} {held : Bool} {fuel : Nat} {cs : List Value} {x : DataW H × List MemPlace} {t e : TypeId} {n : Nat}
    (ht : P.underlying t = some (.slice e)) (hn : P.cellsOf e = n)
    (each : ∀ (fuel : Nat) (cs : List Value) (x : DataW H × List MemPlace), DataW.trod enc P w base sp held fuel e cs = some x → (∀ m ∈ x.1.weights P e, m ≤ reachBytes) → ∃ X : α, cs = (V X).toList ∧ Fit X)
    (hf : DataW.trod enc P w base sp held fuel t cs = some x) (hw : ∀ m ∈ x.1.weights P t, m ≤ reachBytes) :
    ∃ A l c, cs = [.slice A (List.length l) c] ∧ RowsIn w A n V l ∧ ∀ x ∈ l, Fit x := by
  rcases open_slice ht hf with ⟨hcs, hx⟩ | ⟨a, len, cap, m, k, D, Pl, hcs, _, hlc, hcm, hm, hx, hel⟩
  · exact ⟨none, [], 0, hcs, ⟨fun _ => rfl, fun a ha => (by cases ha), by simp⟩, fun s hs => (by cases hs)⟩
  · have hle : len ≤ m := by rw [hm]; split <;> omega
    subst hx
    obtain ⟨l, hl, hp⟩ := choose_list (p := fun i X => Fit X ∧ ∀ q v, (V X)[q]? = some v → w.cell? ((a.add (i * n)).add q) = some v) len fun i hi => by
      obtain ⟨cs', h1, h2⟩ := hel i (by omega)
      obtain ⟨X, e1, e2⟩ := each k cs' _ h2 fun q hq => hw q (by
        simp only [DataW.weights, ht]
        exact List.mem_cons_of_mem _ (List.mem_append_left _ (weigh_mem (List.mem_map_of_mem (List.mem_range.2 hi)) hq)))
      refine ⟨X, e2, fun q v hq => ?_⟩
      rw [hn] at h1
      obtain ⟨_, hlen, hcell⟩ := World.cells?_some h1
      have hq2 : q < (V X).size := (Array.getElem?_eq_some_iff.1 hq).1
      have hlen2 : cs'.length = (V X).size := by rw [e1]; simp
      rw [hcell q (by omega), e1]
      simpa using hq
    refine ⟨some a, l, cap, by rw [hl]; exact hcs, ⟨fun ha => (by cases ha), fun a' ha j hj i v hi => ?_, ?_⟩, fun x hx => ?_⟩
    · injection ha with ha; subst ha
      exact (hp j hj).2 i v hi
    · have : maxLen = 9223372036854775807 := rfl
      omega
    · obtain ⟨i, hi, rfl⟩ := List.mem_iff_getElem.1 hx
      exact (hp i hi).1
/-- Dumps that came in. -/
theorem open_dumps {H : Type} {enc : TypeId × Value → H} {w : World} {base : Nat} {sp : Nat → Bool} {held : Bool} {r : Reach} {b0 : Nat} {v : Value} {d : DataW H} {p : List MemPlace}
    (hv : Value.okWide Try.prog w r b0 22 v) (h : DataW.Trod enc Try.prog w base sp held 22 v d p) (hw : ∀ m ∈ d.weights Try.prog 22, m ≤ reachBytes) :
    ∃ A ds c, v = .slice A (List.length ds) c ∧ DumpsIn w A ds ∧ TextsFit ds ∧ ∀ d ∈ ds, ∀ e ∈ d.l, InI e.item := by
  obtain ⟨A, ds, c, rfl, hr, hf⟩ := open_rowsIn (V := PV) (Fit := fun d : Dump => RowsIn w d.A 22 AV d.l ∧ ∀ e ∈ d.l, EntryFits e) Try.underlying22 (by kernel_rfl)
    (fun fuel cs x h hw => by
      obtain ⟨A, l, c, rfl, hr, hf⟩ := trod_rowsIn (V := AV) (Fit := EntryFits) (n := 22) Try.underlying26 (by kernel_rfl) (fun fuel cs x h hw => trod_Entry h hw) h hw
      exact ⟨⟨A, c, l⟩, rfl, hr, hf⟩) hv h hw
  refine ⟨A, ds, c, rfl, ⟨hr, fun d hd => (hf d hd).1⟩, fun d hd e he => ?_, fun d hd e he => ?_⟩
  · have := (hf d hd).2 e he
    exact ⟨this.inst.call.deed.key, this.inst.call.deed.val⟩
  · have := (hf d hd).2 e he
    exact ⟨this.item.rep, this.item.num⟩
end Go.Proofs.Ytahajjfbkdocaaa
