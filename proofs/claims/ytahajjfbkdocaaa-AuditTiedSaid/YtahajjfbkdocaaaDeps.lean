/- Layer 5, first part: a row of numbers, an item, as values; With and Has, and the document's Has: what each call answers. -/
import Derived.Test.YtahajjfbkdocaaaKit
namespace Go.Proofs.Ytahajjfbkdocaaa
open Go.RowKit
/-- a row as a value -/
def DV (d : Nat → Int) : Array Value := #[.int .i64 (d 0), .int .i64 (d 1), .int .i64 (d 2), .int .i64 (d 3), .int .i64 (d 4), .int .i64 (d 5), .int .i64 (d 6)]
theorem DV_size (d : Nat → Int) : (DV d).size = 7 := rfl
theorem DV_piece (d : Nat → Int) : piece (DV d) 0 7 = DV d := piece_all _ _ rfl
theorem DV_one (d : Nat → Int) : allOne (DV d) = true := by simp [allOne, DV, Value.oneCell']
theorem DV_get (d : Nat → Int) (i : Nat) (h : i < 7) : (DV d)[i]? = some (.int .i64 (d i)) := by
  match i, h with
  | 0, _ => rfl
  | 1, _ => rfl
  | 2, _ => rfl
  | 3, _ => rfl
  | 4, _ => rfl
  | 5, _ => rfl
  | 6, _ => rfl
def upd (d : Nat → Int) (i : Nat) (v : Int) : Nat → Int := fun j => if j = i then v else d j
theorem DV_set (d : Nat → Int) (i : Nat) (v : Int) : (DV d).setIfInBounds i (.int .i64 v) = DV (upd d i v) := by
  apply Array.ext_getElem?
  intro j
  rw [Array.getElem?_setIfInBounds, DV_size]
  by_cases hj : j < 7
  · rw [DV_get _ j hj, DV_get _ j hj]
    by_cases h : i = j
    · subst h; simp [hj, upd]
    · have h' : ¬ j = i := fun e => h e.symm
      simp [h, h', upd]
  · have h1 : ∀ d : Nat → Int, (DV d)[j]? = none := fun d => Array.getElem?_eq_none (by rw [DV_size]; omega)
    rw [h1, h1]
    split <;> simp_all
theorem DV_congr {d e : Nat → Int} (h : ∀ i, i < 7 → d i = e i) : DV d = DV e := by
  simp only [DV, h 0 (by omega), h 1 (by omega), h 2 (by omega), h 3 (by omega), h 4 (by omega), h 5 (by omega), h 6 (by omega)]
theorem DV_inj {d e : Nat → Int} (h : DV d = DV e) : ∀ i, i < 7 → d i = e i := fun i hi => by
  have := congrArg (·[i]?) h
  simp only [DV_get _ i hi, Option.some.injEq, Value.int.injEq, true_and] at this
  exact this
def itemV (r n : Int) : Value := .agg #[.int .i64 r, .int .i64 n]
theorem load_deps0 (v : Value) : Instr.loadAt 34 v = loadSem 34 v := rfl
theorem store_deps0 (v u : Value) : Instr.storeAt 34 v u = storeSem 34 v u := rfl
theorem load_deps (w : World) (v : Value) : (loadSem 34 v).run Try.prog w = loadVal Try.prog 34 7 w v :=
  load_val Try.underlying34 rfl (by kernel_rfl) w v
theorem store_deps (w : World) (v u : Value) : (storeSem 34 v u).run Try.prog w = storeVal Try.prog 34 7 w v u :=
  store_val (by kernel_rfl) w v u
theorem ret_deps {fn : Func} {R : Ending → World → Prop} {a : Act} {w : World} {p : Tmp} (d : Nat → Int) {g : Nat} (hr : fn.results = #[.cell p 34]) (hp : a.tmps.getD p undef = .pointer (some ⟨g, 0, none⟩)) (hdf : a.defers = [])
    (hrow : row? w g = some (DV d)) (hR : R (.returned (.agg (DV d))) w) : bodyPost Try.prog fn R .ret a w :=
  ret_row (DV d) Try.underlying34 rfl (by kernel_rfl) hr hp hdf (DV_size d) hrow hR
theorem index_deps0 (x i : Value) : Instr.index 34 x i = indexSem 34 x i := rfl
theorem index_deps (w : World) (d : Nat → Int) (i : Int) : (indexSem 34 (.agg (DV d)) (.int .i64 i)).run Try.prog w = if 0 ≤ i ∧ i < 7 then .ok (.int .i64 (d i.toNat)) w else indexSlow Try.prog 34 (DV d) i w := by
  split
  · rename_i h
    exact index_row Try.underlying34 Try.underlying3 rfl (by kernel_rfl) w (DV d) i _ h.1 h.2 (DV_get d _ (by omega))
  · rfl
end Go.Proofs.Ytahajjfbkdocaaa
