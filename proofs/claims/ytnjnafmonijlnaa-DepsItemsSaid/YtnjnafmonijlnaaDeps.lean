/- Layer 5, first part: a row of numbers, an item, as values; With and Has, and the document's Has: what each call answers. -/
import Derived.Test.YtnjnafmonijlnaaKit
namespace Go.Proofs.Ytnjnafmonijlnaa
open Go.RowKit
/-- a row as a value -/
def DV (d : Nat → Int) : Array Value := #[.int .i64 (d 0), .int .i64 (d 1), .int .i64 (d 2), .int .i64 (d 3), .int .i64 (d 4), .int .i64 (d 5), .int .i64 (d 6)]
theorem DV_size (d : Nat → Int) : (DV d).size = 7 := rfl
theorem DV_piece (d : Nat → Int) : piece (DV d) 0 7 = DV d := piece_all _ _ rfl
theorem DV_one (d : Nat → Int) : allOne (DV d) = true := by simp [allOne, DV, Value.oneCell']
theorem DV_get (d : Nat → Int) (i : Nat) (h : i < 7) : (DV d)[i]? = some (.int .i64 (d i)) := by
  match i, h with
  | 0, _ => rfl
  | 1, _ => rfl
  | 2, _ => rfl
  | 3, _ => rfl
  | 4, _ => rfl
  | 5, _ => rfl
  | 6, _ => rfl
def upd (d : Nat → Int) (i : Nat) (v : Int) : Nat → Int := fun j => if j = i then v else d j
theorem DV_set (d : Nat → Int) (i : Nat) (v : Int) : (DV d).setIfInBounds i (.int .i64 v) = DV (upd d i v) := by
  apply Array.ext_getElem?
  intro j
  rw [Array.getElem?_setIfInBounds, DV_size]
  by_cases hj : j < 7
  · rw [DV_get _ j hj, DV_get _ j hj]
    by_cases h : i = j
    · subst h; simp [hj, upd]
    · have h' : ¬ j = i := fun e => h e.symm
      simp [h, h', upd]
  · have h1 : ∀ d : Nat → Int, (DV d)[j]? = none := fun d => Array.getElem?_eq_none (by rw [DV_size]; omega)
    rw [h1, h1]
    split <;> simp_all
theorem DV_congr {d e : Nat → Int} (h : ∀ i, i < 7 → d i = e i) : DV d = DV e := by
  simp only [DV, h 0 (by omega), h 1 (by omega), h 2 (by omega), h 3 (by omega), h 4 (by omega), h 5 (by omega), h 6 (by omega)]
theorem DV_inj {d e : Nat → Int} (h : DV d = DV e) : ∀ i, i < 7 → d i = e i := fun i hi => by
  have := congrArg (·[i]?) h
  simp only [DV_get _ i hi, Option.some.injEq, Value.int.injEq, true_and] at this
  exact this
def itemV (r n : Int) : Value := .agg #[.int .i64 r, .int .i64 n]
theorem load_deps0 (v : Value) : Instr.loadAt 23 v = loadSem 23 v := rfl
theorem store_deps0 (v u : Value) : Instr.storeAt 23 v u = storeSem 23 v u := rfl
theorem load_deps (w : World) (v : Value) : (loadSem 23 v).run Try.prog w = loadVal Try.prog 23 7 w v :=
  load_val Try.underlying23 rfl (by kernel_rfl) w v
theorem store_deps (w : World) (v u : Value) : (storeSem 23 v u).run Try.prog w = storeVal Try.prog 23 7 w v u :=
  store_val (by kernel_rfl) w v u
theorem ret_deps {fn : Func} {R : Ending → World → Prop} {a : Act} {w : World} {p : Tmp} (d : Nat → Int) {g : Nat} (hr : fn.results = #[.cell p 23]) (hp : a.tmps.getD p undef = .pointer (some ⟨g, 0, none⟩)) (hdf : a.defers = [])
    (hrow : row? w g = some (DV d)) (hR : R (.returned (.agg (DV d))) w) : bodyPost Try.prog fn R .ret a w :=
  ret_row (DV d) Try.underlying23 rfl (by kernel_rfl) hr hp hdf (DV_size d) hrow hR
theorem index_deps0 (x i : Value) : Instr.index 23 x i = indexSem 23 x i := rfl
theorem index_deps (w : World) (d : Nat → Int) (i : Int) : (indexSem 23 (.agg (DV d)) (.int .i64 i)).run Try.prog w = if 0 ≤ i ∧ i < 7 then .ok (.int .i64 (d i.toNat)) w else indexSlow Try.prog 23 (DV d) i w := by
  split
  · rename_i h
    exact index_row Try.underlying23 Try.underlying3 rfl (by kernel_rfl) w (DV d) i _ h.1 h.2 (DV_get d _ (by omega))
  · rfl
/-! rows, one behind the other -/
def LV : List (Nat → Int) → Array Value
  | [] => #[]
  | d :: l => DV d ++ LV l
theorem LV_size (l : List (Nat → Int)) : (LV l).size = l.length * 7 := by
  induction l with
  | nil => rfl
  | cons d l ih => rw [LV, Array.size_append, ih, DV_size, List.length_cons]; omega
theorem LV_extract : ∀ (l : List (Nat → Int)) (i : Nat) (h : i < l.length), (LV l).extract (i * 7) (i * 7 + 7) = DV l[i]
  | d :: l, 0, _ => by
    apply append_of_gets
    · rw [Array.size_extract, LV_size, DV_size, List.length_cons]; omega
    · intro k hk
      rw [DV_size] at hk
      rw [LV, Array.getElem?_extract, if_pos (by rw [Array.size_append, LV_size, DV_size]; omega), Array.getElem?_append, DV_size, if_pos (by omega)]
      simp
  | d :: l, i + 1, h => by
    have h' : i < l.length := by simpa using h
    have ih := LV_extract l i h'
    rw [List.getElem_cons_succ, ← ih]
    apply append_of_gets
    · rw [Array.size_extract, Array.size_extract, LV_size, LV_size, List.length_cons]; omega
    · intro k hk
      rw [Array.size_extract, LV_size] at hk
      rw [LV, Array.getElem?_extract, Array.getElem?_extract, if_pos (by rw [Array.size_append, LV_size, DV_size]; omega), if_pos (by rw [LV_size]; omega), Array.getElem?_append, DV_size, if_neg (by omega)]
      congr 1; omega
theorem LV_piece (l : List (Nat → Int)) (i : Nat) (h : i < l.length) : piece (LV l) (i * 7) 7 = DV l[i] := LV_extract l i h
theorem LV_two (a b : Nat → Int) : DV a ++ DV b = LV [a, b] := by simp [LV]
theorem LV_three (a b c : Nat → Int) : DV a ++ DV b ++ DV c = LV [a, b, c] := by simp [LV]
theorem deps_info : (Try.prog.info? 23).map (fun i => (i.zero, i.size)) = some (some (.agg (DV fun _ => 0)), 7) := by kernel_rfl
theorem slice_deps0 (len : Nat) (parts : Array (Nat × Value)) : Instr.buildSlice 66 len parts = buildSem 66 len parts := rfl
theorem slice_deps2 (w : World) (a b : Nat → Int) : (buildSem 66 2 #[(0, .agg (DV a)), (1, .agg (DV b))]).run Try.prog w = .ok (.slice (some ⟨w.heap.size, 0, none⟩) 2 2) (w.alloc (.cells (LV [a, b]) 23)) := by
  rw [← LV_two]; exact build_slice2 Try.underlying66 deps_info (by omega) w (DV_size a) (DV_size b) (by omega)
theorem slice_deps3 (w : World) (a b c : Nat → Int) : (buildSem 66 3 #[(0, .agg (DV a)), (1, .agg (DV b)), (2, .agg (DV c))]).run Try.prog w = .ok (.slice (some ⟨w.heap.size, 0, none⟩) 3 3) (w.alloc (.cells (LV [a, b, c]) 23)) := by
  rw [← LV_three]; exact build_slice3 Try.underlying66 deps_info (by omega) w (DV_size a) (DV_size b) (DV_size c) (by omega)
end Go.Proofs.Ytnjnafmonijlnaa
