/- Several texts in one. -/
import Derived.Test.YtomlilkobhkoiaaGreatDoorProg
import Derived.WalkKit
import Derived.WalkSpells
import Derived.WalkLawsBesides
import Derived.Deep.QuietTactic
import Derived.Deep.MidRow
import Derived.BigQuiet
import Derived.Lib.Hide
/- Words and small laws that the walks of this work share: worlds that only grow, rows of cells that are read and written whole. Nothing of the program stands here. -/
namespace Go.Proofs.YtomlilkobhkoiaaGreatDoor
open Go.RowKit
noncomputable section
open Classical in
/-- Some world that is W, but for what is new. -/
def ext (W x : World) : World := if Below W.heap.size W x then x else W
end
section
variable (W x : World)
theorem ext_below : Below W.heap.size W (ext W x) := by
  unfold ext; split
  · assumption
  · exact Below.refl _ _
theorem ext_cell (b o : Nat) (s : Option Nat) (h : b < W.heap.size) : (ext W x).cell? ⟨b, o, s⟩ = W.cell? ⟨b, o, s⟩ := (ext_below W x).cell (p := ⟨b, o, s⟩) h
theorem ext_frozen (b o : Nat) (s : Option Nat) (h : b < W.heap.size) : (ext W x).frozen? ⟨b, o, s⟩ = W.frozen? ⟨b, o, s⟩ := (ext_below W x).frozen (p := ⟨b, o, s⟩) h
theorem ext_size : W.heap.size ≤ (ext W x).heap.size := (ext_below W x).size
end
noncomputable def more (W x : World) : Nat := (ext W x).heap.size - W.heap.size
theorem size_ext (W x : World) : (ext W x).heap.size = W.heap.size + more W x := by
  have := ext_size W x; unfold more; omega
theorem ext_of {W w' : World} (h : Below W.heap.size W w') : ∃ x, w' = ext W x := ⟨w', by unfold ext; rw [if_pos h]⟩

/-- A call that answers, and leaves alone what there was. -/
def Ans (P : Program) (f : FuncId) (args : Array Value) (v : Value) : Prop := ∀ w : World, Calls P f args w fun e w' => e = .returned v ∧ Below w.heap.size w w'
section
variable {P : Program} {f : FuncId} {args : Array Value} {v : Value}
theorem Ans.quiet (h : Ans P f args v) {W n : World} : Calls P f args (ext W n) fun e w'' => e = .returned v ∧ ∃ m, w'' = ext W m :=
  (h (ext W n)).mono fun _ _ ⟨he, hb⟩ => ⟨he, ext_of ((ext_below W n).trans (hb.mono (ext_size W n)))⟩
theorem Ans.go (h : Ans P f args v) (w : World) : Calls P f args w fun e w' => e = .returned v ∧ ∃ x, w' = ext w x :=
  (h w).mono fun _ _ ⟨he, hb⟩ => ⟨he, ext_of hb⟩
end
theorem wp_region_ext {P : Program} {id : Nat} {Q : Exit → Act → World → Prop} {a : Act} {w : World} {l : List Oper} (hm : P.follows .mixedOrders = true) (hB : Region.lexB .any l.toArray = true)
    (h : wpQuiet P l.toArray (fun w' => ∃ n, w' = ext w n) (fun a' => ∀ w', (∃ n, w' = ext w n) → Q .normal a' w') l a) : (Code.region id l.toArray true).wp P Q a w :=
  wp_region_quiet (C := fun w' => ∃ n, w' = ext w n) hm hB (ext_of ⟨rfl, rfl, rfl, Nat.le_refl _, fun _ _ => rfl⟩) (by simpa using h)

/-! rows -/
def row? (w : World) (g : Nat) : Option (Array Value) := match w.heap[g]? with
  | some (.cells c _ (0, 0)) => some c
  | _ => none
section
variable {w w' : World} {g : Nat} {cs X : Array Value}
theorem row_some (h : row? w g = some cs) : ∃ t, w.heap[g]? = some (.cells cs t (0, 0)) := by
  unfold row? at h
  split at h
  · rename_i hg; injection h with h; subst h; exact ⟨_, hg⟩
  · cases h
theorem row_lt (h : row? w g = some cs) : g < w.heap.size := by
  obtain ⟨t, ht⟩ := row_some h
  exact (Array.getElem?_eq_some_iff.1 ht).1
theorem row_cell (h : row? w g = some cs) (i : Nat) : w.cell? ⟨g, i, none⟩ = cs[i]? := by
  obtain ⟨t, ht⟩ := row_some h
  exact cell_of_row w g i cs t (0, 0) ht
theorem row_frozen (h : row? w g = some cs) (i : Nat) : w.frozen? ⟨g, i, none⟩ = false := by
  obtain ⟨t, ht⟩ := row_some h
  exact frozen_of_row w g i cs t ht
theorem row_of_block (h : w'.heap[g]? = w.heap[g]?) : row? w' g = row? w g := by unfold row?; rw [h]
theorem row_below {B : Nat} (h : Below B w w') (hg : g < B) : row? w' g = row? w g := row_of_block (h.block g hg)
end
section
variable (w : World) (n m i : Nat) (o : Obj) (c X : Array Value) (t : TypeId) (v : Value)
theorem row_alloc_at (hn : n = w.heap.size) : row? (w.alloc (.cells c t)) n = some c := by
  subst hn; unfold row?; rw [Go.heap_alloc_new]; rfl
theorem row_alloc_ne (hn : n ≠ w.heap.size) : row? (w.alloc o) n = row? w n := row_of_block (by
  show (w.heap.push o)[n]? = w.heap[n]?
  rw [Array.getElem?_push, if_neg hn])
theorem row_alloc : row? (w.alloc (.cells c t)) n = if n = w.heap.size then some c else row? w n := by
  split
  · exact row_alloc_at w n c t ‹_›
  · exact row_alloc_ne w n _ ‹_›
theorem cell_alloc : (w.alloc (.cells c t)).cell? ⟨n, i, none⟩ = if n = w.heap.size then c[i]? else w.cell? ⟨n, i, none⟩ := by
  split
  · exact World.cell?_alloc_at c t n i ‹_›
  · rename_i h
    exact World.cell?_of_block (w := w) (by show (w.heap.push _)[n]? = w.heap[n]?; rw [Array.getElem?_push, if_neg h])
theorem frozen_alloc : (w.alloc (.cells c t)).frozen? ⟨n, i, none⟩ = if n = w.heap.size then false else w.frozen? ⟨n, i, none⟩ := by
  split
  · exact World.frozen?_alloc_at c t n i ‹_›
  · rename_i h
    exact World.frozen?_of_block (w := w) (by show (w.heap.push _)[n]? = w.heap[n]?; rw [Array.getElem?_push, if_neg h])
theorem setCell_alloc : (w.alloc (.cells c t)).setCell ⟨n, i, none⟩ v = if n = w.heap.size then w.alloc (.cells (c.setIfInBounds i v) t) else (w.setCell ⟨n, i, none⟩ v).alloc (.cells c t) := by
  split
  · exact World.setCell_alloc_at c t n i v ‹_›
  · rename_i hn
    unfold World.setCell World.alloc
    congr 1
    apply Array.ext_getElem?
    intro k
    simp only [Array.getElem?_modify, Array.getElem?_push, Array.size_modify]
    by_cases hk : k = w.heap.size
    · subst hk
      simp [hn]
    · simp [hk]
theorem row_drew : row? w.drew n = row? w n := rfl
theorem row_drewN : row? (w.drewN m) n = row? w n := rfl
/-- What is new in a world that has grown. -/
def rowNew (W : World) (n : Nat) : Option (Array Value) := row? W n
def cellNew (W : World) (a : Addr) : Option Value := W.cell? a
def frozenNew (W : World) (a : Addr) : Bool := W.frozen? a
theorem row_ext (x : World) : row? (ext w x) n = if n < w.heap.size then row? w n else rowNew (ext w x) n := by
  split
  · exact row_below (ext_below w x) ‹_›
  · rfl
theorem cell_ext (x : World) : (ext w x).cell? ⟨n, i, none⟩ = if n < w.heap.size then w.cell? ⟨n, i, none⟩ else cellNew (ext w x) ⟨n, i, none⟩ := by
  split
  · exact ext_cell w x n i none ‹_›
  · rfl
theorem frozen_ext (x : World) : (ext w x).frozen? ⟨n, i, none⟩ = if n < w.heap.size then w.frozen? ⟨n, i, none⟩ else frozenNew (ext w x) ⟨n, i, none⟩ := by
  split
  · exact ext_frozen w x n i none ‹_›
  · rfl
theorem row_setCell_same : row? (w.setCell ⟨n, i, none⟩ v) n = (row? w n).map (·.setIfInBounds i v) := by
  unfold row?
  simp only [World.setCell, Array.getElem?_modify, if_pos]
  cases h : w.heap[n]? with
  | none => rfl
  | some ob => 
    cases ob with
    | cells c e fr => 
      obtain ⟨a, b⟩ := fr
      cases a <;> cases b <;> rfl
    | _ => rfl
theorem row_setCell_other (h : n ≠ m) : row? (w.setCell ⟨n, i, none⟩ v) m = row? w m := row_of_block (Below.heap_setCell w _ v m (fun e => h e.symm))
theorem row_setCell : row? (w.setCell ⟨n, i, none⟩ v) m = if n = m then (row? w n).map (·.setIfInBounds i v) else row? w m := by
  split
  · rename_i h; subst h; exact row_setCell_same w n i v
  · exact row_setCell_other w n m i v ‹_›
theorem row_setRow_same (h : row? w n = some c) : row? (w.setRow n X) n = some X := by
  obtain ⟨t, ht⟩ := row_some h
  unfold row?; rw [setRow_heap w n c X t (0, 0) ht]; rfl
theorem row_setRow_other (h : n ≠ m) : row? (w.setRow n X) m = row? w m := row_of_block (setRow_other w n m X (fun e => h e.symm))
theorem row_setRow : row? (w.setRow n X) m = if n = m then (row? w n).map (fun _ => X) else row? w m := by
  split
  · rename_i h; subst h
    cases h : row? w n with
    | some c => exact row_setRow_same w n c X h
    | none =>
      unfold row? at h ⊢
      simp only [World.setRow, Array.getElem?_modify, if_pos]
      cases hb : w.heap[n]? with
      | none => rfl
      | some ob =>
        rw [hb] at h
        cases ob with
        | cells c e fr =>
          obtain ⟨a, b⟩ := fr
          cases a <;> cases b <;> first | rfl | (cases h; done)
        | _ => rfl
  · exact row_setRow_other w n m X ‹_›
theorem setRow_alloc_at (hn : n = w.heap.size) : (w.alloc (.cells c t)).setRow n X = w.alloc (.cells X t) := by
  subst hn
  simp only [World.setRow, World.alloc]
  congr 1
  apply Array.ext_getElem?
  intro i
  rw [Array.getElem?_modify]
  by_cases h : w.heap.size = i
  · subst h; simp
  · have h' : ¬ i = w.heap.size := fun e => h e.symm
    simp [h, h', Array.getElem?_push]
theorem setRow_alloc_ne (hn : n ≠ w.heap.size) : (w.alloc o).setRow n X = (w.setRow n X).alloc o := by
  simp only [World.setRow, World.alloc]
  congr 1
  apply Array.ext_getElem?
  intro i
  rw [Array.getElem?_modify, Array.getElem?_push, Array.getElem?_push, Array.getElem?_modify, Array.size_modify]
  by_cases h : i = w.heap.size
  · subst h
    rw [if_neg (by omega), if_pos rfl, if_pos rfl]
  · rw [if_neg h, if_neg h]
theorem setRow_alloc : (w.alloc (.cells c t)).setRow n X = if n = w.heap.size then w.alloc (.cells X t) else (w.setRow n X).alloc (.cells c t) := by
  split
  · exact setRow_alloc_at w n c X t ‹_›
  · exact setRow_alloc_ne w n _ X ‹_›
theorem setRow_drew : w.drew.setRow n X = (w.setRow n X).drew := rfl
theorem below_setRow {B : Nat} {a : World} (h : Below B a w) (hn : B ≤ n) : Below B a (w.setRow n X) :=
  h.trans ⟨rfl, rfl, rfl, by simp, fun k hk => setRow_other w n k X (by omega)⟩
end
theorem below_drewN {B : Nat} {a w : World} (h : Below B a w) (n : Nat) : Below B a (w.drewN n) := ⟨h.os, h.tape, h.output, h.size, h.block⟩
theorem below_ext {B : Nat} {a w : World} (h : Below B a w) (hB : B ≤ w.heap.size) (x : World) : Below B a (ext w x) := h.trans ((ext_below w x).mono hB)

/-- What a load, a store of a whole variable are where no row is known. -/
def loadSlow (P : Program) (T : TypeId) (g o : Nat) (w : World) : Result Value := (Instr.loadAt T (.pointer (some ⟨g, o, none⟩))).run P w
def storeSlow (P : Program) (T : TypeId) (g o : Nat) (X : Array Value) (w : World) : Result Unit := (Instr.storeAt T (.pointer (some ⟨g, o, none⟩)) (.agg X)).run P w
/-- A row with another piece from o on. -/
def setMany (cs : Array Value) (o : Nat) : List Value → Array Value
  | [] => cs
  | v :: r => setMany (cs.setIfInBounds o v) (o + 1) r
def splice (cs : Array Value) (o : Nat) (X : Array Value) : Array Value := setMany cs o X.toList
theorem setMany_size (X : List Value) : ∀ (cs : Array Value) (o : Nat), (setMany cs o X).size = cs.size := by
  induction X with
  | nil => intros; rfl
  | cons v r ih => intro cs o; rw [setMany, ih]; simp
theorem setMany_get (X : List Value) : ∀ (cs : Array Value) (o i : Nat), (setMany cs o X)[i]? = if o ≤ i ∧ i < o + X.length ∧ i < cs.size then X[i - o]? else cs[i]? := by
  induction X with
  | nil => intro cs o i; rw [setMany, if_neg (by simp; omega)]
  | cons v r ih =>
    intro cs o i
    rw [setMany, ih]
    simp only [Array.size_setIfInBounds, List.length_cons, Array.getElem?_setIfInBounds]
    by_cases h0 : o = i
    · subst h0
      rw [if_neg (by omega)]
      by_cases hs : o < cs.size
      · simp [hs]
      · simp [hs]
    · by_cases hc : o + 1 ≤ i ∧ i < o + 1 + r.length ∧ i < cs.size
      · rw [if_pos hc, if_pos (by omega), show i - o = (i - (o + 1)) + 1 by omega, List.getElem?_cons_succ]
      · rw [if_neg hc]
        simp only [h0, if_false]
        rw [if_neg (by omega)]
theorem setCells_row (g : Nat) (X : List Value) : ∀ (w : World) (o : Nat) (cs : Array Value), row? w g = some cs → w.setCells g o X = w.setRow g (setMany cs o X) := by
  induction X with
  | nil =>
    intro w o cs h
    obtain ⟨t, ht⟩ := row_some h
    show w = w.setRow g cs
    simp only [World.setRow]
    have key : ∀ h' : Array Obj, h' = w.heap → w = { w with heap := h' } := fun h' e => by rw [e]
    refine key _ ?_
    apply Array.ext_getElem?
    intro i
    rw [Array.getElem?_modify]
    split
    · rename_i hi; subst hi; rw [ht]; rfl
    · rfl
  | cons v r ih =>
    intro w o cs h
    rw [World.setCells, ih (w.setCell ⟨g, o, none⟩ v) (o + 1) (cs.setIfInBounds o v) (by rw [row_setCell_same, h]; rfl)]
    obtain ⟨t, ht⟩ := row_some h
    rw [setCell_eq_setRow w g o cs t (0, 0) v ht]
    simp only [World.setRow, setMany]
    congr 1
    apply Array.ext_getElem?
    intro i
    simp only [Array.getElem?_modify]
    split
    · rename_i hi; subst hi; rw [ht]; rfl
    · rfl
def allOne (X : Array Value) : Bool := X.all (·.oneCell')
theorem allOne_lit (l : List Value) : allOne l.toArray = l.all (·.oneCell') := by simp [allOne]
/-- n cells of a row, from o on. -/
def piece (cs : Array Value) (o n : Nat) : Array Value := cs.extract o (o + n)
theorem piece_all (cs : Array Value) (n : Nat) (h : cs.size = n) : piece cs 0 n = cs := by subst h; simp [piece]
def pieceSlow (cs : Array Value) (n : Nat) : Array Value := piece cs 0 n
theorem piece_lit (l : List Value) (n : Nat) : piece l.toArray 0 n = if l.length = n then l.toArray else pieceSlow l.toArray n := by
  split
  · exact piece_all _ _ (by simpa using ‹l.length = n›)
  · rfl
def loadOf (P : Program) (T : TypeId) (n : Nat) (w : World) (g o : Nat) : Result Value := match row? w g with
  | some cs => if o + n ≤ cs.size then .ok (.agg (piece cs o n)) w else loadSlow P T g o w
  | none => loadSlow P T g o w
def storeOf (P : Program) (T : TypeId) (n : Nat) (w : World) (g o : Nat) (X : Array Value) : Result Unit := match row? w g with
  | some cs => if X.size = n ∧ allOne X = true then
      if o = 0 ∧ cs.size = n then .ok () (w.setRow g X) else if o + n ≤ cs.size then .ok () (w.setRow g (splice cs o X)) else storeSlow P T g o X w
      else storeSlow P T g o X w
  | none => storeSlow P T g o X w
section
variable {P : Program} {T : TypeId} {n : Nat} {d : TypeDesc}
theorem load_row (hu : P.underlying T = some d) (hd : d.isRow = true) (hi : (P.info? T).map (·.size) = some n) (w : World) (g o : Nat) :
    (Instr.loadAt T (.pointer (some ⟨g, o, none⟩))).run P w = loadOf P T n w g o := by
  unfold loadOf
  cases h : row? w g with
  | none => rfl
  | some cs =>
    obtain ⟨t, ht⟩ := row_some h
    have key : o + n ≤ cs.size → (Instr.loadAt T (.pointer (some ⟨g, o, none⟩))).run P w = .ok (.agg (cs.extract o (o + n))) w := fun hle => by
      have hl : (cs.extract o (o + n)).toList.length = n := by simp; omega
      have := run_loadAt_mid (P := P) w g o T (cs.extract o (o + n)).toList d (World.rangeAt_of_block ht o n) hu hd (by rw [hi, hl])
      rw [this]
    simp only []
    split
    · exact key ‹_›
    · rfl
theorem store_row (hi : (P.info? T).map (·.size) = some n) (w : World) (g o : Nat) (X : Array Value) :
    (Instr.storeAt T (.pointer (some ⟨g, o, none⟩)) (.agg X)).run P w = storeOf P T n w g o X := by
  unfold storeOf
  cases h : row? w g with
  | none => rfl
  | some cs =>
    obtain ⟨t, ht⟩ := row_some h
    have key : X.size = n → X.all (·.oneCell') = true → o + n ≤ cs.size → (Instr.storeAt T (.pointer (some ⟨g, o, none⟩)) (.agg X)).run P w = .ok () (w.setRow g (splice cs o X)) := fun hX h1 hle => by
      rw [run_storeAt_mid (P := P) w g o T X (fun j hj => ⟨by rw [row_cell h]; simp; omega, row_frozen h _⟩) (by rw [hi, hX]) h1]
      congr 1
      exact setCells_row g X.toList w o cs h
    simp only []
    split
    · rename_i hc
      obtain ⟨hX, h1⟩ := hc
      split
      · rename_i hc
        obtain ⟨rfl, hn⟩ := hc
        rw [key hX h1 (by omega)]
        congr 2
        apply Array.ext_getElem?
        intro i
        rw [splice, setMany_get]
        split
        · simp
        · rw [Array.getElem?_eq_none, Array.getElem?_eq_none]
          all_goals simp only [Array.length_toList] at *
          all_goals omega
      · split
        · exact key hX h1 ‹_›
        · rfl
    · rfl
end
/-- A call's end, where its one result lies in a row. -/
theorem ret_row {P : Program} {fn : Func} {R : Ending → World → Prop} {a : Act} {w : World} {p : Tmp} {T : TypeId} {n : Nat} {d : TypeDesc} (X : Array Value) {g : Nat} (hu : P.underlying T = some d) (hd : d.isRow = true)
    (hi : (P.info? T).map (·.size) = some n) (hr : fn.results = #[.cell p T]) (hp : a.tmps.getD p undef = .pointer (some ⟨g, 0, none⟩)) (hdf : a.defers = []) (hX : X.size = n) (hrow : row? w g = some X) (hR : R (.returned (.agg X)) w) : bodyPost P fn R .ret a w := by
  obtain ⟨t, ht⟩ := row_some hrow
  exact bodyPost_ret (results_cell_row hr a.tmps w g t X (0, 0) d hp ht hu (by cases d <;> first | rfl | exact hd) (by rw [hi, hX])) hdf hR
/-- As the walk meets them: the operands not yet reckoned. -/
def loadVal (P : Program) (T : TypeId) (n : Nat) (w : World) : Value → Result Value
  | .pointer (some ⟨g, o, none⟩) => loadOf P T n w g o
  | v => (Instr.loadAt T v).run P w
def storeVal (P : Program) (T : TypeId) (n : Nat) (w : World) : Value → Value → Result Unit
  | .pointer (some ⟨g, o, none⟩), .agg X => storeOf P T n w g o X
  | v, u => (Instr.storeAt T v u).run P w
theorem loadVal_at (P : Program) (T : TypeId) (n : Nat) (w : World) (g o : Nat) : loadVal P T n w (.pointer (some ⟨g, o, none⟩)) = loadOf P T n w g o := rfl
theorem storeVal_at (P : Program) (T : TypeId) (n : Nat) (w : World) (g o : Nat) (X : Array Value) : storeVal P T n w (.pointer (some ⟨g, o, none⟩)) (.agg X) = storeOf P T n w g o X := rfl
/-- A load, a store of a whole variable, held back from the walk's own laws. -/
def loadSem (T : TypeId) (v : Value) : Sem Value := Instr.loadAt T v
def storeSem (T : TypeId) (v u : Value) : Sem Unit := Instr.storeAt T v u
section
variable {P : Program} {T : TypeId} {n : Nat} {d : TypeDesc}
theorem load_val (hu : P.underlying T = some d) (hd : d.isRow = true) (hi : (P.info? T).map (·.size) = some n) (w : World) (v : Value) : (loadSem T v).run P w = loadVal P T n w v := by
  unfold loadVal loadSem
  split
  · exact load_row hu hd hi w _ _
  · rfl
theorem store_val (hi : (P.info? T).map (·.size) = some n) (w : World) (v u : Value) : (storeSem T v u).run P w = storeVal P T n w v u := by
  unfold storeVal storeSem
  split
  · exact store_row hi w _ _ _
  · rfl
end
/-! a slice of wide values, written out: 'f(x, y)' of a variadic f -/
def buildSem (T : TypeId) (len : Nat) (parts : Array (Nat × Value)) : Sem Value := Instr.buildSlice T len parts
theorem foldl_setMany (X : List Value) : ∀ (cs : Array Value) (o k : Nat), (X.zipIdx k).foldl (fun cs (cj : Value × Nat) => cs.setIfInBounds (o + cj.2) cj.1) cs = setMany cs (o + k) X := by
  induction X with
  | nil => intros; rfl
  | cons v r ih => intro cs o k; rw [List.zipIdx_cons, List.foldl_cons, ih, setMany]; rfl
theorem fill_cons (place : Nat → Option (Nat × Nat)) (cells X : Array Value) (i o n : Nat) (rest : List (Nat × Value)) (hp : place i = some (o, n)) (hX : X.size = n) (hle : o + n ≤ cells.size) :
    Instr.fill place cells ((i, .agg X) :: rest) = Instr.fill place (splice cells o X) rest := by
  rw [Instr.fill]
  simp only [hp, Value.cells, hX]
  rw [if_neg (by simp; omega)]
  congr 1
  have := foldl_setMany X.toList cells o 0
  rw [Nat.add_zero] at this
  rw [splice, ← this, ← Array.foldl_toList]
  simp
section
variable {P : Program} {T E : TypeId} {n : Nat} {z : Value} {X Y Z : Array Value}
theorem append_of_gets {A B : Array Value} (hs : A.size = B.size) (h : ∀ i, i < B.size → A[i]? = B[i]?) : A = B := by
  apply Array.ext_getElem?
  intro i
  by_cases hi : i < B.size
  · exact h i hi
  · rw [Array.getElem?_eq_none (by omega), Array.getElem?_eq_none (by omega)]
theorem splice_size (cs : Array Value) (o : Nat) (X : Array Value) : (splice cs o X).size = cs.size := setMany_size _ _ _
theorem splice_get (cs : Array Value) (o i : Nat) (X : Array Value) : (splice cs o X)[i]? = if o ≤ i ∧ i < o + X.size ∧ i < cs.size then X[i - o]? else cs[i]? := by
  rw [splice, setMany_get]; simp
variable (hT : P.underlying T = some (.slice E)) (hi : (P.info? E).map (fun i => (i.zero, i.size)) = some (some z, n)) (hn : n ≤ 1000)
include hT hi hn
theorem build_slice (w : World) (len : Nat) (parts : Array (Nat × Value)) (R : Array Value) (hlen : len ≤ 1000) (h0 : 0 < len * n)
    (hfill : ∀ C : Array Value, C.size = len * n → Instr.fill (fun i => some (i * n, n)) C parts.toList = some R) : (buildSem T len parts).run P w = .ok (.slice (some ⟨w.heap.size, 0, none⟩) len len) (w.alloc (.cells R E)) := by
  cases hq : P.info? E with
  | none => simp [hq] at hi
  | some i =>
    simp [hq] at hi
    have hz : (zeroValue E).run P w = .ok z w := by simp [zeroValue, typeInfo, hq, hi.1]
    have hs : (sizeOf E).run P w = .ok n w := by simp [sizeOf, typeInfo, hq, hi.2]
    have hle : len * n ≤ 1000 * 1000 := Nat.mul_le_mul hlen hn
    unfold buildSem Instr.buildSlice
    have hm : ((Array.range (len * n)).map (z.cells[· % z.cells.size]!)).size = len * n := by simp
    have hf := hfill _ hm
    simp only [Sem.run_bind, run_underlying hT, hs, Result.andThen_ok]
    rw [if_neg (by omega), if_neg (by omega)]
    simp only [Sem.run_bind, hz, Result.andThen_ok, Sem.run_pure, hf]
    simp [newRow]
theorem build_slice1 (w : World) (hX : X.size = n) (hn0 : 0 < n) : (buildSem T 1 #[(0, .agg X)]).run P w = .ok (.slice (some ⟨w.heap.size, 0, none⟩) 1 1) (w.alloc (.cells X E)) := by
  refine build_slice hT hi hn w 1 _ X (by omega) (by omega) fun C hm => ?_
  show Instr.fill _ C [(0, .agg X)] = _
  rw [fill_cons _ _ _ 0 0 n _ (by simp) hX (by omega), Instr.fill]
  congr 1
  refine append_of_gets (by rw [splice_size, hm, hX]; omega) (fun k hk => ?_)
  rw [splice_get, if_pos (by omega)]; rfl
theorem build_slice2 (w : World) (hX : X.size = n) (hY : Y.size = n) (hn0 : 0 < n) : (buildSem T 2 #[(0, .agg X), (1, .agg Y)]).run P w = .ok (.slice (some ⟨w.heap.size, 0, none⟩) 2 2) (w.alloc (.cells (X ++ Y) E)) := by
  refine build_slice hT hi hn w 2 _ (X ++ Y) (by omega) (by omega) fun C hm => ?_
  show Instr.fill _ C [(0, .agg X), (1, .agg Y)] = _
  rw [fill_cons _ _ _ 0 0 n _ (by simp) hX (by omega), fill_cons _ _ _ 1 n n _ (by simp) hY (by rw [splice_size]; omega), Instr.fill]
  congr 1
  refine append_of_gets (by rw [splice_size, splice_size, hm]; simp; omega) (fun k hk => ?_)
  simp only [splice_get, splice_size, Array.getElem?_append, hX, hY, hm]
  simp only [Array.size_append, hX, hY] at hk
  by_cases h : k < n
  · rw [if_neg (by omega), if_pos (by omega), if_pos h]; rfl
  · rw [if_pos (by omega), if_neg h]
theorem build_slice3 (w : World) (hX : X.size = n) (hY : Y.size = n) (hZ : Z.size = n) (hn0 : 0 < n) :
    (buildSem T 3 #[(0, .agg X), (1, .agg Y), (2, .agg Z)]).run P w = .ok (.slice (some ⟨w.heap.size, 0, none⟩) 3 3) (w.alloc (.cells (X ++ Y ++ Z) E)) := by
  refine build_slice hT hi hn w 3 _ (X ++ Y ++ Z) (by omega) (by omega) fun C hm => ?_
  show Instr.fill _ C [(0, .agg X), (1, .agg Y), (2, .agg Z)] = _
  rw [fill_cons _ _ _ 0 0 n _ (by simp) hX (by omega), fill_cons _ _ _ 1 n n _ (by simp) hY (by rw [splice_size]; omega), fill_cons _ _ _ 2 (2 * n) n _ (by simp) hZ (by rw [splice_size, splice_size]; omega), Instr.fill]
  congr 1
  refine append_of_gets (by rw [splice_size, splice_size, splice_size, hm]; simp; omega) (fun k hk => ?_)
  simp only [splice_get, splice_size, Array.getElem?_append, Array.size_append, hX, hY, hZ, hm]
  simp only [Array.size_append, hX, hY, hZ] at hk
  by_cases h : k < n
  · rw [if_neg (by omega), if_neg (by omega), if_pos (by omega), if_pos (by omega), if_pos h]; rfl
  · by_cases h2 : k < 2 * n
    · rw [if_neg (by omega), if_pos (by omega), if_pos (by omega), if_neg h]
    · rw [if_pos (by omega), if_neg (by omega)]
      congr 1; omega
end
/-! an element of an array value -/
def indexSem (T : TypeId) (x i : Value) : Sem Value := Instr.index T x i
def indexSlow (P : Program) (T : TypeId) (X : Array Value) (i : Int) (w : World) : Result Value := (Instr.index T (.agg X) (.int .i64 i)).run P w
theorem index_row {P : Program} {T E : TypeId} {n : Nat} {d : TypeDesc} (hT : P.underlying T = some (.array n E)) (hE : P.underlying E = some d) (hd : d.isRow = false) (hi : (P.info? E).map (·.size) = some 1) (w : World) (X : Array Value) (i : Int) (v : Value) (h0 : 0 ≤ i) (hn : i < n) (hv : X[i.toNat]? = some v) :
    (indexSem T (.agg X) (.int .i64 i)).run P w = .ok v w := by
  cases hq : P.info? E with
  | none => simp [hq] at hi
  | some f =>
    have hs : f.size = 1 := by simpa [hq] using hi
    have ha : (isAgg E).run P w = .ok false w := by
      unfold isAgg
      simp only [Sem.run_bind, run_underlying hE, Result.andThen_ok]
      cases d <;> first | rfl | (cases hd; done)
    unfold indexSem Instr.index
    simp only [asIntOf, Sem.run_bind, Sem.run_pure, Result.andThen_ok, run_underlying hT]
    rw [if_pos ⟨h0, hn⟩]
    simp [sizeOf, typeInfo, hq, hs, part, ha, hv]
end Go.Proofs.YtomlilkobhkoiaaGreatDoor
/- More words for walks. -/
namespace Go.Proofs.YtomlilkobhkoiaaGreatDoor
open Go.RowKit
theorem Ans.call {P : Program} {f : FuncId} {args : Array Value} {v : Value} (h : Ans P f args v) (w : World) : Calls P f args w fun e w' => e = .returned v ∧ Below w.heap.size w w' := h w
/-- Rows that a world bears. -/
def Knows (W : World) : List (Nat × Array Value) → Prop
  | [] => True
  | (g, X) :: L => (row? W g = some X ∧ g < W.heap.size) ∧ Knows W L
/-- W has come of w: what was there is as it was; these rows are known. -/
def St (w W : World) (L : List (Nat × Array Value)) : Prop := Below w.heap.size w W ∧ Knows W L
section
variable {w W W' : World} {L : List (Nat × Array Value)}
theorem Knows.of_rows (hr : ∀ g X, row? W g = some X → row? W' g = some X) : ∀ {L : List (Nat × Array Value)}, Knows W L → Knows W' L
  | [], _ => trivial
  | (_, _) :: _, h => ⟨⟨hr _ _ h.1.1, row_lt (hr _ _ h.1.1)⟩, Knows.of_rows hr h.2⟩
theorem St.start (w : World) : St w w [] := ⟨Below.refl _ _, trivial⟩
theorem St.below (h : St w W L) : Below w.heap.size w W := h.1
theorem St.call (h : St w W L) (hb : Below W.heap.size W W') : St w W' L :=
  ⟨h.1.trans (hb.mono h.1.size), h.2.of_rows fun _ _ hr => (row_below hb (row_lt hr)).trans hr⟩
theorem St.new (h : St w W L) (c : Array Value) (t : TypeId) : St w (W.alloc (.cells c t)) ((W.heap.size, c) :: L) :=
  ⟨h.1.alloc h.1.size _, ⟨by rw [row_alloc, if_pos rfl], by simp⟩, h.2.of_rows fun g _ hr => (row_alloc_ne W g _ (Nat.ne_of_lt (row_lt hr))).trans hr⟩
theorem St.keep (h : St w W L) (o : Obj) : St w (W.alloc o) L :=
  ⟨h.1.alloc h.1.size _, h.2.of_rows fun g _ hr => (row_alloc_ne W g _ (Nat.ne_of_lt (row_lt hr))).trans hr⟩
theorem St.drew (h : St w W L) : St w W.drew L := ⟨h.1.drew, Knows.of_rows (W := W) (W' := W.drew) (fun _ _ hr => hr) h.2⟩
theorem St.drewN (h : St w W L) (n : Nat) : St w (W.drewN n) L := ⟨below_drewN h.1 n, Knows.of_rows (W := W) (W' := W.drewN n) (fun _ _ hr => hr) h.2⟩
theorem St.ext (h : St w W L) (x : World) : St w (Go.Proofs.YtomlilkobhkoiaaGreatDoor.ext W x) L := h.call (ext_below W x)
end
end Go.Proofs.YtomlilkobhkoiaaGreatDoor
