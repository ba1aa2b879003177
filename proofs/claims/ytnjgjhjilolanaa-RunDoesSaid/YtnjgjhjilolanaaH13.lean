/- Several texts in one. -/
import Derived.Test.YtnjgjhjilolanaaH12
import Derived.Test.YtnjgjhjilolanaaH2
import Derived.Test.YtnjgjhjilolanaaH1
import Derived.DeepKeys4
import Derived.Test.YtnjgjhjilolanaaH5
import Derived.Test.YtnjgjhjilolanaaH4
/- Items as keys of maps. -/
namespace Go.Proofs.Ytnjgjhjilolanaa
open Go.RowKit
open Go.Maps (Keyed)
set_option linter.unusedVariables false
set_option maxRecDepth 20000
def InI (x : Item) : Prop := (-9223372036854775808 ≤ x.rep ∧ x.rep ≤ 9223372036854775807) ∧ (-9223372036854775808 ≤ x.num ∧ x.num ≤ 9223372036854775807)
theorem wide_item : (match Try.prog.underlying 35 with | some (.array _ _) | some (.struct _) => true | _ => false) = true := by rw [Try.underlying35]
theorem row_item : (35 : TypeId) < Try.prog.types.size := of_decide_eq_true (by kernel_rfl)
theorem wf_int {n : Int} (h : -9223372036854775808 ≤ n ∧ n ≤ 9223372036854775807) : (Lit.int .i64 n).wf = true := by
  simp [Lit.wf, IntKind.min, IntKind.max, IntKind.signed, IntKind.bits]; omega
theorem keyLits_int {d : Nat} {n : Int} (h : -9223372036854775808 ≤ n ∧ n ≤ 9223372036854775807) : Try.prog.keyLits (d + 1) 3 [.int .i64 n] = some [.int .i64 n] := by
  simp [Program.keyLits, Try.underlying3, wf_int h]
theorem keyLits_item {x : Item} (h : InI x) (d : Nat) : Try.prog.keyLits (d + 2) 35 (IV x).toList = some [.int .i64 x.rep, .int .i64 x.num] := by
  have c1 : Try.prog.cellsOf 3 = 1 := by kernel_rfl
  have c2 : Try.prog.cellsOf 35 = 2 := by kernel_rfl
  have k1 := keyLits_int (d := d) h.1
  have k2 := keyLits_int (d := d) h.2
  unfold Program.keyLits
  simp only [Try.underlying35, c2]
  rw [if_pos ⟨rfl, by kernel_rfl⟩]
  simp only [List.mapM_cons, List.mapM_nil, c1, IV, List.drop_zero, List.drop_succ_cons, List.take_succ_cons, List.take_zero]
  simp [k1, k2]
theorem itemOk : KeyOk Try.prog 35 (fun x : Item => Value.agg (IV x)) InI where
  lit x hx := by
    refine ⟨.string (keyBytes [.int .i64 x.rep, .int .i64 x.num]), ?_⟩
    unfold keyOf
    rw [Try.underlying35]
    simp only
    rw [if_pos]
    · obtain ⟨d, hd⟩ : ∃ d, Try.prog.types.size + 1 = d + 2 := ⟨Try.prog.types.size - 1, by have : 0 < Try.prog.types.size := of_decide_eq_true (by kernel_rfl); omega⟩
      rw [hd]
      show Option.map _ (Try.prog.keyLits (d + 2) 35 (IV x).toList) = _
      rw [keyLits_item hx d]
      rfl
    · rw [Bool.and_eq_true]
      refine ⟨by kernel_rfl, ?_⟩
      have c2 : Try.prog.cellsOf 35 = 2 := by kernel_rfl
      simp [Value.formed, Try.underlying35, c2, IV]
  inj x y l hx hy h1 h2 := by
    have := keyOf_inj_deep (P := Try.prog) (m := 2) (tiled_of_laidOut laidOut 2 35 (by
      simp only [isVar, Bool.and_eq_true, decide_eq_true_eq]
      exact ⟨row_item, by rw [Try.underlying35]; rfl⟩) (by kernel_rfl)) wide_item h1 h2
    injection this with e
    obtain ⟨a, b⟩ := (TItem_ext x y).1 e
    cases x; cases y; simp_all
  keyed := Keyed.of_law (deep_law_laid laidOut (m := 2) (by omega) row_item (by kernel_rfl) wide_item)
end Go.Proofs.Ytnjgjhjilolanaa
/- Layer 18: a search through a graph, in memory: its things, and what it is. -/
namespace Go.Proofs.Ytnjgjhjilolanaa
open Go.RowKit Go.Shelf
set_option linter.unusedVariables false
set_option maxRecDepth 20000
theorem itemKL : Go.WideMaps.KeyLaw Try.prog 35 := deep_law_laid laidOut (m := 2) (by omega) row_item (by kernel_rfl) wide_item
theorem zeroN (w : World) : (zeroValue 3).run Try.prog w = .ok (.int .i64 0) w := by
  have h : (Try.prog.info? 3).map (·.zero) = some (some (.int .i64 0)) := by kernel_rfl
  cases hi : Try.prog.info? 3 with
  | none => rw [hi] at h; simp at h
  | some i => rw [hi] at h; simp at h; simp [zeroValue, typeInfo, hi, h]
theorem zeroB (w : World) : (zeroValue 4).run Try.prog w = .ok (.bool false) w := by
  have h : (Try.prog.info? 4).map (·.zero) = some (some (.bool false)) := by kernel_rfl
  cases hi : Try.prog.info? 4 with
  | none => rw [hi] at h; simp at h
  | some i => rw [hi] at h; simp at h; simp [zeroValue, typeInfo, hi, h]
/-- A map of the walk's own: numbers, or bits, by items; how many there are. -/
abbrev numR (b n c : Nat) (f : Item → Option Int) : Res := mapCR Try.prog 35 (fun x : Item => Value.agg (IV x)) (fun i : Int => Value.int .i64 i) InI b n c f
abbrev bitR (b n c : Nat) (f : Item → Option Bool) : Res := mapCR Try.prog 35 (fun x : Item => Value.agg (IV x)) (fun i : Bool => Value.bool i) InI b n c f
def wkC (b bi bl bo : Nat) (vs vf vp vm : Value) : Array Value := #[.pointer (some ⟨b, 0, none⟩), .map (some bi), .map (some bl), .map (some bo), vs, vf, vp, vm]
/-- A slice that is only read, cut from the front. -/
def cutR (u : Value) (l : List Item) : Res where
  sat F W := ∃ a c, u = .slice a l.length c ∧ l.length ≤ c ∧ (∀ k, F k → k < W.heap.size) ∧ ∀ j y, l[j]? = some y → ∃ g o, a = some ⟨g, o, none⟩ ∧ F g ∧ W.cell? ⟨g, o + j * 2, none⟩ = some (.int .i64 y.rep) ∧ W.cell? ⟨g, o + j * 2 + 1, none⟩ = some (.int .i64 y.num)
  stay := fun {F W W'} h ⟨a, c, hu, hc, hl, hy⟩ => by
    refine ⟨a, c, hu, hc, fun k hk => ?_, fun j y hj => ?_⟩
    · have h1 := hl k hk
      have h2 := h k hk
      rw [Array.getElem?_eq_getElem h1] at h2
      exact (Array.getElem?_eq_some_iff.1 h2).1
    · obtain ⟨g, o, ha, hg, h1, h2⟩ := hy j y hj
      exact ⟨g, o, ha, hg, (World.cell?_of_block (a := ⟨g, o + j * 2, none⟩) (h g hg)).trans h1, (World.cell?_of_block (a := ⟨g, o + j * 2 + 1, none⟩) (h g hg)).trans h2⟩
  lt := fun ⟨a, c, hu, hc, hl, hy⟩ => hl
def FV (f : Item × Value × List Item) : Array Value := #[.int .i64 f.1.rep, .int .i64 f.1.num, f.2.1]
def PV (p : Value × List Item) : Array Value := #[p.1]
abbrev FrW (fr : List (Item × List Item)) : Type := {fv : List (Item × Value × List Item) // fv.map (fun f => (f.1, f.2.2)) = fr}
def frR (v : Value) (fr : List (Item × List Item)) : Res := exR fun fv : FrW fr => packR (vecR 105 3 v fv.1.length (vl FV fv.1) :: fv.1.map fun f => cutR f.2.1 f.2.2)
abbrev PaW (pa : List (List Item)) : Type := {pv : List (Value × List Item) // pv.map (·.2) = pa}
def paR (v : Value) (pa : List (List Item)) : Res := exR fun pv : PaW pa => packR (vecR 30 1 v pv.1.length (vl PV pv.1) :: pv.1.map fun p => vecR 35 2 p.1 p.2.length (vl IV p.2))
/-- What a walk is. -/
structure WS where
  ix : Item → Option Int
  ci : Nat
  lo : Item → Option Int
  on : Item → Option Bool
  st : List Item
  fr : List (Item × List Item)
  pa : List (List Item)
  mi : List Item
/-- Where it lies. -/
structure WA where
  bi : Nat
  bl : Nat
  bo : Nat
  n1 : Nat
  n2 : Nat
  c2 : Nat
  n3 : Nat
  c3 : Nat
  vs : Value
  vf : Value
  vp : Value
  vm : Value
def WA.le (A : WA) (N : Nat) : Prop := A.n1 ≤ N ∧ A.n2 ≤ N ∧ A.n3 ≤ N
def wkL (wk b : Nat) (A : WA) (S : WS) : List Res :=
  [rowR wk (wkC b A.bi A.bl A.bo A.vs A.vf A.vp A.vm), numR A.bi A.n1 S.ci S.ix, numR A.bl A.n2 A.c2 S.lo, bitR A.bo A.n3 A.c3 S.on,
    vecR 35 2 A.vs S.st.length (vl IV S.st), frR A.vf S.fr, paR A.vp S.pa, vecR 35 2 A.vm S.mi.length (vl IV S.mi)]
noncomputable def pushM (m : RowsMK) (q : RowsML) (x : Item) (S : WS) : WS :=
  { S with ix := putF S.ix x S.ci, ci := if (S.ix x).isSome then S.ci else S.ci + 1, lo := putF S.lo x S.ci, on := putF S.on x true, st := S.st ++ [x], fr := S.fr ++ [(x, waitsM m q x)] }
section
variable {w W : World} {F : Nat → Prop} {R : List Res}
theorem FV_size (f : Item × Value × List Item) : (FV f).size = 3 := rfl
theorem PV_size (p : Value × List Item) : (PV p).size = 1 := rfl
theorem Sts.vecCut {v : Value} {l : List Item} (T : Sts w F W (vecR 35 2 v l.length (vl IV l) :: R)) : Sts w F W (cutR v l :: R) := by
  refine T.to fun A ha => ?_
  obtain ⟨hown, hA⟩ := ha
  have hlt : ∀ k, A k → k < W.heap.size := fun k hk => (hown.lt k ((hA k).1 hk)).2
  rcases hown.2 with ⟨hv, hn⟩ | ⟨g, cap, cur, hv, _, hg, hn, hm, hc, ht⟩
  · have hl : l = [] := List.eq_nil_of_length_eq_zero hn
    subst hl
    exact ⟨none, 0, hv, by simp, hlt, fun j y hj => by simp at hj⟩
  · refine ⟨some ⟨g, 0, none⟩, cap, hv, hn, hlt, fun j y hj => ⟨g, 0, rfl, (hA g).2 (by rw [hv]; rfl), ?_⟩⟩
    obtain ⟨hjl, rfl⟩ := List.getElem?_eq_some_iff.1 hj
    have key : ∀ i u, i < 2 → (IV l[j])[i]? = some u → W.cell? ⟨g, j * 2 + i, none⟩ = some u := fun i u hi hu => by
      have h2 := flatV_get TItem_size l j hjl i hi
      rw [hu] at h2
      have h3 : (vl IV l)[j * 2 + i]? = some u := by unfold vl; rw [Array.getElem?_toList]; exact h2
      rw [← ht, List.getElem?_take] at h3
      split at h3
      · rw [cell_of_row W g _ cur _ (0, 0) hg]; simpa using h3
      · cases h3
    have k0 := key 0 _ (by omega) rfl
    have k1 := key 1 _ (by omega) rfl
    simp only [Nat.zero_add]
    exact ⟨k0, k1⟩
theorem Sts.cut {u : Value} {l : List Item} (T : Sts w F W (cutR u l :: R)) : ∃ a c, u = .slice a l.length c ∧ l.length ≤ c ∧ ∀ j y, l[j]? = some y → ∃ g o, a = some ⟨g, o, none⟩ ∧ g < W.heap.size ∧ W.cell? ⟨g, o + j * 2, none⟩ = some (.int .i64 y.rep) ∧ W.cell? ⟨g, o + j * 2 + 1, none⟩ = some (.int .i64 y.num) := by
  obtain ⟨G, a, c, hu, hc, hl, hy⟩ := T.at0
  exact ⟨a, c, hu, hc, fun j y hj => by obtain ⟨g, o, ha, hg, h1, h2⟩ := hy j y hj; exact ⟨g, o, ha, hl g hg, h1, h2⟩⟩
theorem Sts.cutNext {a : Option Addr} {n c : Nat} {y : Item} {l : List Item} (T : Sts w F W (cutR (.slice a n c) (y :: l) :: R)) : Sts w F W (cutR (.slice (if c = 1 then a else a.map (·.add 2)) l.length (c - 1)) l :: R) := by
  refine T.to fun A ha => ?_
  obtain ⟨a', c', hu, hc, hl, hy⟩ := ha
  injection hu with e1 e2 e3
  subst e1 e3
  simp only [List.length_cons] at hc
  refine ⟨_, _, rfl, by omega, hl, fun j z hj => ?_⟩
  obtain ⟨g, o, ha, hg, h1, h2⟩ := hy (j + 1) z (by simpa using hj)
  have hc1 : c ≠ 1 := fun h => by
    have := (List.getElem?_eq_some_iff.1 hj).1
    omega
  rw [if_neg hc1, ha]
  refine ⟨g, o + 2, rfl, hg, ?_, ?_⟩
  · rw [show o + 2 + j * 2 = o + (j + 1) * 2 by omega]; exact h1
  · rw [show o + 2 + j * 2 = o + (j + 1) * 2 by omega]; exact h2
theorem Sts.frOpen {v : Value} {fr : List (Item × List Item)} (T : Sts w F W (frR v fr :: R)) : ∃ fv : List (Item × Value × List Item), fv.map (fun f => (f.1, f.2.2)) = fr ∧ Sts w F W (vecR 105 3 v fv.length (vl FV fv) :: (fv.map (fun f => cutR f.2.1 f.2.2) ++ R)) := by
  obtain ⟨⟨fv, h⟩, T⟩ := T.open
  exact ⟨fv, h, T.unpack⟩
theorem Sts.frShut {v : Value} {fv : List (Item × Value × List Item)} (T : Sts w F W (vecR 105 3 v fv.length (vl FV fv) :: (fv.map (fun f => cutR f.2.1 f.2.2) ++ R))) : Sts w F W (frR v (fv.map (fun f => (f.1, f.2.2))) :: R) :=
  Sts.close (f := fun fv : FrW _ => packR (vecR 105 3 v fv.1.length (vl FV fv.1) :: fv.1.map fun f => cutR f.2.1 f.2.2)) ⟨fv, rfl⟩ (Sts.pack (L := vecR 105 3 v fv.length (vl FV fv) :: fv.map (fun f => cutR f.2.1 f.2.2)) T)
theorem Sts.paOpen {v : Value} {pa : List (List Item)} (T : Sts w F W (paR v pa :: R)) : ∃ pv : List (Value × List Item), pv.map (·.2) = pa ∧ Sts w F W (vecR 30 1 v pv.length (vl PV pv) :: (pv.map (fun p => vecR 35 2 p.1 p.2.length (vl IV p.2)) ++ R)) := by
  obtain ⟨⟨pv, h⟩, T⟩ := T.open
  exact ⟨pv, h, T.unpack⟩
theorem Sts.paShut {v : Value} {pv : List (Value × List Item)} (T : Sts w F W (vecR 30 1 v pv.length (vl PV pv) :: (pv.map (fun p => vecR 35 2 p.1 p.2.length (vl IV p.2)) ++ R))) : Sts w F W (paR v (pv.map (·.2)) :: R) :=
  Sts.close (f := fun pv : PaW _ => packR (vecR 30 1 v pv.1.length (vl PV pv.1) :: pv.1.map fun p => vecR 35 2 p.1 p.2.length (vl IV p.2))) ⟨pv, rfl⟩ (Sts.pack (L := vecR 30 1 v pv.length (vl PV pv) :: pv.map (fun p => vecR 35 2 p.1 p.2.length (vl IV p.2))) T)
theorem Sts.frPush {v u : Value} {x : Item} {l : List Item} {fv : List (Item × Value × List Item)} (T : Sts w F W (vecR 105 3 v (fv.length + 1) (vl FV fv ++ (FV (x, u, l)).toList) :: cutR u l :: (fv.map (fun f => cutR f.2.1 f.2.2) ++ R))) : Sts w F W (frR v (fv.map (fun f => (f.1, f.2.2)) ++ [(x, l)]) :: R) := by
  have h : fv.map (fun f => (f.1, f.2.2)) ++ [(x, l)] = (fv ++ [(x, u, l)]).map (fun f => (f.1, f.2.2)) := by simp
  rw [h]
  refine Sts.frShut ?_
  rw [List.length_append, vl_snoc, List.map_append, List.append_assoc]
  exact T.perm (List.Perm.cons _ List.perm_middle.symm)
theorem Sts.paPush {v u : Value} {l : List Item} {pv : List (Value × List Item)} (T : Sts w F W (vecR 30 1 v (pv.length + 1) (vl PV pv ++ (PV (u, l)).toList) :: vecR 35 2 u l.length (vl IV l) :: (pv.map (fun p => vecR 35 2 p.1 p.2.length (vl IV p.2)) ++ R))) : Sts w F W (paR v (pv.map (·.2) ++ [l]) :: R) := by
  have h : pv.map (·.2) ++ [l] = (pv ++ [(u, l)]).map (·.2) := by simp
  rw [h]
  refine Sts.paShut ?_
  rw [List.length_append, vl_snoc, List.map_append, List.append_assoc]
  exact T.perm (List.Perm.cons _ List.perm_middle.symm)
theorem Sts.pack1 {r : Res} {L : List Res} (T : Sts w F W (r :: (L ++ R))) : Sts w F W (r :: packR L :: R) := by
  have T1 : Sts w F W (L ++ r :: R) := T.perm List.perm_middle.symm
  exact (Sts.pack T1).perm (List.Perm.swap _ _ _)
theorem Sts.unpack1 {r : Res} {L : List Res} (T : Sts w F W (r :: packR L :: R)) : Sts w F W (r :: (L ++ R)) :=
  (Sts.unpack (T.perm (List.Perm.swap _ _ _))).perm List.perm_middle
theorem Sts.frOpen2 {v : Value} {fr : List (Item × List Item)} (T : Sts w F W (frR v fr :: R)) : ∃ fv : List (Item × Value × List Item), fv.map (fun f => (f.1, f.2.2)) = fr ∧ Sts w F W (vecR 105 3 v fv.length (vl FV fv) :: packR (fv.map (fun f => cutR f.2.1 f.2.2)) :: R) := by
  obtain ⟨fv, h, T⟩ := T.frOpen
  exact ⟨fv, h, T.pack1⟩
theorem Sts.frShut2 {v : Value} {fv : List (Item × Value × List Item)} (T : Sts w F W (vecR 105 3 v fv.length (vl FV fv) :: packR (fv.map (fun f => cutR f.2.1 f.2.2)) :: R)) : Sts w F W (frR v (fv.map (fun f => (f.1, f.2.2))) :: R) := T.unpack1.frShut
theorem Sts.frPush2 {v u : Value} {x : Item} {l : List Item} {fv : List (Item × Value × List Item)} (T : Sts w F W (vecR 105 3 v (fv.length + 1) (vl FV fv ++ (FV (x, u, l)).toList) :: packR (fv.map (fun f => cutR f.2.1 f.2.2)) :: cutR u l :: R)) : Sts w F W (frR v (fv.map (fun f => (f.1, f.2.2)) ++ [(x, l)]) :: R) := by
  have T1 := T.unpack1
  exact Sts.frPush (T1.perm (List.Perm.cons _ List.perm_middle))
/-- A slice cut short, and what is behind stays room. -/
theorem Sts.vecShort {α : Type} {V : α → Array Value} {size : Nat} (hV : ∀ x, (V x).size = size) {e : TypeId} {v : Value} {l : List α} {k : Nat} (hk : k ≤ l.length) {A : Option Addr} {c : Nat} (hv : v = .slice A l.length c) (T : Sts w F W (vecR e size v l.length (vl V l) :: R)) : Sts w F W (vecR e size (.slice A k c) (l.take k).length (vl V (l.take k)) :: R) := by
  refine T.to fun G hG => ?_
  obtain ⟨hown, hG⟩ := hG
  have hlen : (l.take k).length = k := by rw [List.length_take]; omega
  have hvl : (vl V (l.take k)).length = k * size := by
    unfold vl
    rw [Array.length_toList, flatV_size hV, hlen]
  have htake : (vl V l).take (k * size) = vl V (l.take k) := by
    have h1 : vl V l = vl V (l.take k) ++ vl V (l.drop k) := by
      unfold vl; rw [← Array.toList_append, ← flatV_append, List.take_append_drop]
    rw [h1, List.take_append_of_le_length (by omega), List.take_of_length_le (by omega)]
  rw [hlen]
  subst hv
  rcases hown.2 with ⟨h1, h2⟩ | ⟨g, cap, cur, h1, hb, hg, hn, hm, hc, ht⟩
  · injection h1 with e1 e2 e3
    have : k = 0 := by omega
    subst this e1 e3
    exact ⟨⟨hvl, .inl ⟨rfl, rfl⟩⟩, hG⟩
  · injection h1 with e1 e2 e3
    subst e1 e3
    refine ⟨⟨hvl, .inr ⟨g, c, cur, rfl, hb, hg, by omega, hm, hc, ?_⟩⟩, hG⟩
    rw [← htake, ← ht, List.take_take, Nat.min_eq_left (Nat.mul_le_mul_right _ hk)]
end
end Go.Proofs.Ytnjgjhjilolanaa
/- Slices of items: where one stands, whether it does, and a copy. -/
namespace Go.Proofs.Ytnjgjhjilolanaa
open Go.RowKit Go.Shelf
set_option linter.unusedVariables false
set_option maxRecDepth 20000
attribute [local go_sem] row_alloc row_drew row_drewN row_ext row_setCell row_setRow size_ext setRow_alloc setRow_drew loadOf storeOf piece_lit loadVal_at storeVal_at allOne_lit buildOf buildRes_some
attribute [local go_sem high] cell_alloc frozen_alloc setCell_alloc cell_ext frozen_ext cell_setRow frozen_setRow
attribute [local go_sem ↓] TDeed_ld0 TDeed_st0 TDeed_fd0 TDeed_bd0
attribute [local go_sem] TDeed_size TDeed_one TDeed_piece TDeed_c0 TDeed_c1 TDeed_c2 TDeed_c3 TDeed_c4 TDeed_c5 TDeed_set_kind TDeed_set_key TDeed_set_val TDeed_set_ver TDeed_set_ses TDeed_set_num TDeed_ld TDeed_st TDeed_f_kind TDeed_f_key TDeed_f_val TDeed_f_ver TDeed_f_ses TDeed_f_num TDeed_bd TDeed_fl TDeed_fl_kind TDeed_fl_key TDeed_fl_val TDeed_fl_ver TDeed_fl_ses TDeed_fl_num
attribute [local go_sem high] TDeed_eql TDeed_neq
attribute [local go_sem ↓] index_deps0 load_deps0 store_deps0
attribute [local go_sem] DV_piece DV_size DV_one index_deps load_deps store_deps
attribute [local go_sem high] TDeps_eql TDeps_neq
attribute [local go_sem ↓] TCall_ld0 TCall_st0 TCall_fd0 TCall_bd0
attribute [local go_sem] TCall_size TCall_one TCall_piece TCall_c0 TCall_c1 TCall_c2 TCall_c3 TCall_c4 TCall_c5 TCall_c6 TCall_c7 TCall_c8 TCall_c9 TCall_c10 TCall_c11 TCall_c12 TCall_c13 TCall_p_deed TCall_put_deed TCall_p_deps TCall_put_deps TCall_set_seq TCall_ld TCall_st TCall_f_deed TCall_f_deps TCall_f_seq TCall_bd TCall_fl TCall_fl_deed TCall_fl_deps TCall_fl_seq
attribute [local go_sem high] TCall_eql TCall_neq
attribute [local go_sem ↓] TItem_ld0 TItem_st0 TItem_fd0 TItem_bd0
attribute [local go_sem] TItem_size TItem_one TItem_piece TItem_c0 TItem_c1 TItem_set_rep TItem_set_num TItem_ld TItem_st TItem_f_rep TItem_f_num TItem_bd TItem_fl TItem_fl_rep TItem_fl_num
attribute [local go_sem high] TItem_eql TItem_neq
attribute [local go_sem ↓] itm_slice0
/-- Where an item stands: as many as there are, if nowhere. -/
noncomputable def idxN (x : Item) (l : List Item) : Nat := l.findIdx fun y => eqA (IV x) (IV y)
noncomputable def idxI (x : Item) (l : List Item) : Int := if idxN x l < l.length then (idxN x l : Int) else -1
theorem itm_slice2 (w : World) : (buildSem 30 0 #[]).run Try.prog w = .ok (.slice (some ⟨w.heap.size, 0, none⟩) 0 0) (w.alloc (.cells #[] 35)) := by
  unfold buildSem
  kernel_rfl
attribute [local go_sem] itm_slice2
section
variable {w W : World} {F : Nat → Prop} {R : List Res}
set_option maxHeartbeats 4000000 in
theorem indexR (v : Value) (l : List Item) (hl : l.length ≤ 1000000) (x : Item) : Reads Try.prog 71 #[v, .agg (IV x)] [vecR 35 2 v l.length (vl IV l)] (.int .i64 (idxI x l)) := by
  intro W G hS
  have T := (Sts.start0 W).new (IV x) 35
  have TS : Sts W G W [vecR 35 2 v l.length (vl IV l)] := Sts.start hS
  obtain ⟨A, c, rfl, hA, hlc, hA0⟩ := vec_rows TItem_size TS (by omega) (by omega)
  have hA1 : A = none ∨ ∃ g, A = some ⟨g, 0, none⟩ := by
    cases hh : A with
    | none => exact .inl rfl
    | some a => obtain ⟨g, rfl⟩ := hA0 a hh; exact .inr ⟨g, rfl⟩
  rcases hA1 with rfl | ⟨g, rfl⟩
  · have := hA.nil rfl
    subst this
    have HT := Lib.hid T; clear T TS hS hA hA0 hlc
    go_enter Try.func71, Try.ntmps71
    go_wp2_with fail
    go_loopw [8] (fun u8 wr => u8 = .int .i64 0 ∧ Sts W (fun _ => False) wr [rowR W.heap.size (IV x)]) (fun _ _ => 0)
    case atStart => exact ⟨rfl, HT.out⟩
    case round =>
      obtain ⟨rfl, T1⟩ := hrel
      have HT1 := Lib.hid T1; clear T1
      go_wp2
      go_ret
      exact ⟨rfl, HT1.out.below⟩
  · have FL : ∀ W' R', Sts W (fun _ => False) W' R' → ∀ (k : Nat) (y : Item), l[k]? = some y → loadVal Try.prog 35 2 W' (.pointer (some ⟨g, k * 2, none⟩)) = .ok (.agg (IV y)) W' := fun W' R' T k y hk => by
      obtain ⟨hk1, rfl⟩ := List.getElem?_eq_some_iff.1 hk
      have h := hA.load (P := Try.prog) (T := 35) TItem_size TItem_und rfl (by kernel_rfl) T.below rfl hk1
      rw [add_none, Nat.zero_add] at h
      exact h
    have HFL := Lib.hid FL; have HT := Lib.hid T
    clear FL T TS hS hA hA0
    obtain ⟨n, hn⟩ : ∃ n, n = l.length := ⟨_, rfl⟩
    rw [← hn] at hl hlc
    have HN := Lib.hid hn
    have hsl : (Value.slice (some ⟨g, 0, none⟩) l.length c) = .slice (some ⟨g, 0, none⟩) n c := by rw [hn]
    rw [hsl]; clear hsl hn
    obtain ⟨vr, hvr⟩ : ∃ vr, vr = idxI x l := ⟨_, rfl⟩
    rw [← hvr]
    have HV := Lib.hid hvr; clear hvr
    go_enter Try.func71, Try.ntmps71
    go_wp2_with fail
    generalize W.heap.size = gx at *
    go_loopw [8] (fun u8 wr => ∃ k : Nat, u8 = .int .i64 k ∧ k ≤ n ∧ (∀ j y, j < k → l[j]? = some y → eqA (IV x) (IV y) = false) ∧ Sts W (fun _ => False) wr [rowR gx (IV x)]) (fun u8 _ => n - (intOf u8).toNat)
    case atStart => exact ⟨0, rfl, by omega, fun j y hj => by omega, HT.out⟩
    case round =>
      clear HT
      obtain ⟨k, rfl, hk, hno, T1⟩ := hrel
      have HNO := Lib.hid hno; clear hno
      by_cases hkn : k < n
      · have hk1 : (k : Int) < (n : Int) := by omega
        have hk0 : (0 : Int) ≤ (k : Int) := by omega
        obtain ⟨y, hy⟩ : ∃ y, l[k]? = some y := ⟨l[k]'(by rw [← HN.out]; exact hkn), List.getElem?_eq_getElem _⟩
        have HY := Lib.hid hy
        have HT1 := Lib.hid T1.drew
        have S0 : (fun W' => row? W' gx = some (IV x) ∧ loadVal Try.prog 35 2 W' (.pointer (some ⟨g, k * 2, none⟩)) = .ok (.agg (IV y)) W') wr.drew := ⟨HT1.out.row, HFL.out _ _ HT1.out k y hy⟩
        clear T1 hy
        go_upto_region 4 with fail
        refine wp_region_held_drew (S := fun W' => row? W' gx = some (IV x) ∧ loadVal Try.prog 35 2 W' (.pointer (some ⟨g, k * 2, none⟩)) = .ok (.agg (IV y)) W') (by kernel_rfl) S0 (fun hHeld => ?_)
        clear S0
        refine tkH 0 rfl ?_
        simp only [Act.put, List.setIfInBounds_toArray, List.set_cons_zero, List.set_cons_succ]
        refine tkH 1 rfl ?_
        go_frame
        refine tkH 2 rfl ?_
        go_frame
        refine tkH 3 rfl ?_
        go_frame
        refine tkH 4 rfl ?_
        go_frame
        refine tkH 5 rfl ?_
        go_frame
        refine wpAnyH_done (by kernel_rfl) ?_ _
        try simp only [Exit.then]
        cases he : eqA (IV x) (IV y)
        case true =>
          have hv : vr = (k : Int) := by
            have hf : idxN x l = k := by
              unfold idxN
              obtain ⟨hkl, rfl⟩ := List.getElem?_eq_some_iff.1 HY.out
              rw [List.findIdx_eq hkl]
              exact ⟨he, fun j hj => HNO.out j _ hj (List.getElem?_eq_getElem _)⟩
            rw [HV.out, idxI, hf, if_pos (by rw [← HN.out]; exact hkn)]
          have HVV := Lib.hid hv
          clear hv
          go_wp2
          go_ret
          exact ⟨by rw [HVV.out]; rfl, HT1.out.below⟩
        case false =>
          go_wp2
          go_roundw
          case rel => exact ⟨k + 1, by go_num, by omega, fun j z hj hz => by
            rcases Nat.lt_succ_iff_lt_or_eq.1 hj with h | h
            · exact HNO.out j z h hz
            · subst h; rw [HY.out] at hz; injection hz with hz; subst hz; exact he, HT1.out⟩
          case measure => simp [intOf]; omega
      · have hk1 : ¬ (k : Int) < (n : Int) := by omega
        have HT1 := Lib.hid T1; clear T1
        have hv : vr = -1 := by
          have hf : idxN x l = l.length := by
            unfold idxN
            rw [List.findIdx_eq_length]
            intro z hz
            obtain ⟨j, hj, rfl⟩ := List.getElem_of_mem hz
            exact HNO.out j _ (by rw [← HN.out] at hj; omega) (List.getElem?_eq_getElem hj)
          rw [HV.out, idxI, hf, if_neg (by omega)]
        have HVV := Lib.hid hv
        clear hv
        go_wp2
        go_ret
        exact ⟨by rw [HVV.out]; rfl, HT1.out.below⟩
theorem containsR (v : Value) (l : List Item) (hl : l.length ≤ 1000000) (x : Item) : Reads Try.prog 59 #[v, .agg (IV x)] [vecR 35 2 v l.length (vl IV l)] (.bool (decide (0 ≤ idxI x l))) := by
  intro W G hS
  have T := (Sts.start0 W).new (IV x) 35
  have TS : Sts W G W [vecR 35 2 v l.length (vl IV l)] := Sts.start hS
  have HI := Lib.hid ((indexR v l hl x).at1 (TS.pure T.below))
  have hr := T.row; have hlt := row_lt hr
  have HT := Lib.hid T
  clear T TS hS
  generalize idxI x l = ii at *
  go_enter Try.func59, Try.ntmps59
  go_wp2_with fail
  refine HI.out.mono ?_
  clear HI hr hlt
  rintro e w5 ⟨rfl, hb⟩
  have HT2 := Lib.hid (HT.out.pure hb)
  clear hb HT
  go_wp2
  go_ret
  exact ⟨rfl, HT2.out.below⟩
theorem cloneT {l : List Item} {g k n c : Nat} (hn : l.length = n) (hl : n ≤ 1000000) (h0 : 0 < n) (hc : ∀ j y, l[j]? = some y → W.cell? ⟨g, k + j * 2, none⟩ = some (.int .i64 y.rep) ∧ W.cell? ⟨g, k + j * 2 + 1, none⟩ = some (.int .i64 y.num)) (T : Sts w F W R) :
    Calls Try.prog 56 #[.slice (some ⟨g, k, none⟩) n c] W fun e W' => ∃ g1 c1, e = .returned (.slice (some ⟨g1, 0, none⟩) n c1) ∧ Sts w F W' (vecR 35 2 (.slice (some ⟨g1, 0, none⟩) n c1) n (vl IV l) :: R) := by
  have HC := Lib.hid hc
  have T1 : Sts w F (W.alloc (.cells #[] 35)) (vecR 35 2 (.slice (some ⟨W.heap.size, 0, none⟩) 0 0) 0 [] :: R) := T.vecNew #[] _ _ _ rfl (by omega)
  have HT := Lib.hid T1
  clear hc T T1
  go_enter Try.func56, Try.ntmps56
  have hnil : ∀ w : World, (binOp .eql 30 (.slice (some ⟨g, k, none⟩) n c) (.slice none 0 0)).run Try.prog w = .ok (.bool false) w := fun w => by kernel_rfl
  obtain ⟨i0, hi, hz0, hz1, hz2⟩ := itm_i
  have hnews : ∀ j u, (vl IV l)[j]? = some u → W.cell? ((⟨g, k, none⟩ : Addr).add j) = some u := fun j u hj => by
    have hjl : j < l.length * 2 := by
      have := (List.getElem?_eq_some_iff.1 hj).1
      unfold vl at this
      rw [Array.length_toList, flatV_size TItem_size] at this
      exact this
    have hq : j / 2 < l.length := by omega
    have h2 := flatV_get TItem_size l (j / 2) hq (j % 2) (by omega)
    have hjj : j / 2 * 2 + j % 2 = j := by omega
    rw [hjj] at h2
    unfold vl at hj
    rw [Array.getElem?_toList, h2] at hj
    obtain ⟨c0, c1⟩ := HC.out (j / 2) l[j / 2] (List.getElem?_eq_getElem hq)
    rw [add_none]
    rcases Nat.mod_two_eq_zero_or_one j with h | h
    · rw [h] at hj
      rw [show k + j = k + j / 2 * 2 by omega, c0]
      exact hj
    · rw [h] at hj
      rw [show k + j = k + j / 2 * 2 + 1 by omega, c1]
      exact hj
  have hone : ∀ u ∈ vl IV l, u.oneCell' = true := fun u hu => by
    obtain ⟨j, hj⟩ := List.getElem?_of_mem hu
    have hjl : j < l.length * 2 := by
      have := (List.getElem?_eq_some_iff.1 hj).1
      unfold vl at this
      rw [Array.length_toList, flatV_size TItem_size] at this
      exact this
    have hq : j / 2 < l.length := by omega
    have h2 := flatV_get TItem_size l (j / 2) hq (j % 2) (by omega)
    rw [show j / 2 * 2 + j % 2 = j by omega] at h2
    unfold vl at hj
    rw [Array.getElem?_toList, h2] at hj
    have hm := List.mem_of_getElem? (l := (IV l[j / 2]).toList) (i := j % 2) (by rw [Array.getElem?_toList]; exact hj)
    exact itm_one _ _ hm
  have HNW := Lib.hid hnews; have HONE := Lib.hid hone
  have hlen : (vl IV l).length = n * 2 := by unfold vl; rw [Array.length_toList, flatV_size TItem_size, hn]
  have HLEN := Lib.hid hlen
  have h63 : n ≤ maxLen := by unfold maxLen; omega
  clear hnews hone hlen hn
  go_wp2_with (at_builtin; refine wpList_append_vec rfl _ _ 30 rfl 35 i0 _ 2 16 Try.underlying30 hi hz0 hz1 hz2 rfl (by omega) _ 0 [] rfl HT.out ⟨g, k, none⟩ n c (vl IV l) rfl HLEN.out ?c0 HONE.out ?c3 ?c4 ?_)
  case c0 =>
    intro j u hj
    have h1 := HNW.out j u hj
    exact (((Below.refl W.heap.size W).alloc (Nat.le_refl _) (.cells #[] 35)).cell (World.block_lt_of_cell? W _ h1)).trans h1
  case c3 => omega
  case c4 => omega
  intro v' w' T2
  have hsh : ∃ g1 c1, v' = .slice (some ⟨g1, 0, none⟩) n c1 := by
    rcases T2.vec.2 with ⟨rfl, h⟩ | ⟨g1, cap, cur, rfl, _⟩
    · omega
    · exact ⟨g1, cap, rfl⟩
  obtain ⟨g1, c1, rfl⟩ := hsh
  have HT2 := Lib.hid T2
  clear T2 HT HNW HONE HLEN hi hz0 hz1 hz2
  go_wp2
  go_ret
  exact ⟨g1, c1, rfl, HT2.out⟩
end
end Go.Proofs.Ytnjgjhjilolanaa
