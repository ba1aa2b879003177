/- Several texts in one. -/
import Derived.Test.YtahajjfbkdocaaaZ2
import Derived.Test.YtahajjfbkdocaaaZ7
import Derived.Test.YtahajjfbkdocaaaZ8
import Derived.Test.YtahajjfbkdocaaaZ5
import Derived.Deep.AppendLies
import Derived.Deep.RegionHeld3
import Derived.Test.YtahajjfbkdocaaaZ4
import Derived.Maps.OwnSet
import Derived.DeepKeys4
/- What comes in as Inst. Printed by types.py. -/
namespace Go.Proofs.Ytahajjfbkdocaaa
open Go.ChangeShapes Go.WideShapes Go.ChangeAt Go.RowKit Go.WideMaps Go.WideElems Go.Joins
open Go.ChangeMaps (open_string)
set_option linter.unusedVariables false
structure InstFits (x : Inst) : Prop where
  prom : BallotFits x.prom
  vote : BallotFits x.vote
  status : Fits x.status
  call : CallFits x.call
section
variable {H : Type} {enc : TypeId × Value → H} {w : World} {base : Nat} {sp : Nat → Bool} {held : Bool} {r : Reach} {b0 : Nat} {v : Value} {d : DataW H} {p : List MemPlace}
theorem trod_Inst {fuel : Nat} {cs : List Value} {x : DataW H × List MemPlace} (h : DataW.trod enc Try.prog w base sp held fuel 38 cs = some x) (hw : ∀ n ∈ x.1.weights Try.prog 38, n ≤ reachBytes) :
    ∃ X : Inst, cs = (NV X).toList ∧ InstFits X := by
  obtain ⟨xs, n, _, hx, hlen, hxl, hg⟩ := DataW.trod_struct Try.underlying38 h
  have hC : Try.prog.cellsOf 38 = 20 := by kernel_rfl
  rw [hC] at hlen
  match xs, hxl with
  | [y0, y1, y2, y3, y4], _ =>
    subst hx
    have c0 : Try.prog.cellsOf 30 = 2 := by kernel_rfl
    have g0 : DataW.trod enc Try.prog w base sp held n 30 ((cs.drop 0).take (Try.prog.cellsOf 30)) = some y0 := hg 0 _ rfl
    rw [c0] at g0
    obtain ⟨n0, e0, w0⟩ := trod_Ballot g0
    have c1 : Try.prog.cellsOf 30 = 2 := by kernel_rfl
    have g1 : DataW.trod enc Try.prog w base sp held n 30 ((cs.drop 2).take (Try.prog.cellsOf 30)) = some y1 := hg 1 _ rfl
    rw [c1] at g1
    obtain ⟨n1, e1, w1⟩ := trod_Ballot g1
    have c2 : Try.prog.cellsOf 3 = 1 := by kernel_rfl
    have g2 : DataW.trod enc Try.prog w base sp held n 3 ((cs.drop 4).take (Try.prog.cellsOf 3)) = some y2 := hg 2 _ rfl
    rw [c2] at g2
    obtain ⟨n2, e2, f2, w2⟩ := DataW.trod_int Try.underlying3 g2
    have c3 : Try.prog.cellsOf 36 = 14 := by kernel_rfl
    have g3 : DataW.trod enc Try.prog w base sp held n 36 ((cs.drop 5).take (Try.prog.cellsOf 36)) = some y3 := hg 3 _ rfl
    rw [c3] at g3
    obtain ⟨n3, e3, w3⟩ := trod_Call g3 (fun m hm => hw m (by simp [DataW.weights, Try.underlying38, DataW.weightsEach]; simp_all))
    have c4 : Try.prog.cellsOf 4 = 1 := by kernel_rfl
    have g4 : DataW.trod enc Try.prog w base sp held n 4 ((cs.drop 19).take (Try.prog.cellsOf 4)) = some y4 := hg 4 _ rfl
    rw [c4] at g4
    obtain ⟨n4, e4, f4⟩ := DataW.trod_bool Try.underlying4 g4
    have ee : cs = (cs.drop 0).take 2 ++ ((cs.drop 2).take 2 ++ ((cs.drop 4).take 1 ++ ((cs.drop 5).take 14 ++ ((cs.drop 19).take 1 ++ cs.drop 20)))) := by
      exact (List.drop_zero (l := cs)).symm.trans ((seg cs 0 2).trans (congrArg (_ ++ ·) ((seg cs 2 2).trans (congrArg (_ ++ ·) ((seg cs 4 1).trans (congrArg (_ ++ ·) ((seg cs 5 14).trans (congrArg (_ ++ ·) (seg cs 19 1)))))))))
    rw [e0, e1, e2, e3, e4, List.drop_eq_nil_of_le (by omega)] at ee
    exact ⟨⟨n0, n1, n2, n3, n4⟩, ee, ⟨w0, w1, fits_of w2, w3⟩⟩
theorem open_Inst (hv : Value.okWide Try.prog w r b0 38 v) (h : DataW.Trod enc Try.prog w base sp held 38 v d p) (hw : ∀ n ∈ d.weights Try.prog 38, n ≤ reachBytes) :
    ∃ X : Inst, v = .agg (NV X) ∧ InstFits X := by
  obtain ⟨cs, rfl, _⟩ := okWide_struct Try.underlying38 hv
  obtain ⟨fuel, hf⟩ := h
  obtain ⟨X, e, hX⟩ := trod_Inst hf hw
  refine ⟨X, ?_, hX⟩
  obtain ⟨l⟩ := cs
  simp only [Value.cells] at e
  have e' : l = (NV X).toList := e
  subst e'
  rfl
end
end Go.Proofs.Ytahajjfbkdocaaa
/- What comes in as Entry. Printed by types.py. -/
namespace Go.Proofs.Ytahajjfbkdocaaa
open Go.ChangeShapes Go.WideShapes Go.ChangeAt Go.RowKit Go.WideMaps Go.WideElems Go.Joins
open Go.ChangeMaps (open_string)
set_option linter.unusedVariables false
structure EntryFits (x : Entry) : Prop where
  item : ItemFits x.item
  inst : InstFits x.inst
section
variable {H : Type} {enc : TypeId × Value → H} {w : World} {base : Nat} {sp : Nat → Bool} {held : Bool} {r : Reach} {b0 : Nat} {v : Value} {d : DataW H} {p : List MemPlace}
theorem trod_Entry {fuel : Nat} {cs : List Value} {x : DataW H × List MemPlace} (h : DataW.trod enc Try.prog w base sp held fuel 40 cs = some x) (hw : ∀ n ∈ x.1.weights Try.prog 40, n ≤ reachBytes) :
    ∃ X : Entry, cs = (AV X).toList ∧ EntryFits X := by
  obtain ⟨xs, n, _, hx, hlen, hxl, hg⟩ := DataW.trod_struct Try.underlying40 h
  have hC : Try.prog.cellsOf 40 = 22 := by kernel_rfl
  rw [hC] at hlen
  match xs, hxl with
  | [y0, y1], _ =>
    subst hx
    have c0 : Try.prog.cellsOf 28 = 2 := by kernel_rfl
    have g0 : DataW.trod enc Try.prog w base sp held n 28 ((cs.drop 0).take (Try.prog.cellsOf 28)) = some y0 := hg 0 _ rfl
    rw [c0] at g0
    obtain ⟨n0, e0, w0⟩ := trod_Item g0
    have c1 : Try.prog.cellsOf 38 = 20 := by kernel_rfl
    have g1 : DataW.trod enc Try.prog w base sp held n 38 ((cs.drop 2).take (Try.prog.cellsOf 38)) = some y1 := hg 1 _ rfl
    rw [c1] at g1
    obtain ⟨n1, e1, w1⟩ := trod_Inst g1 (fun m hm => hw m (by simp [DataW.weights, Try.underlying40, DataW.weightsEach]; simp_all))
    have ee : cs = (cs.drop 0).take 2 ++ ((cs.drop 2).take 20 ++ cs.drop 22) := by
      exact (List.drop_zero (l := cs)).symm.trans ((seg cs 0 2).trans (congrArg (_ ++ ·) (seg cs 2 20)))
    rw [e0, e1, List.drop_eq_nil_of_le (by omega)] at ee
    exact ⟨⟨n0, n1⟩, ee, ⟨w0, w1⟩⟩
theorem open_Entry (hv : Value.okWide Try.prog w r b0 40 v) (h : DataW.Trod enc Try.prog w base sp held 40 v d p) (hw : ∀ n ∈ d.weights Try.prog 40, n ≤ reachBytes) :
    ∃ X : Entry, v = .agg (AV X) ∧ EntryFits X := by
  obtain ⟨cs, rfl, _⟩ := okWide_struct Try.underlying40 hv
  obtain ⟨fuel, hf⟩ := h
  obtain ⟨X, e, hX⟩ := trod_Entry hf hw
  refine ⟨X, ?_, hX⟩
  obtain ⟨l⟩ := cs
  simp only [Value.cells] at e
  have e' : l = (AV X).toList := e
  subst e'
  rfl
end
end Go.Proofs.Ytahajjfbkdocaaa
/- Slices of wide things of the call's own: append in a region that draws its order; their cells and loads. Nothing of the program stands here. -/
namespace Go.Proofs.Ytahajjfbkdocaaa
open Go.RowKit
set_option linter.unusedVariables false
/-- The cells of a row of things. -/
def vl {α : Type} (V : α → Array Value) (l : List α) : List Value := (flatV V l).toList
theorem vl_snoc {α : Type} (V : α → Array Value) (l : List α) (x : α) : vl V (l ++ [x]) = vl V l ++ (V x).toList := by
  unfold vl; rw [flatV_append, flatV_one, Array.toList_append]
theorem vl_nil {α : Type} (V : α → Array Value) : vl V [] = [] := rfl
section
variable {P : Program} {w W : World} {F : Nat → Prop} {R : List Res}
theorem step_append_vec {ops : Array Oper} {o : Oper} {a : Act} {K : Act → World → Prop} {Q : Exit → Act → World → Prop} {E : Prop} (hgd : o.guard = none) (s x : Operand) (t : TypeId)
    (ho : o.op = .call { callee := .builtin .append, args := #[s, x], argTypes := #[t, t] })
    (e : TypeId) (i : TypeInfo) (z : Value) (size bytes : Nat) (ht : P.underlying t = some (.slice e)) (hi : P.info? e = some i) (hz : i.zero = some z)
    (hsize : i.size = size) (hby : i.bytes = bytes) (hzs : z.cells.size = size) (hsz : 0 < size)
    (v : Value) (n : Nat) (xs : List Value) (hs : a.eval s = v) (T : Sts w F W (vecR e size v n xs :: R))
    (ad : Addr) (m c : Nat) (news : List Value) (hx : a.eval x = .slice (some ad) m c) (hl : news.length = m * size) (hnews : ∀ j u, news[j]? = some u → W.cell? (ad.add j) = some u) (h1 : ∀ u ∈ news, u.oneCell' = true)
    (hm : 0 < m) (h63 : n + m ≤ maxLen) (hbytes : (n + m) * bytes ≤ 140737488355328)
    (h : ∀ g cap w', Sts w F w' (vecR e size (.slice (some ⟨g, 0, none⟩) (n + m) cap) (n + m) (xs ++ news) :: R) → K (a.put o.dst (.slice (some ⟨g, 0, none⟩) (n + m) cap)) w') :
    if Region.wanted o (yielded ops a.tmps) = true then Oper.wp P o a W K Q else E := by
  refine step_append_lies W hgd s x t ho 0 e i z size bytes ht hi hz hsize hby hzs hsz v n xs hs T.vec ad m c news hx hl hnews h1 hm h63 hbytes (Nat.zero_le _) W.heap.size rfl ?_
  intro g cap w' hown hg hat hlt
  refine h g cap w' (T.grown hown hg ?_)
  rcases hat with h | h
  · left; rw [h]; rfl
  · right; rw [h]; rfl
/-- What lies in such a slice. -/
theorem vec_cell {α : Type} {V : α → Array Value} {size : Nat} (hV : ∀ x, (V x).size = size) {e : TypeId} {v : Value} {l : List α} (T : Sts w F W (vecR e size v l.length (vl V l) :: R)) (h0 : 0 < size) {j : Nat} (hj : j < l.length) :
    ∃ g c, v = .slice (some ⟨g, 0, none⟩) l.length c ∧ g < W.heap.size ∧ ∀ i u, (V l[j])[i]? = some u → W.cell? ⟨g, j * size + i, none⟩ = some u := by
  have hown := T.vec
  rcases hown.2 with ⟨_, h⟩ | ⟨g, cap, cur, rfl, _, hg, hn, hm, hc, ht⟩
  · omega
  · refine ⟨g, cap, rfl, (Array.getElem?_eq_some_iff.1 hg).1, fun i u hu => ?_⟩
    have hi : i < size := by have := (Array.getElem?_eq_some_iff.1 hu).1; rw [hV] at this; exact this
    have h2 := flatV_get hV l j hj i hi
    rw [hu] at h2
    have h3 : (vl V l)[j * size + i]? = some u := by unfold vl; rw [Array.getElem?_toList]; exact h2
    rw [← ht, List.getElem?_take] at h3
    split at h3
    · rw [cell_of_row W g _ cur e (0, 0) hg]; simpa using h3
    · cases h3
end
end Go.Proofs.Ytahajjfbkdocaaa
/- A map of the call's own as a thing: a function from keys. Nothing of the program stands here. -/
namespace Go.Proofs.Ytahajjfbkdocaaa
open Go.RowKit
open Go.Maps (Keyed)
set_option linter.unusedVariables false
/-- How an element reads: as itself. -/
def RV (v : Value) : Option (DataW Value × List MemPlace) := some (.held v, [])
/-- What is asked of keys. -/
structure KeyOk {α : Type} (P : Program) (k : TypeId) (kv : α → Value) (ok : α → Prop) : Prop where
  lit : ∀ x, ok x → ∃ l, keyOf P k (kv x) = some l
  inj : ∀ x y l, ok x → ok y → keyOf P k (kv x) = some l → keyOf P k (kv y) = some l → x = y
  keyed : Keyed P k
section
variable {α β : Type}
def mapIs (P : Program) (k : TypeId) (kv : α → Value) (ev : β → Value) (ok : α → Prop) (W : World) (b n : Nat) (f : α → Option β) : Prop :=
  ∃ D : DataW Value, W.ownsMap P k RV b n D ∧ ∀ x l, ok x → keyOf P k (kv x) = some l → match f x with
    | none => Maps.has D l = false
    | some y => Maps.has D l = true ∧ ∀ z, D.atKey l z = .held (ev y)
/-- A map in block b, of at most n entries. -/
def mapR (P : Program) (k : TypeId) (kv : α → Value) (ev : β → Value) (ok : α → Prop) (b n : Nat) (f : α → Option β) : Res where
  sat F W := (∀ j, F j ↔ j = b) ∧ mapIs P k kv ev ok W b n f
  stay := fun {F W W'} h ⟨hF, D, ⟨es, clock, hb, rest⟩, hD⟩ => ⟨hF, D, ⟨es, clock, by rw [h b ((hF b).2 rfl)]; exact hb, rest⟩, hD⟩
  lt := fun ⟨hF, D, hown, hD⟩ j hj => by rw [(hF j).1 hj]; exact hown.lt
variable {P : Program} {k t e : TypeId} {kv : α → Value} {ev : β → Value} {ok : α → Prop} {w W : World} {F : Nat → Prop} {R L : List Res} {b n : Nat} {f : α → Option β}
theorem mapIs.look (K : KeyOk P k kv ok) (ht : P.underlying t = some (.map k e)) {z : Value} (hz : ∀ w, (zeroValue e).run P w = .ok z w) (h : mapIs P k kv ev ok W b n f) (x : α) (hx : ok x) :
    (Instr.lookup t (.map (some b)) (kv x) true).run P W = .ok (.tuple #[(match f x with | none => z | some y => ev y), .bool (f x).isSome]) W := by
  obtain ⟨D, hown, hD⟩ := h
  obtain ⟨l, hl⟩ := K.lit x hx
  obtain ⟨v, ps, hrun, hv⟩ := hown.look_ok K.keyed ht (hz W) (zd := .held z) (zp := []) rfl hl
  have hd := hD x l hx hl
  unfold RV at hv
  simp only [Option.some.injEq, Prod.mk.injEq] at hv
  rw [hrun]
  cases hf : f x with
  | none =>
    rw [hf] at hd
    simp only at hd
    rw [hd]
    rw [Maps.atKey_of_not_has hd] at hv
    injection hv.1 with e1
    rw [e1]; rfl
  | some y =>
    rw [hf] at hd
    simp only at hd
    rw [hd.1]
    rw [hd.2] at hv
    injection hv.1 with e1
    rw [e1]; rfl
theorem mapIs.look1 (K : KeyOk P k kv ok) (ht : P.underlying t = some (.map k e)) {z : Value} (hz : ∀ w, (zeroValue e).run P w = .ok z w) (h : mapIs P k kv ev ok W b n f) (x : α) (hx : ok x) :
    (Instr.lookup t (.map (some b)) (kv x) false).run P W = .ok (match f x with | none => z | some y => ev y) W := by
  obtain ⟨D, hown, hD⟩ := h
  obtain ⟨l, hl⟩ := K.lit x hx
  obtain ⟨v, ps, hrun, hv⟩ := hown.lookup K.keyed ht (hz W) (zd := .held z) (zp := []) rfl hl
  have hd := hD x l hx hl
  unfold RV at hv
  simp only [Option.some.injEq, Prod.mk.injEq] at hv
  rw [hrun]
  cases hf : f x with
  | none =>
    rw [hf] at hd
    simp only at hd
    rw [Maps.atKey_of_not_has hd] at hv
    injection hv.1 with e1
    rw [e1]
  | some y =>
    rw [hf] at hd
    simp only at hd
    rw [hd.2] at hv
    injection hv.1 with e1
    rw [e1]
open Classical in
noncomputable def putF (f : α → Option β) (x : α) (y : β) : α → Option β := fun x' => if x' = x then some y else f x'
theorem putF_same (f : α → Option β) (x : α) (y : β) : putF f x y x = some y := by unfold putF; rw [if_pos rfl]
theorem putF_other (f : α → Option β) {x x' : α} (y : β) (h : x' ≠ x) : putF f x y x' = f x' := by unfold putF; rw [if_neg h]
theorem mapIs.put (K : KeyOk P k kv ok) (ht : P.underlying t = some (.map k e)) (h : mapIs P k kv ev ok W b n f) (hn : n < maxLen) (x : α) (hx : ok x) (y : β) :
    ∃ W', (Instr.mapUpdate t (.map (some b)) (kv x) (ev y)).run P W = .ok () W' ∧ mapIs P k kv ev ok W' b (n + 1) (putF f x y) ∧ W.grownBy W' (some b) := by
  obtain ⟨D, hown, hD⟩ := h
  obtain ⟨l, hl⟩ := K.lit x hx
  obtain ⟨W', hrun, hown', hg⟩ := hown.update K.keyed ht hn hl (d := .held (ev y)) (ps := []) (val := ev y) rfl
  have hk : WideAt.IsKeyLit l := K.keyed.key hl
  refine ⟨W', hrun, ⟨_, hown', fun x' l' hx' hl' => ?_⟩, hg⟩
  by_cases hxx : x' = x
  · subst hxx
    have : l' = l := Option.some.inj (hl'.symm.trans hl)
    subst this
    rw [putF_same]
    exact ⟨Maps.has_put_same hown.isMap hk _, fun z => Maps.atKey_put_same hown.isMap hk _ _⟩
  · have hne : l' ≠ l := fun e => hxx (K.inj x' x l hx' hx (e ▸ hl') hl)
    rw [putF_other f y hxx]
    have hd := hD x' l' hx' hl'
    cases hf : f x' with
    | none =>
      rw [hf] at hd
      simp only at hd ⊢
      rw [Maps.has_put_other hne]; exact hd
    | some y' =>
      rw [hf] at hd
      simp only at hd ⊢
      exact ⟨by rw [Maps.has_put_other hne]; exact hd.1, fun z => by rw [Maps.atKey_put_other hne]; exact hd.2 z⟩
theorem Sts.map (T : Sts w F W (mapR P k kv ev ok b n f :: R)) : mapIs P k kv ev ok W b n f := let ⟨_, ha⟩ := T.at0; ha.2
theorem Sts.mapNew (T : Sts w F W L) : Sts w F (W.alloc (.map #[] 0)) (mapR P k kv ev ok W.heap.size 0 (fun _ => none) :: L) := by
  obtain ⟨⟨G, hs, hG⟩, m⟩ := T.keep (.map #[] 0)
  obtain ⟨⟨G0, hs0, hg0⟩, m0⟩ := T
  have hlt := hs0.lt
  have hs1 : Sat (W.alloc (.map #[] 0)) L G0 := hs0.stay fun j hj => Below.heap_alloc _ _ _ (hlt j hj)
  refine ⟨⟨fun j => j = W.heap.size ∨ G0 j, ⟨fun j => j = W.heap.size, G0, ⟨fun _ => Iff.rfl, .map [], World.ownsMap_made W P k RV, fun x l _ _ => rfl⟩, hs1, ?_, fun _ => Iff.rfl⟩, ?_⟩, m⟩
  · rintro j rfl h; have := hlt _ h; omega
  · rintro j (rfl | h)
    · right; exact m0.size
    · exact hg0 j h
theorem Sts.mapPut (T : Sts w F W (mapR P k kv ev ok b n f :: R)) (K : KeyOk P k kv ok) (ht : P.underlying t = some (.map k e)) (hn : n < maxLen) (x : α) (hx : ok x) (y : β) :
    ∃ W', (Instr.mapUpdate t (.map (some b)) (kv x) (ev y)).run P W = .ok () W' ∧ Sts w F W' (mapR P k kv ev ok b (n + 1) (putF f x y) :: R) ∧ W'.heap.size = W.heap.size := by
  obtain ⟨D, hown, hD⟩ := T.map
  obtain ⟨l, hl⟩ := K.lit x hx
  obtain ⟨W1, hrun1, _, ht1⟩ := hown.store K.keyed ht hn hl (d := .held (ev y)) (ps := []) (val := ev y) rfl
  obtain ⟨W', hrun, hm, hg⟩ := T.map.put K ht hn x hx y
  have he : W1 = W' := by rw [hrun] at hrun1; injection hrun1 with _ e; exact e.symm
  refine ⟨W', hrun, T.turn fun A ha => ⟨fun j => j = b, ⟨fun _ => Iff.rfl, hm⟩, fun j hj => .inl ((ha.1 j).2 hj), hg.os, hg.tape, hg.output, hg.size, fun j hj hn => hg.block j hj fun e => hn ((ha.1 j).2 (by injection e))⟩, ?_⟩
  subst he
  obtain ⟨es, c, es', c', hb, rfl⟩ := ht1
  simp [Go.ChangeMaps.setBlock]
end
end Go.Proofs.Ytahajjfbkdocaaa
/- Items as keys of maps. -/
namespace Go.Proofs.Ytahajjfbkdocaaa
open Go.RowKit
open Go.Maps (Keyed)
set_option linter.unusedVariables false
def InI (x : Item) : Prop := (-9223372036854775808 ≤ x.rep ∧ x.rep ≤ 9223372036854775807) ∧ (-9223372036854775808 ≤ x.num ∧ x.num ≤ 9223372036854775807)
theorem wide_item : (match Try.prog.underlying 28 with | some (.array _ _) | some (.struct _) => true | _ => false) = true := by rw [Try.underlying28]
theorem row_item : (28 : TypeId) < Try.prog.types.size := of_decide_eq_true (by kernel_rfl)
theorem wf_int {n : Int} (h : -9223372036854775808 ≤ n ∧ n ≤ 9223372036854775807) : (Lit.int .i64 n).wf = true := by
  simp [Lit.wf, IntKind.min, IntKind.max, IntKind.signed, IntKind.bits]; omega
theorem keyLits_int {d : Nat} {n : Int} (h : -9223372036854775808 ≤ n ∧ n ≤ 9223372036854775807) : Try.prog.keyLits (d + 1) 3 [.int .i64 n] = some [.int .i64 n] := by
  simp [Program.keyLits, Try.underlying3, wf_int h]
theorem keyLits_item {x : Item} (h : InI x) (d : Nat) : Try.prog.keyLits (d + 2) 28 (IV x).toList = some [.int .i64 x.rep, .int .i64 x.num] := by
  have c1 : Try.prog.cellsOf 3 = 1 := by kernel_rfl
  have c2 : Try.prog.cellsOf 28 = 2 := by kernel_rfl
  have k1 := keyLits_int (d := d) h.1
  have k2 := keyLits_int (d := d) h.2
  unfold Program.keyLits
  simp only [Try.underlying28, c2]
  rw [if_pos ⟨rfl, by kernel_rfl⟩]
  simp only [List.mapM_cons, List.mapM_nil, c1, IV, List.drop_zero, List.drop_succ_cons, List.take_succ_cons, List.take_zero]
  simp [k1, k2]
theorem itemOk : KeyOk Try.prog 28 (fun x : Item => Value.agg (IV x)) InI where
  lit x hx := by
    refine ⟨.string (keyBytes [.int .i64 x.rep, .int .i64 x.num]), ?_⟩
    unfold keyOf
    rw [Try.underlying28]
    simp only
    rw [if_pos]
    · obtain ⟨d, hd⟩ : ∃ d, Try.prog.types.size + 1 = d + 2 := ⟨Try.prog.types.size - 1, by have : 0 < Try.prog.types.size := of_decide_eq_true (by kernel_rfl); omega⟩
      rw [hd]
      show Option.map _ (Try.prog.keyLits (d + 2) 28 (IV x).toList) = _
      rw [keyLits_item hx d]
      rfl
    · rw [Bool.and_eq_true]
      refine ⟨by kernel_rfl, ?_⟩
      have c2 : Try.prog.cellsOf 28 = 2 := by kernel_rfl
      simp [Value.formed, Try.underlying28, c2, IV]
  inj x y l hx hy h1 h2 := by
    have := keyOf_inj_deep (P := Try.prog) (m := 2) (tiled_of_laidOut laidOut 2 28 (by
      simp only [isVar, Bool.and_eq_true, decide_eq_true_eq]
      exact ⟨row_item, by rw [Try.underlying28]; rfl⟩) (by kernel_rfl)) wide_item h1 h2
    injection this with e
    obtain ⟨a, b⟩ := (TItem_ext x y).1 e
    cases x; cases y; simp_all
  keyed := Keyed.of_law (deep_law_laid laidOut (m := 2) (by omega) row_item (by kernel_rfl) wide_item)
end Go.Proofs.Ytahajjfbkdocaaa
