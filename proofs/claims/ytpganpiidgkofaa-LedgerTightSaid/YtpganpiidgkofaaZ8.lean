/- Several texts in one. -/
import Derived.Test.YtpganpiidgkofaaZ2
import Derived.Test.YtpganpiidgkofaaZ5
import Derived.SizedLaws
import Derived.Test.YtpganpiidgkofaaZ7
import Derived.Test.YtpganpiidgkofaaZ4
import Derived.Deep.AppendLies
import Derived.Deep.RegionHeld3
/- What comes in as a deed. -/
namespace Go.Proofs.Ytpganpiidgkofaa
open Go.ChangeShapes Go.WideShapes Go.ChangeAt Go.RowKit Go.WideMaps Go.WideElems Go.Joins
open Go.ChangeMaps (open_string)
set_option maxRecDepth 20000
section
variable {H : Type} {enc : TypeId × Value → H} {w : World} {base : Nat} {sp : Nat → Bool} {held : Bool} {r : Reach} {b0 : Nat} {v : Value} {d : DataW H} {p : List MemPlace}
structure DeedFits (d : Deed) : Prop where
  kind : Fits d.kind
  ver : Fits d.ver
  ses : Fits d.ses
  num : Fits d.num
  key : d.key.size ≤ 140737488351232
  val : d.val.size ≤ 140737488351232
theorem DeedFits.keyM {d : Deed} (h : DeedFits d) : d.key.size ≤ maxLen := by have := h.key; unfold maxLen; omega
theorem DeedFits.valM {d : Deed} (h : DeedFits d) : d.val.size ≤ maxLen := by have := h.val; unfold maxLen; omega
theorem trod_deed {fuel : Nat} {cs : List Value} {x : DataW H × List MemPlace} (h : DataW.trod enc Try.prog w base sp held fuel 33 cs = some x) (hw : ∀ n ∈ x.1.weights Try.prog 33, n ≤ reachBytes) :
    ∃ D : Deed, cs = (EV D).toList ∧ DeedFits D := by
  obtain ⟨xs, n, _, hx, hlen, hxl, hg⟩ := DataW.trod_struct Try.underlying33 h
  have hC : Try.prog.cellsOf 33 = 6 := by kernel_rfl
  have hC1 : Try.prog.cellsOf 3 = 1 := by kernel_rfl
  have hC2 : Try.prog.cellsOf 9 = 1 := by kernel_rfl
  rw [hC] at hlen
  match cs, hlen, xs, hxl with
  | [c0, c1, c2, c3, c4, c5], _, [y0, y1, y2, y3, y4, y5], _ =>
    have g0 : DataW.trod enc Try.prog w base sp held n 3 (([c0, c1, c2, c3, c4, c5].drop 0).take (Try.prog.cellsOf 3)) = some y0 := hg 0 _ rfl
    rw [hC1] at g0
    have g1 : DataW.trod enc Try.prog w base sp held n 9 (([c0, c1, c2, c3, c4, c5].drop 1).take (Try.prog.cellsOf 9)) = some y1 := hg 1 _ rfl
    rw [hC2] at g1
    have g2 : DataW.trod enc Try.prog w base sp held n 9 (([c0, c1, c2, c3, c4, c5].drop 2).take (Try.prog.cellsOf 9)) = some y2 := hg 2 _ rfl
    rw [hC2] at g2
    have g3 : DataW.trod enc Try.prog w base sp held n 3 (([c0, c1, c2, c3, c4, c5].drop 3).take (Try.prog.cellsOf 3)) = some y3 := hg 3 _ rfl
    rw [hC1] at g3
    have g4 : DataW.trod enc Try.prog w base sp held n 3 (([c0, c1, c2, c3, c4, c5].drop 4).take (Try.prog.cellsOf 3)) = some y4 := hg 4 _ rfl
    rw [hC1] at g4
    have g5 : DataW.trod enc Try.prog w base sp held n 3 (([c0, c1, c2, c3, c4, c5].drop 5).take (Try.prog.cellsOf 3)) = some y5 := hg 5 _ rfl
    rw [hC1] at g5
    obtain ⟨n0, e0, f0, w0⟩ := DataW.trod_int Try.underlying3 g0
    obtain ⟨n1, e1, f1, w1⟩ := DataW.trod_string Try.underlying9 g1
    obtain ⟨n2, e2, f2, w2⟩ := DataW.trod_string Try.underlying9 g2
    obtain ⟨n3, e3, f3, w3⟩ := DataW.trod_int Try.underlying3 g3
    obtain ⟨n4, e4, f4, w4⟩ := DataW.trod_int Try.underlying3 g4
    obtain ⟨n5, e5, f5, w5⟩ := DataW.trod_int Try.underlying3 g5
    simp at e0 e1 e2 e3 e4 e5
    subst e0 e1 e2 e3 e4 e5 f0 f1 f2 f3 f4 f5
    subst hx
    have hk := hw n1.data.toList.length (by simp [DataW.weights, Try.underlying33, DataW.weightsEach])
    have hv := hw n2.data.toList.length (by simp [DataW.weights, Try.underlying33, DataW.weightsEach])
    have hr : reachBytes = 140737488351232 := rfl
    rw [hr, Array.length_toList] at hk hv
    exact ⟨⟨n0, n1, n2, n3, n4, n5⟩, rfl, ⟨fits_of w0, fits_of w3, fits_of w4, fits_of w5, hk, hv⟩⟩
theorem open_deed (hv : Value.okWide Try.prog w r b0 33 v) (h : DataW.Trod enc Try.prog w base sp held 33 v d p) (hw : ∀ n ∈ d.weights Try.prog 33, n ≤ reachBytes) :
    ∃ D : Deed, v = .agg (EV D) ∧ DeedFits D := by
  obtain ⟨cs, rfl, _⟩ := okWide_struct Try.underlying33 hv
  obtain ⟨fuel, hf⟩ := h
  obtain ⟨D, e, hD⟩ := trod_deed hf hw
  refine ⟨D, ?_, hD⟩
  obtain ⟨l⟩ := cs
  simp only [Value.cells] at e
  have e' : l = (EV D).toList := e
  subst e'
  rfl
end
end Go.Proofs.Ytpganpiidgkofaa
/- What comes in as a row of numbers. -/
namespace Go.Proofs.Ytpganpiidgkofaa
open Go.ChangeShapes Go.WideShapes Go.ChangeAt Go.RowKit Go.WideMaps Go.WideElems Go.Joins
set_option linter.unusedVariables false
set_option maxRecDepth 20000
section
variable {H : Type} {enc : TypeId × Value → H} {w : World} {base : Nat} {sp : Nat → Bool} {held : Bool} {r : Reach} {b0 : Nat} {v : Value} {d : DataW H} {p : List MemPlace}
theorem trod_Deps {fuel : Nat} {cs : List Value} {x : DataW H × List MemPlace} (hf : DataW.trod enc Try.prog w base sp held fuel 35 cs = some x) :
    ∃ X : Nat → Int, cs = (DV X).toList ∧ ∀ i, i < 7 → Fits (X i) := by
  have hC : Try.prog.cellsOf 35 = 7 := by kernel_rfl
  have hC1 : Try.prog.cellsOf 3 = 1 := by kernel_rfl
  obtain ⟨xs, m, _, _, hlen, hxl, hg⟩ := DataW.trod_array Try.underlying35 hf
  rw [hC] at hlen
  match cs, hlen with
  | [c0, c1, c2, c3, c4, c5, c6], _ =>
    have key : ∀ i, i < 7 → ∃ n, ([c0, c1, c2, c3, c4, c5, c6].drop i).take 1 = [.int .i64 n] ∧ (Lit.int .i64 n).wf = true := fun i hi => by
      have h1 := hg i hi
      rw [hC1, Nat.mul_one] at h1
      have : ∃ y, xs[i]? = some y := ⟨xs[i]'(by omega), List.getElem?_eq_getElem (by omega)⟩
      obtain ⟨y, hy⟩ := this
      obtain ⟨n, e1, _, e2⟩ := DataW.trod_int Try.underlying3 (h1.trans hy)
      exact ⟨n, by simpa using e1, e2⟩
    obtain ⟨n0, e0, w0⟩ := key 0 (by omega)
    obtain ⟨n1, e1, w1⟩ := key 1 (by omega)
    obtain ⟨n2, e2, w2⟩ := key 2 (by omega)
    obtain ⟨n3, e3, w3⟩ := key 3 (by omega)
    obtain ⟨n4, e4, w4⟩ := key 4 (by omega)
    obtain ⟨n5, e5, w5⟩ := key 5 (by omega)
    obtain ⟨n6, e6, w6⟩ := key 6 (by omega)
    simp at e0 e1 e2 e3 e4 e5 e6
    subst e0 e1 e2 e3 e4 e5 e6
    refine ⟨fun i => [n0, n1, n2, n3, n4, n5, n6].getD i 0, rfl, fun i hi => ?_⟩
    match i, hi with
    | 0, _ => exact fits_of w0
    | 1, _ => exact fits_of w1
    | 2, _ => exact fits_of w2
    | 3, _ => exact fits_of w3
    | 4, _ => exact fits_of w4
    | 5, _ => exact fits_of w5
    | 6, _ => exact fits_of w6
end
end Go.Proofs.Ytpganpiidgkofaa
/- What comes in as Call. Printed by types.py. -/
namespace Go.Proofs.Ytpganpiidgkofaa
open Go.ChangeShapes Go.WideShapes Go.ChangeAt Go.RowKit Go.WideMaps Go.WideElems Go.Joins
open Go.ChangeMaps (open_string)
set_option linter.unusedVariables false
set_option maxRecDepth 20000
structure CallFits (x : Call) : Prop where
  deed : DeedFits x.deed
  deps : ∀ i, i < 7 → Fits (x.deps i)
  seq : Fits x.seq
section
variable {H : Type} {enc : TypeId × Value → H} {w : World} {base : Nat} {sp : Nat → Bool} {held : Bool} {r : Reach} {b0 : Nat} {v : Value} {d : DataW H} {p : List MemPlace}
theorem trod_Call {fuel : Nat} {cs : List Value} {x : DataW H × List MemPlace} (h : DataW.trod enc Try.prog w base sp held fuel 37 cs = some x) (hw : ∀ n ∈ x.1.weights Try.prog 37, n ≤ reachBytes) :
    ∃ X : Call, cs = (CV X).toList ∧ CallFits X := by
  obtain ⟨xs, n, _, hx, hlen, hxl, hg⟩ := DataW.trod_struct Try.underlying37 h
  have hC : Try.prog.cellsOf 37 = 14 := by kernel_rfl
  rw [hC] at hlen
  match xs, hxl with
  | [y0, y1, y2], _ =>
    subst hx
    have c0 : Try.prog.cellsOf 33 = 6 := by kernel_rfl
    have g0 : DataW.trod enc Try.prog w base sp held n 33 ((cs.drop 0).take (Try.prog.cellsOf 33)) = some y0 := hg 0 _ rfl
    rw [c0] at g0
    obtain ⟨n0, e0, w0⟩ := trod_deed g0 (fun m hm => hw m (by simp [DataW.weights, Try.underlying37, DataW.weightsEach]; simp_all))
    have c1 : Try.prog.cellsOf 35 = 7 := by kernel_rfl
    have g1 : DataW.trod enc Try.prog w base sp held n 35 ((cs.drop 6).take (Try.prog.cellsOf 35)) = some y1 := hg 1 _ rfl
    rw [c1] at g1
    obtain ⟨n1, e1, w1⟩ := trod_Deps g1
    have c2 : Try.prog.cellsOf 3 = 1 := by kernel_rfl
    have g2 : DataW.trod enc Try.prog w base sp held n 3 ((cs.drop 13).take (Try.prog.cellsOf 3)) = some y2 := hg 2 _ rfl
    rw [c2] at g2
    obtain ⟨n2, e2, f2, w2⟩ := DataW.trod_int Try.underlying3 g2
    have ee : cs = (cs.drop 0).take 6 ++ ((cs.drop 6).take 7 ++ ((cs.drop 13).take 1 ++ cs.drop 14)) := by
      exact (List.drop_zero (l := cs)).symm.trans ((seg cs 0 6).trans (congrArg (_ ++ ·) ((seg cs 6 7).trans (congrArg (_ ++ ·) (seg cs 13 1)))))
    rw [e0, e1, e2, List.drop_eq_nil_of_le (by omega)] at ee
    exact ⟨⟨n0, n1, n2⟩, ee, ⟨w0, w1, fits_of w2⟩⟩
theorem open_Call (hv : Value.okWide Try.prog w r b0 37 v) (h : DataW.Trod enc Try.prog w base sp held 37 v d p) (hw : ∀ n ∈ d.weights Try.prog 37, n ≤ reachBytes) :
    ∃ X : Call, v = .agg (CV X) ∧ CallFits X := by
  obtain ⟨cs, rfl, _⟩ := okWide_struct Try.underlying37 hv
  obtain ⟨fuel, hf⟩ := h
  obtain ⟨X, e, hX⟩ := trod_Call hf hw
  refine ⟨X, ?_, hX⟩
  obtain ⟨l⟩ := cs
  simp only [Value.cells] at e
  have e' : l = (CV X).toList := e
  subst e'
  rfl
end
end Go.Proofs.Ytpganpiidgkofaa
/- What comes in as Inst. Printed by types.py. -/
namespace Go.Proofs.Ytpganpiidgkofaa
open Go.ChangeShapes Go.WideShapes Go.ChangeAt Go.RowKit Go.WideMaps Go.WideElems Go.Joins
open Go.ChangeMaps (open_string)
set_option linter.unusedVariables false
set_option maxRecDepth 20000
structure InstFits (x : Inst) : Prop where
  prom : BallotFits x.prom
  vote : BallotFits x.vote
  status : Fits x.status
  call : CallFits x.call
section
variable {H : Type} {enc : TypeId × Value → H} {w : World} {base : Nat} {sp : Nat → Bool} {held : Bool} {r : Reach} {b0 : Nat} {v : Value} {d : DataW H} {p : List MemPlace}
theorem trod_Inst {fuel : Nat} {cs : List Value} {x : DataW H × List MemPlace} (h : DataW.trod enc Try.prog w base sp held fuel 39 cs = some x) (hw : ∀ n ∈ x.1.weights Try.prog 39, n ≤ reachBytes) :
    ∃ X : Inst, cs = (NV X).toList ∧ InstFits X := by
  obtain ⟨xs, n, _, hx, hlen, hxl, hg⟩ := DataW.trod_struct Try.underlying39 h
  have hC : Try.prog.cellsOf 39 = 20 := by kernel_rfl
  rw [hC] at hlen
  match xs, hxl with
  | [y0, y1, y2, y3, y4], _ =>
    subst hx
    have c0 : Try.prog.cellsOf 31 = 2 := by kernel_rfl
    have g0 : DataW.trod enc Try.prog w base sp held n 31 ((cs.drop 0).take (Try.prog.cellsOf 31)) = some y0 := hg 0 _ rfl
    rw [c0] at g0
    obtain ⟨n0, e0, w0⟩ := trod_Ballot g0
    have c1 : Try.prog.cellsOf 31 = 2 := by kernel_rfl
    have g1 : DataW.trod enc Try.prog w base sp held n 31 ((cs.drop 2).take (Try.prog.cellsOf 31)) = some y1 := hg 1 _ rfl
    rw [c1] at g1
    obtain ⟨n1, e1, w1⟩ := trod_Ballot g1
    have c2 : Try.prog.cellsOf 3 = 1 := by kernel_rfl
    have g2 : DataW.trod enc Try.prog w base sp held n 3 ((cs.drop 4).take (Try.prog.cellsOf 3)) = some y2 := hg 2 _ rfl
    rw [c2] at g2
    obtain ⟨n2, e2, f2, w2⟩ := DataW.trod_int Try.underlying3 g2
    have c3 : Try.prog.cellsOf 37 = 14 := by kernel_rfl
    have g3 : DataW.trod enc Try.prog w base sp held n 37 ((cs.drop 5).take (Try.prog.cellsOf 37)) = some y3 := hg 3 _ rfl
    rw [c3] at g3
    obtain ⟨n3, e3, w3⟩ := trod_Call g3 (fun m hm => hw m (by simp [DataW.weights, Try.underlying39, DataW.weightsEach]; simp_all))
    have c4 : Try.prog.cellsOf 4 = 1 := by kernel_rfl
    have g4 : DataW.trod enc Try.prog w base sp held n 4 ((cs.drop 19).take (Try.prog.cellsOf 4)) = some y4 := hg 4 _ rfl
    rw [c4] at g4
    obtain ⟨n4, e4, f4⟩ := DataW.trod_bool Try.underlying4 g4
    have ee : cs = (cs.drop 0).take 2 ++ ((cs.drop 2).take 2 ++ ((cs.drop 4).take 1 ++ ((cs.drop 5).take 14 ++ ((cs.drop 19).take 1 ++ cs.drop 20)))) := by
      exact (List.drop_zero (l := cs)).symm.trans ((seg cs 0 2).trans (congrArg (_ ++ ·) ((seg cs 2 2).trans (congrArg (_ ++ ·) ((seg cs 4 1).trans (congrArg (_ ++ ·) ((seg cs 5 14).trans (congrArg (_ ++ ·) (seg cs 19 1)))))))))
    rw [e0, e1, e2, e3, e4, List.drop_eq_nil_of_le (by omega)] at ee
    exact ⟨⟨n0, n1, n2, n3, n4⟩, ee, ⟨w0, w1, fits_of w2, w3⟩⟩
theorem open_Inst (hv : Value.okWide Try.prog w r b0 39 v) (h : DataW.Trod enc Try.prog w base sp held 39 v d p) (hw : ∀ n ∈ d.weights Try.prog 39, n ≤ reachBytes) :
    ∃ X : Inst, v = .agg (NV X) ∧ InstFits X := by
  obtain ⟨cs, rfl, _⟩ := okWide_struct Try.underlying39 hv
  obtain ⟨fuel, hf⟩ := h
  obtain ⟨X, e, hX⟩ := trod_Inst hf hw
  refine ⟨X, ?_, hX⟩
  obtain ⟨l⟩ := cs
  simp only [Value.cells] at e
  have e' : l = (NV X).toList := e
  subst e'
  rfl
end
end Go.Proofs.Ytpganpiidgkofaa
/- Things in memory, many in one; one of a row of them taken out. Nothing of the program stands here. -/
namespace Go.Proofs.Ytpganpiidgkofaa
open Go.RowKit Go.Lib
set_option linter.unusedVariables false
/-- Many things as one. -/
def packR (L : List Res) : Res where
  sat F W := Sat W L F
  stay h hs := hs.stay h
  lt hs := hs.lt
section
variable {w W : World} {F : Nat → Prop} {L R : List Res}
theorem Sts.unpack (h : Sts w F W (packR L :: R)) : Sts w F W (L ++ R) := by
  obtain ⟨⟨G, ⟨A, B, ha, hb, hd, hf⟩, hg⟩, m⟩ := h
  exact ⟨⟨G, (Sat.append (L1 := L) ha hb hd).congr fun k => (hf k).symm, hg⟩, m⟩
theorem Sts.pack (h : Sts w F W (L ++ R)) : Sts w F W (packR L :: R) := by
  obtain ⟨⟨G, hs, hg⟩, m⟩ := h
  obtain ⟨A, B, ha, hb, hd, hf⟩ := Sat.parts (L1 := L) hs
  exact ⟨⟨G, ⟨A, B, ha, hb, hd, hf⟩, hg⟩, m⟩
end
/-- One of a row of things is taken out. -/
theorem row_take (f : Nat → Res) {n k : Nat} (hk : k < n) : ((List.range n).map f).Perm (f k :: ((List.range n).erase k).map f) :=
  (List.perm_cons_erase (List.mem_range.2 hk)).map f
/-- The others stay. -/
theorem row_others {f g : Nat → Res} {n k : Nat} (h : ∀ i, i ≠ k → f i = g i) : ((List.range n).erase k).map f = ((List.range n).erase k).map g :=
  List.map_congr_left fun i hi => h i ((List.nodup_range.mem_erase_iff.1 hi).1)
/-- A function, turned at one place. -/
def updF {α : Type} (f : Nat → α) (k : Nat) (x : α) : Nat → α := fun i => if i = k then x else f i
theorem updF_same {α : Type} (f : Nat → α) (k : Nat) (x : α) : updF f k x k = x := by unfold updF; rw [if_pos rfl]
theorem updF_other {α : Type} (f : Nat → α) {k i : Nat} (x : α) (h : i ≠ k) : updF f k x i = f i := by unfold updF; rw [if_neg h]
end Go.Proofs.Ytpganpiidgkofaa
/- Slices of wide things of the call's own: append in a region that draws its order; their cells and loads. Nothing of the program stands here. -/
namespace Go.Proofs.Ytpganpiidgkofaa
open Go.RowKit
set_option linter.unusedVariables false
/-- The cells of a row of things. -/
def vl {α : Type} (V : α → Array Value) (l : List α) : List Value := (flatV V l).toList
theorem vl_snoc {α : Type} (V : α → Array Value) (l : List α) (x : α) : vl V (l ++ [x]) = vl V l ++ (V x).toList := by
  unfold vl; rw [flatV_append, flatV_one, Array.toList_append]
theorem vl_nil {α : Type} (V : α → Array Value) : vl V [] = [] := rfl
section
variable {P : Program} {w W : World} {F : Nat → Prop} {R : List Res}
theorem step_append_vec {ops : Array Oper} {o : Oper} {a : Act} {K : Act → World → Prop} {Q : Exit → Act → World → Prop} {E : Prop} (hgd : o.guard = none) (s x : Operand) (t : TypeId)
    (ho : o.op = .call { callee := .builtin .append, args := #[s, x], argTypes := #[t, t] })
    (e : TypeId) (i : TypeInfo) (z : Value) (size bytes : Nat) (ht : P.underlying t = some (.slice e)) (hi : P.info? e = some i) (hz : i.zero = some z)
    (hsize : i.size = size) (hby : i.bytes = bytes) (hzs : z.cells.size = size) (hsz : 0 < size)
    (v : Value) (n : Nat) (xs : List Value) (hs : a.eval s = v) (T : Sts w F W (vecR e size v n xs :: R))
    (ad : Addr) (m c : Nat) (news : List Value) (hx : a.eval x = .slice (some ad) m c) (hl : news.length = m * size) (hnews : ∀ j u, news[j]? = some u → W.cell? (ad.add j) = some u) (h1 : ∀ u ∈ news, u.oneCell' = true)
    (hm : 0 < m) (h63 : n + m ≤ maxLen) (hbytes : (n + m) * bytes ≤ 140737488355328)
    (h : ∀ g cap w', Sts w F w' (vecR e size (.slice (some ⟨g, 0, none⟩) (n + m) cap) (n + m) (xs ++ news) :: R) → K (a.put o.dst (.slice (some ⟨g, 0, none⟩) (n + m) cap)) w') :
    if Region.wanted o (yielded ops a.tmps) = true then Oper.wp P o a W K Q else E := by
  refine step_append_lies W hgd s x t ho 0 e i z size bytes ht hi hz hsize hby hzs hsz v n xs hs T.vec ad m c news hx hl hnews h1 hm h63 hbytes (Nat.zero_le _) W.heap.size rfl ?_
  intro g cap w' hown hg hat hlt
  refine h g cap w' (T.grown hown hg ?_)
  rcases hat with h | h
  · left; rw [h]; rfl
  · right; rw [h]; rfl
/-- What lies in such a slice. -/
theorem vec_cell {α : Type} {V : α → Array Value} {size : Nat} (hV : ∀ x, (V x).size = size) {e : TypeId} {v : Value} {l : List α} (T : Sts w F W (vecR e size v l.length (vl V l) :: R)) (h0 : 0 < size) {j : Nat} (hj : j < l.length) :
    ∃ g c, v = .slice (some ⟨g, 0, none⟩) l.length c ∧ g < W.heap.size ∧ ∀ i u, (V l[j])[i]? = some u → W.cell? ⟨g, j * size + i, none⟩ = some u := by
  have hown := T.vec
  rcases hown.2 with ⟨_, h⟩ | ⟨g, cap, cur, rfl, _, hg, hn, hm, hc, ht⟩
  · omega
  · refine ⟨g, cap, rfl, (Array.getElem?_eq_some_iff.1 hg).1, fun i u hu => ?_⟩
    have hi : i < size := by have := (Array.getElem?_eq_some_iff.1 hu).1; rw [hV] at this; exact this
    have h2 := flatV_get hV l j hj i hi
    rw [hu] at h2
    have h3 : (vl V l)[j * size + i]? = some u := by unfold vl; rw [Array.getElem?_toList]; exact h2
    rw [← ht, List.getElem?_take] at h3
    split at h3
    · rw [cell_of_row W g _ cur e (0, 0) hg]; simpa using h3
    · cases h3
end
end Go.Proofs.Ytpganpiidgkofaa
/- Item as a value, as cells: its parts, equality, loads, stores, building. Printed by types.py. -/
namespace Go.Proofs.Ytpganpiidgkofaa
open Go.RowKit
set_option linter.unusedVariables false
structure Item where
  rep : Int
  num : Int
def IV (x : Item) : Array Value := #[.int .i64 x.rep, .int .i64 x.num]
def noItem : Item := ⟨0, 0⟩
section
variable (x y : Item)
theorem TItem_size : (IV x).size = 2 := rfl
theorem TItem_one : allOne (IV x) = true := by simp [allOne, IV, Value.oneCell']
theorem TItem_piece : piece (IV x) 0 2 = IV x := piece_all _ _ rfl
theorem TItem_c0 : (IV x)[0]? = some (.int .i64 x.rep) := rfl
theorem TItem_c1 : (IV x)[1]? = some (.int .i64 x.num) := rfl
theorem TItem_set_rep (v : Int) : (IV x).setIfInBounds 0 (.int .i64 v) = IV { x with rep := v } := rfl
theorem TItem_set_num (v : Int) : (IV x).setIfInBounds 1 (.int .i64 v) = IV { x with num := v } := rfl
theorem TItem_cat : IV x = #[.int .i64 x.rep] ++ #[.int .i64 x.num] := by kernel_rfl
theorem TItem_ext : IV x = IV y ↔ x.rep = y.rep ∧ x.num = y.num := by
  constructor
  · intro h
    refine ⟨?_, ?_⟩
    · have := congrArg (·[0]?) h; simpa [TItem_c0, TItem_size] using this
    · have := congrArg (·[1]?) h; simpa [TItem_c1, TItem_size] using this
  · rintro ⟨h0, h1⟩
    rw [TItem_cat x, TItem_cat y, h0, h1]
end
theorem TItem_und : Try.prog.underlying 42 = some (.struct (Try.prog.fieldsOf 42)) := by kernel_rfl
theorem TItem_eq (d : Nat) (x y : Item) (w : World) : (Op.equalIn (d + 2) 42 (.agg (IV x)) (.agg (IV y))).run Try.prog w = .ok (eqA (IV x) (IV y)) w := by
  refine eq_struct (d := d + 1) (L := [(3, 0, x.rep == y.rep), (3, 1, x.num == y.num)]) TItem_und (by kernel_rfl) (by kernel_rfl) ?_ ?_ w
  · simp only [List.forall_mem_cons]
    exact ⟨⟨_, _, part_cell Try.underlying3 rfl (by kernel_rfl) (TItem_c0 x), part_cell Try.underlying3 rfl (by kernel_rfl) (TItem_c0 y), fun w => run_equalIn_int w (d + 0) _ _ _ _ _ Try.underlying3⟩, ⟨_, _, part_cell Try.underlying3 rfl (by kernel_rfl) (TItem_c1 x), part_cell Try.underlying3 rfl (by kernel_rfl) (TItem_c1 y), fun w => run_equalIn_int w (d + 0) _ _ _ _ _ Try.underlying3⟩, by simp⟩
  · refine eqA_of ?_
    rw [TItem_ext]
    simp
theorem TItem_eql (x y : Item) (w : World) : (binOp .eql 42 (.agg (IV x)) (.agg (IV y))).run Try.prog w = .ok (.bool (eqA (IV x) (IV y))) w := eql_of (TItem_eq 9998 x y) w
theorem TItem_neq (x y : Item) (w : World) : (binOp .neq 42 (.agg (IV x)) (.agg (IV y))).run Try.prog w = .ok (.bool (!eqA (IV x) (IV y))) w := neq_of (TItem_eq 9998 x y) w
theorem TItem_ld0 (v : Value) : Instr.loadAt 42 v = loadSem 42 v := rfl
theorem TItem_st0 (v u : Value) : Instr.storeAt 42 v u = storeSem 42 v u := rfl
theorem TItem_fd0 (x : Value) (i : Nat) : Instr.field 42 x i = fieldSem 42 x i := rfl
theorem TItem_bd0 (p : Array (Nat × Value)) : Instr.build 42 p = buildS 42 p := rfl
theorem TItem_ld (w : World) (v : Value) : (loadSem 42 v).run Try.prog w = loadVal Try.prog 42 2 w v := load_val TItem_und rfl (by kernel_rfl) w v
theorem TItem_st (w : World) (v u : Value) : (storeSem 42 v u).run Try.prog w = storeVal Try.prog 42 2 w v u := store_val (by kernel_rfl) w v u
theorem TItem_f_rep (x : Item) (w : World) : (fieldSem 42 (.agg (IV x)) 0).run Try.prog w = .ok (.int .i64 x.rep) w := field_of TItem_und (by kernel_rfl) (part_cell Try.underlying3 rfl (by kernel_rfl) (TItem_c0 x)) w
theorem TItem_f_num (x : Item) (w : World) : (fieldSem 42 (.agg (IV x)) 1).run Try.prog w = .ok (.int .i64 x.num) w := field_of TItem_und (by kernel_rfl) (part_cell Try.underlying3 rfl (by kernel_rfl) (TItem_c1 x)) w
def TItem_pl : Nat → Option (Nat × Nat) := fun i => (#[(0, 1), (1, 1)] : Array (Nat × Nat))[i]?
theorem TItem_bd (w : World) (p : Array (Nat × Value)) : (buildS 42 p).run Try.prog w = buildOf Try.prog 42 TItem_pl (IV noItem) p w := build_struct TItem_und (by kernel_rfl) (fun w => by kernel_rfl) w p
theorem TItem_fl (X : Array Value) : fillS TItem_pl X [] = some X := rfl
theorem TItem_fl_rep (x : Item) (v : Int) (r : List (Nat × Value)) : fillS TItem_pl (IV x) ((0, .int .i64 v) :: r) = fillS TItem_pl (IV { x with rep := v }) r := rfl
theorem TItem_fl_num (x : Item) (v : Int) (r : List (Nat × Value)) : fillS TItem_pl (IV x) ((1, .int .i64 v) :: r) = fillS TItem_pl (IV { x with num := v }) r := rfl
theorem TItem_ret {fn : Func} {R : Ending → World → Prop} {a : Act} {w : World} {p : Tmp} (x : Item) {g : Nat} (hr : fn.results = #[.cell p 42]) (hp : a.tmps.getD p undef = .pointer (some ⟨g, 0, none⟩)) (hdf : a.defers = []) (hrow : row? w g = some (IV x)) (hR : R (.returned (.agg (IV x))) w) : bodyPost Try.prog fn R .ret a w :=
  ret_row (IV x) TItem_und rfl (by kernel_rfl) hr hp hdf (TItem_size x) hrow hR
end Go.Proofs.Ytpganpiidgkofaa
