/- More words for walks. -/
import Derived.Test.YtahajjfbkdocaaaKit
namespace Go.Proofs.Ytahajjfbkdocaaa
open Go.RowKit
theorem Ans.call {P : Program} {f : FuncId} {args : Array Value} {v : Value} (h : Ans P f args v) (w : World) : Calls P f args w fun e w' => e = .returned v ∧ Below w.heap.size w w' := h w
/-- Rows that a world bears. -/
def Knows (W : World) : List (Nat × Array Value) → Prop
  | [] => True
  | (g, X) :: L => (row? W g = some X ∧ g < W.heap.size) ∧ Knows W L
/-- W has come of w: what was there is as it was; these rows are known. -/
def St (w W : World) (L : List (Nat × Array Value)) : Prop := Below w.heap.size w W ∧ Knows W L
section
variable {w W W' : World} {L : List (Nat × Array Value)}
theorem Knows.of_rows (hr : ∀ g X, row? W g = some X → row? W' g = some X) : ∀ {L : List (Nat × Array Value)}, Knows W L → Knows W' L
  | [], _ => trivial
  | (_, _) :: _, h => ⟨⟨hr _ _ h.1.1, row_lt (hr _ _ h.1.1)⟩, Knows.of_rows hr h.2⟩
theorem St.start (w : World) : St w w [] := ⟨Below.refl _ _, trivial⟩
theorem St.below (h : St w W L) : Below w.heap.size w W := h.1
theorem St.call (h : St w W L) (hb : Below W.heap.size W W') : St w W' L :=
  ⟨h.1.trans (hb.mono h.1.size), h.2.of_rows fun _ _ hr => (row_below hb (row_lt hr)).trans hr⟩
theorem St.new (h : St w W L) (c : Array Value) (t : TypeId) : St w (W.alloc (.cells c t)) ((W.heap.size, c) :: L) :=
  ⟨h.1.alloc h.1.size _, ⟨by rw [row_alloc, if_pos rfl], by simp⟩, h.2.of_rows fun g _ hr => (row_alloc_ne W g _ (Nat.ne_of_lt (row_lt hr))).trans hr⟩
theorem St.keep (h : St w W L) (o : Obj) : St w (W.alloc o) L :=
  ⟨h.1.alloc h.1.size _, h.2.of_rows fun g _ hr => (row_alloc_ne W g _ (Nat.ne_of_lt (row_lt hr))).trans hr⟩
theorem St.drew (h : St w W L) : St w W.drew L := ⟨h.1.drew, Knows.of_rows (W := W) (W' := W.drew) (fun _ _ hr => hr) h.2⟩
theorem St.drewN (h : St w W L) (n : Nat) : St w (W.drewN n) L := ⟨below_drewN h.1 n, Knows.of_rows (W := W) (W' := W.drewN n) (fun _ _ hr => hr) h.2⟩
theorem St.ext (h : St w W L) (x : World) : St w (Go.Proofs.Ytahajjfbkdocaaa.ext W x) L := h.call (ext_below W x)
end
theorem wp_region_st {P : Program} {id : Nat} {Q : Exit → Act → World → Prop} {a : Act} {W : World} {l : List Oper} (hm : P.follows .mixedOrders = true) (hB : Region.lexB .any l.toArray = true)
    (h : wpQuiet P l.toArray (fun w' => ∃ n, w' = ext W n) (fun a' => ∀ w', (∃ n, w' = ext W n) → Q .normal a' w') l a) : (Code.region id l.toArray true).wp P Q a W := wp_region_ext hm hB h
/-- What is known of a world, in the place of the world. -/
theorem forget {P : Program} {c : Code} {Q : Exit → Act → World → Prop} {a : Act} {W : World} (F : World → Prop) (hF : F W) (h : ∀ w1, F w1 → Code.wp P c Q a w1) : Code.wp P c Q a W := h W hF
end Go.Proofs.Ytahajjfbkdocaaa
