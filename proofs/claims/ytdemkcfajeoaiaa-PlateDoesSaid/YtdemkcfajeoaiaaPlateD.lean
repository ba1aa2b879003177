/- Layer 8: the plate as its callers see it: a block of the call's own. -/
import Derived.Test.YtdemkcfajeoaiaaPlateC
namespace Go.Proofs.Ytdemkcfajeoaiaa
open Go.RowKit
set_option linter.unusedVariables false
theorem PL.same {W W' : World} {g : Nat} {b : Option Nat} {data : List UInt8} {safe : Nat} (h : PL W g b data safe) (hg : W'.heap[g]? = W.heap[g]?) (hb : ∀ k, b = some k → W'.heap[k]? = W.heap[k]?) : PL W' g b data safe := by
  obtain ⟨v, hv, hr, ho, hs⟩ := h
  refine ⟨v, hv, ?_, ho.same fun k hk => hb k (hv.symm.trans hk), hs⟩
  unfold row? at *; rw [hg]; exact hr
theorem PL.alloc {W : World} {g : Nat} {b : Option Nat} {data : List UInt8} {safe : Nat} (h : PL W g b data safe) (o : Obj) : PL (W.alloc o) g b data safe :=
  h.same (Below.heap_alloc _ _ _ h.lt) fun k hk => Below.heap_alloc _ _ _ (h.blk hk).2
theorem PL.drew {W : World} {g : Nat} {b : Option Nat} {data : List UInt8} {safe : Nat} (h : PL W g b data safe) : PL W.drew g b data safe := h.same rfl fun _ _ => rfl
theorem PL.below {W W' : World} {g : Nat} {b : Option Nat} {data : List UInt8} {safe : Nat} (h : PL W g b data safe) (hb : Below W.heap.size W W') : PL W' g b data safe :=
  h.same (hb.block _ h.lt) fun k hk => hb.block _ (h.blk hk).2
/-- What turned one plate left another one alone. -/
theorem PL.apart {W W' : World} {g : Nat} {b : Option Nat} {data : List UInt8} {safe : Nat} (h : PL W g b data safe) {g1 : Nat} {b1 : Option Nat} (T : Touch W W' g1 b1) (h1 : g ≠ g1) (h2 : some g ≠ b1) (h3 : b ≠ some g1) (h4 : b = none ∨ b ≠ b1) : PL W' g b data safe :=
  h.same (T.block _ h.lt h1 h2) fun k hk => T.block _ (h.blk hk).2 (fun e => h3 (by rw [hk, e])) (fun e => by
    rcases h4 with h4 | h4
    · rw [h4] at hk; simp at hk
    · exact h4 (hk.trans e))
def PS (w W : World) (g : Nat) (data : List UInt8) (safe : Nat) : Prop := Below w.heap.size w W ∧ w.heap.size ≤ g ∧ ∃ b, PL W g b data safe
theorem Texts.lit {W : World} {g : Nat} {b : Option Nat} {data : List UInt8} {safe : Nat} (h : PL W g b data safe) (l : List ByteArray) (t : TypeId) : Texts (W.alloc (.cells (l.map Value.string).toArray t)) g b (some ⟨W.heap.size, 0, none⟩) l := by
  refine ⟨fun e => by simp at e, fun a ha j hj => ?_, fun a ha _ => ?_⟩
  · injection ha with ha; subst ha
    have hadd : (⟨W.heap.size, 0, none⟩ : Addr).add j = ⟨W.heap.size, j, none⟩ := by unfold Addr.add; split <;> simp_all
    rw [hadd, cell_of_row _ _ j _ _ (0, 0) (heap_alloc_new W _)]
    simp [List.getElem?_eq_getElem hj]
  · injection ha with ha; subst ha
    exact ⟨fun e => by have := h.lt; have e2 : W.heap.size = g := e; omega, fun e => by have e2 : W.heap.size < W.heap.size := (h.blk e.symm).2; omega⟩
section
variable {w W : World} {g : Nat} {data : List UInt8} {safe : Nat}
theorem PS.alloc (h : PS w W g data safe) (o : Obj) : PS w (W.alloc o) g data safe := by
  obtain ⟨hb, hg, b, hp⟩ := h
  exact ⟨hb.alloc hb.size _, hg, b, hp.alloc _⟩
theorem PS.drew (h : PS w W g data safe) : PS w W.drew g data safe := by
  obtain ⟨hb, hg, b, hp⟩ := h
  exact ⟨hb.drew, hg, b, hp.drew⟩
theorem PS.lt (h : PS w W g data safe) : g < W.heap.size := by obtain ⟨_, _, b, hp⟩ := h; exact hp.lt
theorem new_ps (hb : Below w.heap.size w W) : Calls Try.prog 8 #[] W fun e w' => e = .returned (.pointer (some ⟨W.heap.size, 0, none⟩)) ∧ PS w w' W.heap.size [] 0 :=
  (new_any W).mono fun e w' ⟨he, hp, hb', _⟩ => ⟨he, hb.trans (hb'.mono hb.size), hb.size, none, hp⟩
theorem len_ps (h : PS w W g data safe) : Calls Try.prog 10 #[.pointer (some ⟨g, 0, none⟩)] W fun e w' => e = .returned (.int .i64 data.length) ∧ W = w' := by
  obtain ⟨hb, hg, b, hp⟩ := h; exact len_any hp
theorem safe_ps (h : PS w W g data safe) : Calls Try.prog 11 #[.pointer (some ⟨g, 0, none⟩)] W fun e w' => e = .returned (.int .i64 safe) ∧ W = w' := by
  obtain ⟨hb, hg, b, hp⟩ := h; exact safe_any hp
theorem read_ps (h : PS w W g data safe) : Calls Try.prog 14 #[.pointer (some ⟨g, 0, none⟩)] W fun e w' => e = .returned (.string ⟨data.toArray⟩) ∧ W = w' := by
  obtain ⟨hb, hg, b, hp⟩ := h; exact read_any hp
theorem sync_ps (h : PS w W g data safe) : Calls Try.prog 12 #[.pointer (some ⟨g, 0, none⟩)] W fun e w' => e = .returned (.int .i64 0) ∧ PS w w' g data data.length := by
  obtain ⟨hb, hg, b, hp⟩ := h
  exact (sync_any hp).mono fun e w' ⟨he, h1, T, _⟩ => ⟨he, Below.touch hb T hg (fun k hk => by simp at hk) hb.size, hg, b, h1⟩
theorem lose_ps (h : PS w W g data safe) (hd : data.length ≤ 65536) (keep : Int) (hk : -9223372036854775808 ≤ keep ∧ keep ≤ 9223372036854775807) (spoil : UInt8) : Calls Try.prog 13 #[.pointer (some ⟨g, 0, none⟩), .int .i64 keep, .int .u8 spoil.toNat] W fun e w' =>
    e = .returned (.int .i64 0) ∧ PS w w' g (lost data safe keep spoil) (lost data safe keep spoil).length := by
  obtain ⟨hb, hg, b, hp⟩ := h
  exact (lose_any hp hd keep hk spoil).mono fun e w' ⟨he, h1, T, _⟩ => ⟨he, Below.touch hb T hg (fun k hk => by have := hp.blk hk; omega) hb.size, hg, b, h1⟩
/-- Append of texts that lie in a new block. -/
theorem append_lit (h : PS w W g data safe) (l : List ByteArray) (t : TypeId) (hl : l.length ≤ 1000000) (hd : data.length ≤ 65536) (hc : (cat l).length ≤ 1000000000) :
    Calls Try.prog 9 #[.pointer (some ⟨g, 0, none⟩), .slice (some ⟨W.heap.size, 0, none⟩) l.length l.length] (W.alloc (.cells (l.map Value.string).toArray t)) fun e w' =>
      ∃ d' r, e = .returned (.int .i64 r) ∧ PS w w' g d' safe ∧ (if data.length + (cat l).length ≤ 65536 then r = 0 ∧ d' = data ++ cat l else r = 6 ∧ d' = data) := by
  have h0 := h
  obtain ⟨hb, hg, b, hp⟩ := h
  refine (append_any (hp.alloc _) _ l _ (Texts.lit hp l t) hl hd hc).mono fun e w' hh => ?_
  split at hh
  · rename_i hle
    obtain ⟨he, b', h1, T, F⟩ := hh
    have hb1 := hb.alloc hb.size (.cells (l.map Value.string).toArray t)
    exact ⟨_, _, he, ⟨Below.touch hb1 T hg (fun k hk => by have := hp.blk hk; omega) hb1.size, hg, b', h1⟩, by rw [if_pos hle]; exact ⟨rfl, rfl⟩⟩
  · rename_i hle
    obtain ⟨he, rfl⟩ := hh
    exact ⟨_, _, he, h0.alloc _, by rw [if_neg hle]; exact ⟨rfl, rfl⟩⟩
theorem append_lit_drew (h : PS w W g data safe) (l : List ByteArray) (t : TypeId) (hl : l.length ≤ 1000000) (hd : data.length ≤ 65536) (hc : (cat l).length ≤ 1000000000) :
    Calls Try.prog 9 #[.pointer (some ⟨g, 0, none⟩), .slice (some ⟨W.heap.size, 0, none⟩) l.length l.length] (W.alloc (.cells (l.map Value.string).toArray t)).drew fun e w' =>
      ∃ d' r, e = .returned (.int .i64 r) ∧ PS w w' g d' safe ∧ Hid (if data.length + (cat l).length ≤ 65536 then r = 0 ∧ d' = data ++ cat l else r = 6 ∧ d' = data) :=
  append_lit h.drew l t hl hd hc
end
end Go.Proofs.Ytdemkcfajeoaiaa
