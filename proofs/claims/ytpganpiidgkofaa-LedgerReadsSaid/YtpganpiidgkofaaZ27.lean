/- Several texts in one. -/
import Derived.Test.YtpganpiidgkofaaZ26
import Derived.Test.YtpganpiidgkofaaZ5
import Derived.Lib.ConvBytes
/- Layer 8: the plate as its callers see it: a block of the call's own. -/
namespace Go.Proofs.Ytpganpiidgkofaa
open Go.RowKit
set_option linter.unusedVariables false
theorem PL.same {W W' : World} {g : Nat} {b : Option Nat} {data : List UInt8} {safe : Nat} (h : PL W g b data safe) (hg : W'.heap[g]? = W.heap[g]?) (hb : ∀ k, b = some k → W'.heap[k]? = W.heap[k]?) : PL W' g b data safe := by
  obtain ⟨v, hv, hr, ho, hs⟩ := h
  refine ⟨v, hv, ?_, ho.same fun k hk => hb k (hv.symm.trans hk), hs⟩
  unfold row? at *; rw [hg]; exact hr
theorem PL.alloc {W : World} {g : Nat} {b : Option Nat} {data : List UInt8} {safe : Nat} (h : PL W g b data safe) (o : Obj) : PL (W.alloc o) g b data safe :=
  h.same (Below.heap_alloc _ _ _ h.lt) fun k hk => Below.heap_alloc _ _ _ (h.blk hk).2
theorem PL.drew {W : World} {g : Nat} {b : Option Nat} {data : List UInt8} {safe : Nat} (h : PL W g b data safe) : PL W.drew g b data safe := h.same rfl fun _ _ => rfl
theorem PL.below {W W' : World} {g : Nat} {b : Option Nat} {data : List UInt8} {safe : Nat} (h : PL W g b data safe) (hb : Below W.heap.size W W') : PL W' g b data safe :=
  h.same (hb.block _ h.lt) fun k hk => hb.block _ (h.blk hk).2
/-- What turned one plate left another one alone. -/
theorem PL.apart {W W' : World} {g : Nat} {b : Option Nat} {data : List UInt8} {safe : Nat} (h : PL W g b data safe) {g1 : Nat} {b1 : Option Nat} (T : Touch W W' g1 b1) (h1 : g ≠ g1) (h2 : some g ≠ b1) (h3 : b ≠ some g1) (h4 : b = none ∨ b ≠ b1) : PL W' g b data safe :=
  h.same (T.block _ h.lt h1 h2) fun k hk => T.block _ (h.blk hk).2 (fun e => h3 (by rw [hk, e])) (fun e => by
    rcases h4 with h4 | h4
    · rw [h4] at hk; simp at hk
    · exact h4 (hk.trans e))
def PS (w W : World) (g : Nat) (data : List UInt8) (safe : Nat) : Prop := Below w.heap.size w W ∧ w.heap.size ≤ g ∧ ∃ b, PL W g b data safe
theorem Texts.lit {W : World} {g : Nat} {b : Option Nat} {data : List UInt8} {safe : Nat} (h : PL W g b data safe) (l : List ByteArray) (t : TypeId) : Texts (W.alloc (.cells (l.map Value.string).toArray t)) g b (some ⟨W.heap.size, 0, none⟩) l := by
  refine ⟨fun e => by simp at e, fun a ha j hj => ?_, fun a ha _ => ?_⟩
  · injection ha with ha; subst ha
    have hadd : (⟨W.heap.size, 0, none⟩ : Addr).add j = ⟨W.heap.size, j, none⟩ := by unfold Addr.add; split <;> simp_all
    rw [hadd, cell_of_row _ _ j _ _ (0, 0) (heap_alloc_new W _)]
    simp [List.getElem?_eq_getElem hj]
  · injection ha with ha; subst ha
    exact ⟨fun e => by have := h.lt; have e2 : W.heap.size = g := e; omega, fun e => by have e2 : W.heap.size < W.heap.size := (h.blk e.symm).2; omega⟩
section
variable {w W : World} {g : Nat} {data : List UInt8} {safe : Nat}
theorem PS.alloc (h : PS w W g data safe) (o : Obj) : PS w (W.alloc o) g data safe := by
  obtain ⟨hb, hg, b, hp⟩ := h
  exact ⟨hb.alloc hb.size _, hg, b, hp.alloc _⟩
theorem PS.drew (h : PS w W g data safe) : PS w W.drew g data safe := by
  obtain ⟨hb, hg, b, hp⟩ := h
  exact ⟨hb.drew, hg, b, hp.drew⟩
theorem PS.lt (h : PS w W g data safe) : g < W.heap.size := by obtain ⟨_, _, b, hp⟩ := h; exact hp.lt
theorem new_ps (hb : Below w.heap.size w W) : Calls Try.prog 14 #[] W fun e w' => e = .returned (.pointer (some ⟨W.heap.size, 0, none⟩)) ∧ PS w w' W.heap.size [] 0 :=
  (new_any W).mono fun e w' ⟨he, hp, hb', _⟩ => ⟨he, hb.trans (hb'.mono hb.size), hb.size, none, hp⟩
theorem len_ps (h : PS w W g data safe) : Calls Try.prog 17 #[.pointer (some ⟨g, 0, none⟩)] W fun e w' => e = .returned (.int .i64 data.length) ∧ W = w' := by
  obtain ⟨hb, hg, b, hp⟩ := h; exact len_any hp
theorem read_ps (h : PS w W g data safe) : Calls Try.prog 50 #[.pointer (some ⟨g, 0, none⟩)] W fun e w' => e = .returned (.string ⟨data.toArray⟩) ∧ W = w' := by
  obtain ⟨hb, hg, b, hp⟩ := h; exact read_any hp
theorem sync_ps (h : PS w W g data safe) : Calls Try.prog 68 #[.pointer (some ⟨g, 0, none⟩)] W fun e w' => e = .returned (.int .i64 0) ∧ PS w w' g data data.length := by
  obtain ⟨hb, hg, b, hp⟩ := h
  exact (sync_any hp).mono fun e w' ⟨he, h1, T, _⟩ => ⟨he, Below.touch hb T hg (fun k hk => by simp at hk) hb.size, hg, b, h1⟩
theorem lose_ps (h : PS w W g data safe) (hd : data.length ≤ 65536) (keep : Int) (hk : -9223372036854775808 ≤ keep ∧ keep ≤ 9223372036854775807) (spoil : UInt8) : Calls Try.prog 28 #[.pointer (some ⟨g, 0, none⟩), .int .i64 keep, .int .u8 spoil.toNat] W fun e w' =>
    e = .returned (.int .i64 0) ∧ PS w w' g (lost data safe keep spoil) (lost data safe keep spoil).length := by
  obtain ⟨hb, hg, b, hp⟩ := h
  exact (lose_any hp hd keep hk spoil).mono fun e w' ⟨he, h1, T, _⟩ => ⟨he, Below.touch hb T hg (fun k hk => by have := hp.blk hk; omega) hb.size, hg, b, h1⟩
/-- Append of texts that lie in a new block. -/
theorem append_lit (h : PS w W g data safe) (l : List ByteArray) (t : TypeId) (hl : l.length ≤ 1000000) (hd : data.length ≤ 65536) (hc : (cat l).length ≤ 1000000000) :
    Calls Try.prog 23 #[.pointer (some ⟨g, 0, none⟩), .slice (some ⟨W.heap.size, 0, none⟩) l.length l.length] (W.alloc (.cells (l.map Value.string).toArray t)) fun e w' =>
      ∃ d' r, e = .returned (.int .i64 r) ∧ PS w w' g d' safe ∧ (if data.length + (cat l).length ≤ 65536 then r = 0 ∧ d' = data ++ cat l else r = 6 ∧ d' = data) := by
  have h0 := h
  obtain ⟨hb, hg, b, hp⟩ := h
  refine (append_any (hp.alloc _) _ l _ (Texts.lit hp l t) hl hd hc).mono fun e w' hh => ?_
  split at hh
  · rename_i hle
    obtain ⟨he, b', h1, T, F⟩ := hh
    have hb1 := hb.alloc hb.size (.cells (l.map Value.string).toArray t)
    exact ⟨_, _, he, ⟨Below.touch hb1 T hg (fun k hk => by have := hp.blk hk; omega) hb1.size, hg, b', h1⟩, by rw [if_pos hle]; exact ⟨rfl, rfl⟩⟩
  · rename_i hle
    obtain ⟨he, rfl⟩ := hh
    exact ⟨_, _, he, h0.alloc _, by rw [if_neg hle]; exact ⟨rfl, rfl⟩⟩
theorem append_lit_drew (h : PS w W g data safe) (l : List ByteArray) (t : TypeId) (hl : l.length ≤ 1000000) (hd : data.length ≤ 65536) (hc : (cat l).length ≤ 1000000000) :
    Calls Try.prog 23 #[.pointer (some ⟨g, 0, none⟩), .slice (some ⟨W.heap.size, 0, none⟩) l.length l.length] (W.alloc (.cells (l.map Value.string).toArray t)).drew fun e w' =>
      ∃ d' r, e = .returned (.int .i64 r) ∧ PS w w' g d' safe ∧ Hid (if data.length + (cat l).length ≤ 65536 then r = 0 ∧ d' = data ++ cat l else r = 6 ∧ d' = data) :=
  append_lit h.drew l t hl hd hc
end
end Go.Proofs.Ytpganpiidgkofaa
/- Layer 8: a plate as a thing of its own; Replace; what no plate answers. -/
namespace Go.Proofs.Ytpganpiidgkofaa
open Go.RowKit
set_option linter.unusedVariables false
set_option maxRecDepth 20000
attribute [local go_sem] row_alloc row_drew row_drewN row_ext row_setCell row_setRow size_ext setRow_alloc setRow_drew
attribute [local go_sem high] cell_alloc frozen_alloc setCell_alloc cell_ext frozen_ext
theorem PL.uniq {W : World} {g : Nat} {b b' : Option Nat} {D D' : List UInt8} {s s' : Nat} (h : PL W g b D s) (h' : PL W g b' D' s') : b = b' := by
  obtain ⟨v, hv, hr, _⟩ := h
  obtain ⟨v', hv', hr', _⟩ := h'
  rw [hr] at hr'
  have e : v = v' := by injection hr' with e; injection e with e; injection e
  rw [← hv, ← hv', e]
def plR (g : Nat) (data : List UInt8) (safe : Nat) : Res where
  sat F W := ∃ b, PL W g b data safe ∧ ∀ k, F k ↔ (k = g ∨ b = some k)
  stay := fun h ⟨b, hp, hf⟩ => ⟨b, hp.same (h g ((hf g).2 (.inl rfl))) (fun k hk => h k ((hf k).2 (.inr hk))), hf⟩
  lt := fun ⟨b, hp, hf⟩ k hk => by
    rcases (hf k).1 hk with rfl | h
    · exact hp.lt
    · exact (hp.blk h).2
section
variable {w W W' : World} {F : Nat → Prop} {L R : List Res} {g k : Nat} {data data' : List UInt8} {safe safe' : Nat} {b b' : Option Nat} {X : Array Value}
theorem Sts.pl (T : Sts w F W (plR g data safe :: R)) : ∃ b, PL W g b data safe := let ⟨_, b, hp, _⟩ := T.at0; ⟨b, hp⟩
theorem Sts.plTurn (T : Sts w F W (plR g data safe :: R)) (hp : PL W g b data safe) (hp' : PL W' g b' data' safe') (Tc : Touch W W' g b) (Fr : Fresh W b b') : Sts w F W' (plR g data' safe' :: R) :=
  T.turn fun A ⟨b2, h2, hf⟩ => by
    obtain rfl := hp.uniq h2
    refine ⟨fun k => k = g ∨ b' = some k, ⟨b', hp', fun _ => Iff.rfl⟩, fun k hk => ?_, Tc.os, Tc.tape, Tc.output, Tc.size, fun k hk hn => Tc.block k hk (fun e => hn ((hf k).2 (.inl e))) (fun e => hn ((hf k).2 (.inr e.symm)))⟩
    rcases hk with rfl | hk
    · exact .inl ((hf _).2 (.inl rfl))
    · rcases Fr with rfl | ⟨j, rfl, hj⟩
      · exact .inl ((hf _).2 (.inr hk))
      · injection hk with hk; subst hk; exact .inr hj
theorem Sts.plApart (T : Sts w F W (plR g data safe :: rowR k X :: R)) (hp : PL W g b data safe) : k ≠ g ∧ some k ≠ b := by
  obtain ⟨⟨G, ⟨A, B, ⟨b2, h2, hf⟩, ⟨C, D, hc, _, _, hf2⟩, hd, _⟩, _⟩, _⟩ := T
  obtain rfl := hp.uniq h2
  have hkB : B k := (hf2 k).2 (.inl ((hc.1 k).2 rfl))
  exact ⟨fun e => hd k ((hf k).2 (.inl e)) hkB, fun e => hd k ((hf k).2 (.inr e.symm)) hkB⟩
theorem Sts.plIn (T : Sts w (fun _ => False) W (plR g data safe :: R)) (hp : PL W g b data safe) : w.heap.size ≤ g ∧ ∀ k, b = some k → w.heap.size ≤ k := by
  obtain ⟨⟨G, ⟨A, B, ⟨b2, h2, hf⟩, _, _, hf2⟩, hG⟩, _⟩ := T
  obtain rfl := hp.uniq h2
  have h : ∀ k, A k → w.heap.size ≤ k := fun k hk => (hG k ((hf2 k).2 (.inl hk))).resolve_left (fun h => h)
  exact ⟨h g ((hf g).2 (.inl rfl)), fun k hk => h k ((hf k).2 (.inr hk))⟩
theorem newT (T : Sts w F W L) : Calls Try.prog 14 #[] W fun e W' => e = .returned (.pointer (some ⟨W.heap.size, 0, none⟩)) ∧ Sts w F W' (plR W.heap.size [] 0 :: L) :=
  (new_any W).mono fun e W' ⟨he, hp, hb, hz⟩ => ⟨he, by
    obtain ⟨⟨G, hs, hG⟩, m⟩ := T.pure hb
    obtain ⟨⟨G0, hs0, hg0⟩, m0⟩ := T
    have hlt := hs0.lt
    have hs1 : Sat W' _ G0 := hs0.stay fun k hk => hb.block k (hlt k hk)
    refine ⟨⟨fun k => k = W.heap.size ∨ G0 k, ⟨fun k => k = W.heap.size, G0, ⟨none, hp, fun k => by simp⟩, hs1, ?_, fun _ => Iff.rfl⟩, ?_⟩, m⟩
    · rintro k rfl h; have := hlt _ h; omega
    · rintro k (rfl | h)
      · right; exact m0.size
      · exact hg0 k h⟩
theorem lenT (T : Sts w F W (plR g data safe :: R)) : Calls Try.prog 17 #[.pointer (some ⟨g, 0, none⟩)] W fun e W' => e = .returned (.int .i64 data.length) ∧ W = W' := let ⟨_, hp⟩ := T.pl; len_any hp
theorem readT (T : Sts w F W (plR g data safe :: R)) : Calls Try.prog 50 #[.pointer (some ⟨g, 0, none⟩)] W fun e W' => e = .returned (.string ⟨data.toArray⟩) ∧ W = W' := let ⟨_, hp⟩ := T.pl; read_any hp
theorem syncT (T : Sts w F W (plR g data safe :: R)) : Calls Try.prog 68 #[.pointer (some ⟨g, 0, none⟩)] W fun e W' => e = .returned (.int .i64 0) ∧ Sts w F W' (plR g data data.length :: R) := by
  obtain ⟨b, hp⟩ := T.pl
  exact (sync_any hp).mono fun e W' ⟨he, h1, Tc, _⟩ => ⟨he, T.plTurn hp h1 Tc.wide (Fresh.refl _ _)⟩
theorem loseT (T : Sts w F W (plR g data safe :: R)) (hd : data.length ≤ 65536) (keep : Int) (hk : -9223372036854775808 ≤ keep ∧ keep ≤ 9223372036854775807) (spoil : UInt8) :
    Calls Try.prog 28 #[.pointer (some ⟨g, 0, none⟩), .int .i64 keep, .int .u8 spoil.toNat] W fun e W' => e = .returned (.int .i64 0) ∧ Sts w F W' (plR g (lost data safe keep spoil) (lost data safe keep spoil).length :: R) := by
  obtain ⟨b, hp⟩ := T.pl
  exact (lose_any hp hd keep hk spoil).mono fun e W' ⟨he, h1, Tc, _⟩ => ⟨he, T.plTurn hp h1 Tc (Fresh.refl _ _)⟩
def rowS (l : List ByteArray) : Array Value := (l.map Value.string).toArray
def appP (data : List UInt8) (n : List UInt8) : List UInt8 × Int := if data.length + n.length ≤ 65536 then (data ++ n, 0) else (data, 6)
theorem appendT {l : List ByteArray} (T : Sts w F W (plR g data safe :: rowR k (rowS l) :: R)) (c : Nat) (hl : l.length ≤ 1000000) (hd : data.length ≤ 65536) (hc : (cat l).length ≤ 1000000000) :
    Calls Try.prog 23 #[.pointer (some ⟨g, 0, none⟩), .slice (some ⟨k, 0, none⟩) l.length c] W fun e W' =>
      e = .returned (.int .i64 (appP data (cat l)).2) ∧ Sts w F W' (plR g (appP data (cat l)).1 safe :: rowR k (rowS l) :: R) := by
  obtain ⟨b, hp⟩ := T.pl
  obtain ⟨hk1, hk2⟩ := T.plApart hp
  have hr := T.row1
  have hx : Texts W g b (some ⟨k, 0, none⟩) l := by
    refine ⟨fun e => by simp at e, fun a ha j hj => ?_, fun a ha _ => ?_⟩
    · injection ha with ha; subst ha
      have hadd : (⟨k, 0, none⟩ : Addr).add j = ⟨k, j, none⟩ := by unfold Addr.add; split <;> simp_all
      rw [hadd, row_cell hr]
      simp [rowS, List.getElem?_eq_getElem hj]
    · injection ha with ha; subst ha; exact ⟨hk1, hk2⟩
  refine (append_any hp _ l c hx hl hd hc).mono fun e W' hh => ?_
  unfold appP
  split at hh
  · rename_i hle
    rw [if_pos hle]
    obtain ⟨he, b', h1, Tc, Fr⟩ := hh
    exact ⟨he, T.plTurn hp h1 Tc Fr⟩
  · rename_i hle
    rw [if_neg hle]
    obtain ⟨he, rfl⟩ := hh
    exact ⟨he, T⟩
/-- The rows of a byte slice that a conversion has made. -/
theorem own_bytes (W : World) (s : ByteArray) (base : Nat) (hb : base ≤ W.heap.size) (hc : grownCap W s.size 0 5 ≤ maxLen) (hs : s.size ≤ grownCap W s.size 0 5) :
    OwnR (Lib.bytesWorld W 5 s) base 5 (.slice (some ⟨W.heap.size, 0, none⟩) s.size (grownCap W s.size 0 5)) s.size (bytesV s.data.toList) := by
  have hz : (Lib.bytesCells W 5 s).size = grownCap W s.size 0 5 := by
    simp only [Lib.bytesCells, Array.size_append, Array.size_map, Array.size_replicate]
    have : s.data.size = s.size := rfl
    omega
  have h0 : s.data.size = s.size := rfl
  refine ⟨by rw [bytesV, List.length_map, Array.length_toList]; exact h0, .inr ⟨W.heap.size, _, Lib.bytesCells W 5 s, _, rfl, hb, Lib.bytesWorld_at_new W 5 s, fun j hj hh => ?_, hs, hc, hz, ?_⟩⟩
  · simp only at hh; omega
  · have e1 : (s.data.map fun b => Value.int .u8 b.toNat).toList = bytesV s.data.toList := by
      rw [Array.toList_map]; rfl
    rw [Lib.bytesCells, Array.toList_append, e1, List.take_append_of_le_length (by rw [bytesV, List.length_map, Array.length_toList]; exact Nat.le_of_eq h0.symm), List.take_of_length_le (by rw [bytesV, List.length_map, Array.length_toList]; exact Nat.le_of_eq h0)]
set_option maxHeartbeats 1000000 in
theorem replaceT (T : Sts w F W (plR g data safe :: R)) (s : ByteArray) (hs : s.size ≤ 1000000000) :
    Calls Try.prog 54 #[.pointer (some ⟨g, 0, none⟩), .string s] W fun e W' =>
      if s.size ≤ 65536 then e = .returned (.int .i64 0) ∧ Sts w F W' (plR g s.data.toList s.size :: R) else e = .returned (.int .i64 6) ∧ W = W' := by
  obtain ⟨b, hp⟩ := T.pl
  obtain ⟨A0, c0, hr⟩ := hp.len
  have hlt := row_lt hr
  have hc := row_cell hr
  have hf := row_frozen hr
  by_cases hle : s.size ≤ 65536
  · simp only [if_pos hle]
    have hcv := Lib.run_convert_string_bytes (P := Try.prog) W 9 98 5 s Try.underlying9 Try.underlying98 Try.underlying5
    have hge := grownCap_ge W s.size 0 5
    have hcm := grownCap_le_maxLen W s.size 0 5 (by unfold maxLen; omega)
    have ho := own_bytes W s (g + 1) (by omega) hcm hge
    have hB : Below W.heap.size W (Lib.bytesWorld W 5 s) := ⟨rfl, rfl, rfl, by rw [Lib.bytesWorld_size]; omega, fun j hj => Lib.bytesWorld_at_old W _ s j hj⟩
    have hz := Lib.bytesWorld_size W 5 s
    have hr1 : row? (Lib.bytesWorld W 5 s) g = some #[.slice A0 data.length c0, .int .i64 safe] := (row_below hB hlt).trans hr
    have hlt1 := row_lt hr1
    have hc1 := row_cell hr1
    have hf1 := row_frozen hr1
    have HR := Lib.hid hr1; clear hr1 hr hc hf
    have HO := Lib.hid ho; clear ho
    have HB := Lib.hid hB; clear hB
    have HZ := Lib.hid hz; clear hz
    generalize Lib.bytesWorld W 5 s = W1 at *
    generalize grownCap W s.size 0 5 = cp at *
    have HT := Lib.hid T; clear T
    have HP := Lib.hid hp; clear hp
    go_enter Try.func54, Try.ntmps54
    go_wp2
    go_ret
    have t1 := grown_cell W1 g 0 (.slice (some ⟨W.heap.size, 0, none⟩) s.size cp)
    have t2 := grown_cell (W1.setCell ⟨g, 0, none⟩ (.slice (some ⟨W.heap.size, 0, none⟩) s.size cp)) g 1 (.int .i64 s.size)
    have t0 : Touch W W1 g b := ⟨HB.out.os, HB.out.tape, HB.out.output, HB.out.size, fun j hj _ _ => HB.out.block j hj⟩
    have fr : Fresh W b (some W.heap.size) := .inr ⟨_, rfl, Nat.le_refl _⟩
    refine ⟨rfl, HT.out.plTurn HP.out (b' := some W.heap.size) ⟨.slice (some ⟨W.heap.size, 0, none⟩) s.size cp, rfl, ?_, ?_, Nat.le_of_eq rfl⟩ ?_ fr⟩
    · rw [row_setCell, if_pos rfl, row_setCell, if_pos rfl, HR.out]; rfl
    · exact t2.own (t1.own HO.out (by omega)) (by omega)
    · exact t0.trans (.refl _ _) ((t1.trans (.refl _ _) t2).wide)
  · simp only [if_neg hle]
    go_enter Try.func54, Try.ntmps54
    go_wp2
    go_ret
    exact ⟨rfl, rfl⟩
end
end Go.Proofs.Ytpganpiidgkofaa
