/- Several texts in one. -/
import Derived.Test.YtomlilkobhkoiaaGreatDoorQ1
import Derived.Lib.AppendStr
import Derived.Maps.AppendAt
/- A row of bytes that the program owns; no cell of it is frozen (behind its last cell a mark may stand, as '[]byte(s)' leaves one). -/
namespace Go.Proofs.YtomlilkobhkoiaaGreatDoor
open Go.RowKit Go.Lib
set_option linter.unusedVariables false
def OwnR (w : World) (base : Nat) (e : TypeId) (v : Value) (n : Nat) (xs : List Value) : Prop :=
  xs.length = n ∧
  ((v = .slice none 0 0 ∧ n = 0) ∨
   ∃ g cap cur fz, v = .slice (some ⟨g, 0, none⟩) n cap ∧ base ≤ g ∧ w.heap[g]? = some (.cells cur e fz) ∧ (∀ j, j < cap → ¬(fz.1 ≤ j ∧ j < fz.2)) ∧ n ≤ cap ∧ cap ≤ maxLen ∧ cur.size = cap ∧ cur.toList.take n = xs)
section
variable {w : World} {base : Nat} {e : TypeId} {v : Value} {n : Nat} {xs : List Value}
theorem OwnR.of (h : w.ownsRow base e 1 v n xs) : OwnR w base e v n xs := by
  refine ⟨by simpa using h.1, ?_⟩
  rcases h.2 with hn | ⟨g, cap, cur, hv, hb, hg, h1, h2, h3, h4⟩
  · exact .inl hn
  · exact .inr ⟨g, cap, cur, (0, 0), hv, hb, hg, fun j _ hh => by simp at hh, h1, h2, by simpa using h3, by simpa using h4⟩
theorem OwnR.nil (w : World) (base : Nat) (e : TypeId) : OwnR w base e (.slice none 0 0) 0 [] := ⟨rfl, .inl ⟨rfl, rfl⟩⟩
theorem OwnR.shape (h : OwnR w base e v n xs) : ∃ A c, v = .slice A n c := by
  rcases h.2 with ⟨rfl, rfl⟩ | ⟨g, cap, cur, fz, rfl, _⟩
  · exact ⟨_, _, rfl⟩
  · exact ⟨_, _, rfl⟩
theorem OwnR.lt (h : OwnR w base e v n xs) : ∀ k, v.ownBlock = some k → base ≤ k ∧ k < w.heap.size := by
  intro k hk
  rcases h.2 with ⟨rfl, _⟩ | ⟨g, cap, cur, fz, rfl, hb, hg, _⟩
  · simp [Value.ownBlock] at hk
  · simp [Value.ownBlock] at hk
    subst hk
    exact ⟨hb, (Array.getElem?_eq_some_iff.1 hg).1⟩
theorem OwnR.kept {w' : World} {row : Option Nat} (h : OwnR w base e v n xs) (hg : w.grownBy w' row) (hne : v.ownBlock = none ∨ v.ownBlock ≠ row) : OwnR w' base e v n xs := by
  refine ⟨h.1, ?_⟩
  rcases h.2 with hn | ⟨g, cap, cur, fz, rfl, hb, hgg, rest⟩
  · exact .inl hn
  · refine .inr ⟨g, cap, cur, fz, rfl, hb, ?_, rest⟩
    rw [hg.block g (Array.getElem?_eq_some_iff.1 hgg).1 (by simpa [Value.ownBlock] using hne)]
    exact hgg
theorem OwnR.same {w' : World} (h : OwnR w base e v n xs) (hg : ∀ k, v.ownBlock = some k → w'.heap[k]? = w.heap[k]?) : OwnR w' base e v n xs := by
  refine ⟨h.1, ?_⟩
  rcases h.2 with hn | ⟨g, cap, cur, fz, rfl, hb, hgg, rest⟩
  · exact .inl hn
  · exact .inr ⟨g, cap, cur, fz, rfl, hb, (hg g rfl).trans hgg, rest⟩
theorem OwnR.cells (h : OwnR w base e v n xs) {g : Nat} (hg : v.ownBlock = some g) : ∀ j u, xs[j]? = some u → w.cell? ((⟨g, 0, none⟩ : Addr).add j) = some u := by
  intro j u hu
  rcases h.2 with ⟨rfl, _⟩ | ⟨g', cap, cur, fz, rfl, _, hgg, _, _, _, _, htake⟩
  · simp [Value.ownBlock] at hg
  · simp [Value.ownBlock] at hg
    subst hg
    have hadd : (⟨g', 0, none⟩ : Addr).add j = ⟨g', j, none⟩ := by unfold Addr.add; split <;> simp_all
    rw [hadd, cell_of_row w g' j cur e fz hgg]
    rw [← htake, List.getElem?_take] at hu
    split at hu
    · simpa using hu
    · cases hu
variable {g cap : Nat}
theorem OwnR.stored (h : OwnR w base e (.slice (some ⟨g, 0, none⟩) n cap) n xs) (j : Nat) (u : Value) :
    OwnR (w.setCell ⟨g, j, none⟩ u) base e (.slice (some ⟨g, 0, none⟩) n cap) n (xs.set j u) := by
  rcases h.2 with ⟨h', _⟩ | ⟨g', cap', cur, fz, h', hb, hg, hf, hnc, hcm, hcs, htake⟩
  · simp at h'
  · simp only [Value.slice.injEq, Option.some.injEq, Addr.mk.injEq, and_true, true_and] at h'
    obtain ⟨rfl, rfl⟩ := h'
    refine ⟨by simpa using h.1, .inr ⟨g, cap, cur.setIfInBounds j u, fz, rfl, hb, ?_, hf, hnc, hcm, by simpa using hcs, ?_⟩⟩
    · rw [setCell_eq_setRow w g j cur e fz u hg]; exact setRow_heap w g cur _ e _ hg
    · rw [Array.toList_setIfInBounds, ← htake, List.take_set]
theorem OwnR.cut (h : OwnR w base e v n xs) (m : Nat) (hm : m ≤ n) : ∃ A c, v = .slice A n c ∧ n ≤ c ∧ OwnR w base e (.slice A m c) m (xs.take m) := by
  rcases h.2 with ⟨rfl, h0⟩ | ⟨g', cap', cur, fz, rfl, hb, hg, hf, hnc, hcm, hcs, htake⟩
  · subst h0
    obtain rfl : m = 0 := by omega
    exact ⟨none, 0, rfl, Nat.le_refl _, by simp, .inl ⟨rfl, rfl⟩⟩
  · refine ⟨_, _, rfl, hnc, ?_, .inr ⟨g', cap', cur, fz, rfl, hb, hg, hf, by omega, hcm, hcs, ?_⟩⟩
    · rw [List.length_take, h.1]; omega
    · rw [← htake, List.take_take]; congr 1; omega
end
/-- Cells stored one by one into a row of which none of these is frozen. -/
theorem run_storeCells_atM (P : Program) (g o : Nat) (t : TypeId) (fz : Nat × Nat) : ∀ (vs : List Value) (i : Nat) (cur : Array Value) (w : World), w.heap[g]? = some (.cells cur t fz) → (∀ j, j < cur.size → ¬(fz.1 ≤ j ∧ j < fz.2)) → o + i + vs.length ≤ cur.size → (∀ v ∈ vs, v.oneCell' = true) →
    (storeCells ⟨g, o, none⟩ vs i).run P w = .ok () (w.setRow g (cur.toList.take (o + i) ++ vs ++ cur.toList.drop (o + i + vs.length)).toArray)
  | [], i, cur, w, hg, _, _, _ => by
    simp only [storeCells, List.append_nil, List.length_nil, Nat.add_zero, List.take_append_drop, Array.toArray_toList]
    rw [setRow_self w g cur t fz hg]
    rfl
  | v :: rest, i, cur, w, hg, hfz, hl, h1 => by
    have hi : o + i < cur.size := by simp at hl; omega
    have hadd : (⟨g, o, none⟩ : Addr).add i = ⟨g, o + i, none⟩ := by unfold Addr.add; split <;> simp_all
    have hcell : w.cell? ⟨g, o + i, none⟩ = some cur[o + i] := by simp [World.cell?, hg, hi]
    have hfro : w.frozen? ⟨g, o + i, none⟩ = false := by
      have := hfz (o + i) hi
      obtain ⟨lo, hi'⟩ := fz
      simp only [World.frozen?, hg, Bool.and_eq_false_iff, decide_eq_false_iff_not]
      simp only at this
      omega
    have hst : (store ((⟨g, o, none⟩ : Addr).add i) v).run P w = .ok () (w.setRow g (cur.setIfInBounds (o + i) v)) := by
      rw [hadd, run_store P w _ v _ (h1 v (by simp)), hcell]
      simp [hfro, setCell_eq_setRow w g (o + i) cur t fz v hg]
    have ih := run_storeCells_atM P g o t fz rest (i + 1) (cur.setIfInBounds (o + i) v) (w.setRow g (cur.setIfInBounds (o + i) v)) (setRow_heap w g cur _ t _ hg) (by simpa using hfz) (by simp at hl ⊢; omega) (fun x hx => h1 x (by simp [hx]))
    simp only [storeCells, Sem.run_bind, hst, Result.andThen_ok, ih, setRow_setRow]
    congr 3
    have e := list_seg_step cur.toList (o + i) v rest (by simp at hl ⊢; omega)
    simpa [Array.toList_setIfInBounds, Nat.add_assoc] using e
/-- The block b' is b, or a new one. -/
def Fresh (W : World) (b b' : Option Nat) : Prop := b' = b ∨ ∃ k, b' = some k ∧ W.heap.size ≤ k
theorem Fresh.refl (W : World) (b : Option Nat) : Fresh W b b := .inl rfl
section
variable {P : Program} (w : World)
theorem run_append_ownR (base : Nat) (t u ty e : TypeId) (i : TypeInfo) (ht : P.underlying t = some (.slice e)) (hu : P.underlying u = some .string) (hi : P.info? e = some i) (hz : i.zero = some (.int .u8 0))
    (hsize : i.size = 1) (hby : i.bytes = 1)
    (v : Value) (n : Nat) (xs : List Value) (hown : OwnR w base e v n xs) (s : ByteArray)
    (h63 : n + s.size ≤ maxLen) (hbytes : n + s.size ≤ 140737488355328) (hbase : base ≤ w.heap.size) :
    ∃ v' w', (Builtin.append_ #[t, u] ty #[v, .string s]).run P w = .ok v' w' ∧ OwnR w' base e v' (n + s.size) (xs ++ strCells s) ∧ w.grownBy w' v.ownBlock ∧ Fresh w v.ownBlock v'.ownBlock := by
  have hxl : xs.length = n := hown.1
  rcases hown.2 with ⟨rfl, rfl⟩ | ⟨g, cap, cur, fz, rfl, hbg, hg, hf, hnc, hcm, hcs, htake⟩
  · have hx : xs = [] := List.eq_nil_of_length_eq_zero hxl
    subst hx
    obtain ⟨v', w', hr, ho, hgr, hn⟩ := run_append_own_string (P := P) w w.heap.size t u ty e i ht hu hi hz hsize hby _ 0 [] (World.ownsRow_nil w _ e 1) s h63 hbytes (Nat.le_refl _)
    refine ⟨v', w', hr, ?_, hgr, ?_⟩
    · have := OwnR.of ho
      refine ⟨this.1, ?_⟩
      rcases this.2 with hn | ⟨g, cap, cur, fz, rfl, hb, hgg, rest⟩
      · exact .inl hn
      · exact .inr ⟨g, cap, cur, fz, rfl, by omega, hgg, rest⟩
    · cases hv : v'.ownBlock with
      | none => exact .inl rfl
      | some k => exact .inr ⟨k, rfl, (ho.lt k hv).1⟩
  · have hlen : (xs ++ strCells s).length = n + s.size := by rw [List.length_append, hxl, strCells_length]
    by_cases hroom : n + s.size ≤ cap
    · have hst := run_storeCells_atM P g n e fz (strCells s) 0 cur w hg (by rw [hcs]; exact hf) (by rw [strCells_length, hcs]; omega) (strCells_oneCell s)
      have hf1 := run_firstCells_string (P := P) w 1 s
      simp only [Nat.add_zero, strCells_length] at hst
      have hr : (Builtin.append_ #[t, u] ty #[.slice (some ⟨g, 0, none⟩) n cap, .string s]).run P w =
          .ok (.slice (some ⟨g, 0, none⟩) (n + s.size) cap) (w.setRow g (cur.toList.take n ++ strCells s ++ cur.toList.drop (n + s.size)).toArray) := by
        simp [Builtin.append_, run_underlying ht, run_underlying hu, sizeOf, typeInfo, hi, hsize, Builtin.lenOf, hroom, hf1, Addr.add_lit, hst]
      refine ⟨_, _, hr, ⟨hlen, .inr ⟨g, cap, _, fz, rfl, hbg, setRow_heap w g cur _ e _ hg, hf, hroom, hcm, ?_, ?_⟩⟩, ⟨rfl, rfl, rfl, by simp, fun k _ hk => setRow_other w g k _ (fun e => hk (by simp [Value.ownBlock, e]))⟩, .inl rfl⟩
      · simp only [List.size_toArray, List.length_append, List.length_take, List.length_drop, Array.length_toList, strCells_length]
        omega
      · rw [htake, ← hlen]
        exact List.take_left
    · have hcells : ∀ j u, xs[j]? = some u → w.cell? ((⟨g, 0, none⟩ : Addr).add j) = some u := hown.cells (g := g) rfl
      have hsmall : n + s.size ≤ 9223372036854775807 := by simp only [maxLen] at h63; omega
      have hr := run_append_grow_string (P := P) w t u ty e i (.int .u8 0) ht hu hi hz ⟨g, 0, none⟩ n cap xs (by rw [hsize]; simpa using hxl) hcells s (by omega) (by omega) (by rw [hby]; exact growslice_fits (by omega) (by omega))
      have hge := grownCap_ge w (n + s.size) cap e
      have hcm : grownCap w (n + s.size) cap e ≤ maxLen := grownCap_le_maxLen w (n + s.size) cap e h63
      refine ⟨_, _, hr, ⟨hlen, .inr ⟨w.heap.size, _, _, (0, 0), rfl, hbase, heap_alloc_new w.drew _, fun j _ hh => by simp at hh, hge, hcm, ?_, ?_⟩⟩, ⟨rfl, rfl, rfl, by simp, fun k hk _ => heap_alloc_old w.drew _ hk⟩, .inr ⟨_, rfl, Nat.le_refl _⟩⟩
      · have hz1 : (Value.int IntKind.u8 0).cells.size = 1 := rfl
        simp only [Array.size_append, List.size_toArray, size_zeroCells, hz1, hxl, strCells_length]
        omega
      · simp only [Array.toList_append, List.append_assoc]
        rw [← List.append_assoc, ← hlen]
        exact List.take_left
theorem wpList_append_ownR {ops : Array Oper} {rest : List Oper} {o : Oper} {a : Act} {Q : Exit → Act → World → Prop} (hgd : o.guard = none) (sl x : Operand) (t u : TypeId)
    (ho : o.op = .call { callee := .builtin .append, args := #[sl, x], argTypes := #[t, u] })
    (base : Nat) (e : TypeId) (i : TypeInfo) (ht : P.underlying t = some (.slice e)) (hu : P.underlying u = some .string) (hi : P.info? e = some i) (hz : i.zero = some (.int .u8 0))
    (hsize : i.size = 1) (hby : i.bytes = 1)
    (v : Value) (n : Nat) (xs : List Value) (hs : a.eval sl = v) (hown : OwnR w base e v n xs) (s : ByteArray) (hx : a.eval x = .string s)
    (h63 : n + s.size ≤ maxLen) (hbytes : n + s.size ≤ 140737488355328) (hbase : base ≤ w.heap.size)
    (h : ∀ v' w', OwnR w' base e v' (n + s.size) (xs ++ strCells s) → w.grownBy w' v.ownBlock → Fresh w v.ownBlock v'.ownBlock → wpList P ops Q rest (a.put o.dst v') w') : wpList P ops Q (o :: rest) a w := by
  refine wpList_plain hgd fun K hK => ?_
  obtain ⟨v', w', hr, h2, h3, h4⟩ := run_append_ownR (P := P) w base t u o.type e i ht hu hi hz hsize hby v n xs hown s h63 hbytes hbase
  unfold Oper.wp execOp
  simp only [ho, resolve, invoke, builtin, Sem.run_bind, Sem.run_pure, Result.andThen_ok, List.map_toArray, List.map_cons, List.map_nil, hs, hx, hr]
  exact hK _ _ (h v' w' h2 h3 h4)
end
def byteV (b : UInt8) : Value := .int .u8 b.toNat
def bytesV (l : List UInt8) : List Value := l.map byteV
theorem bytesV_str (s : ByteArray) : Lib.strCells s = bytesV s.data.toList := rfl
/-- Nothing but the blocks g and b, and what is new, has turned. -/
structure Touch (W W' : World) (g : Nat) (b : Option Nat) : Prop where
  os : W'.os = W.os
  tape : W'.tape = W.tape
  output : W'.output = W.output
  size : W.heap.size ≤ W'.heap.size
  block : ∀ k, k < W.heap.size → k ≠ g → some k ≠ b → W'.heap[k]? = W.heap[k]?
theorem Touch.refl (W : World) (g : Nat) (b : Option Nat) : Touch W W g b := ⟨rfl, rfl, rfl, Nat.le_refl _, fun _ _ _ _ => rfl⟩
theorem Touch.trans {W W1 W2 : World} {g : Nat} {b b1 : Option Nat} (h : Touch W W1 g b) (f : Fresh W b b1) (h2 : Touch W1 W2 g b1) : Touch W W2 g b := by
  refine ⟨h2.os.trans h.os, h2.tape.trans h.tape, h2.output.trans h.output, Nat.le_trans h.size h2.size, fun k hk hg hb => ?_⟩
  refine (h2.block k (Nat.lt_of_lt_of_le hk h.size) hg ?_).trans (h.block k hk hg hb)
  rcases f with rfl | ⟨j, rfl, hj⟩
  · exact hb
  · intro e; injection e; omega
theorem Fresh.trans {W W1 W2 : World} {g : Nat} {b b1 b2 : Option Nat} (h : Touch W W1 g b) (f : Fresh W b b1) (f2 : Fresh W1 b1 b2) : Fresh W b b2 := by
  rcases f2 with rfl | ⟨j, rfl, hj⟩
  · exact f
  · exact .inr ⟨j, rfl, Nat.le_trans h.size hj⟩
theorem Touch.row {W W' : World} {g : Nat} {b : Option Nat} (h : Touch W W' g b) {k : Nat} {r : Array Value} (hr : row? W k = some r) (hg : k ≠ g) (hb : some k ≠ b) : row? W' k = some r := by
  unfold row? at *; rw [h.block k (row_lt hr) hg hb]; exact hr
theorem grown_cell (W : World) (g : Nat) (i : Nat) (u : Value) : Touch W (W.setCell ⟨g, i, none⟩ u) g none :=
  ⟨rfl, rfl, rfl, by simp, fun k _ hk _ => heap_setCell_other W ⟨g, i, none⟩ k u (fun e => hk e)⟩
theorem Touch.wide {W W' : World} {g : Nat} {b : Option Nat} (h : Touch W W' g none) : Touch W W' g b :=
  ⟨h.os, h.tape, h.output, h.size, fun k hk hg hb => h.block k hk hg (by simp)⟩
theorem Touch.own {W W' : World} {g : Nat} (h : Touch W W' g none) {base n : Nat} {e : TypeId} {v : Value} {xs : List Value} (ho : OwnR W base e v n xs) (hb : g < base) : OwnR W' base e v n xs :=
  ho.kept (row := some g) ⟨h.os, h.tape, h.output, h.size, fun k hk hk2 => h.block k hk (fun e => hk2 (by rw [e])) (by simp)⟩
    (.inr fun e => by have := ho.lt _ e; omega)
theorem Touch.drew {W W' : World} {g : Nat} {b : Option Nat} (h : Touch W W' g b) : Touch W W'.drew g b := ⟨h.os, h.tape, h.output, h.size, h.block⟩
end Go.Proofs.YtomlilkobhkoiaaGreatDoor
/- Things in memory, each with the blocks that are its own; what a call does to some of them leaves the others alone. Nothing of the program stands here. -/
namespace Go.Proofs.YtomlilkobhkoiaaGreatDoor
open Go.RowKit Go.Lib
set_option linter.unusedVariables false
/-- A thing in memory: when a world bears it, with just these blocks its own. -/
structure Res where
  sat : (Nat → Prop) → World → Prop
  stay : ∀ {F : Nat → Prop} {W W' : World}, (∀ k, F k → W'.heap[k]? = W.heap[k]?) → sat F W → sat F W'
  lt : ∀ {F : Nat → Prop} {W : World}, sat F W → ∀ k, F k → k < W.heap.size
/-- Things side by side, with blocks of their own. -/
def Sat (W : World) : List Res → (Nat → Prop) → Prop
  | [], F => ∀ k, ¬ F k
  | r :: L, F => ∃ A B, r.sat A W ∧ Sat W L B ∧ (∀ k, A k → ¬ B k) ∧ ∀ k, F k ↔ A k ∨ B k
/-- Nothing has turned but blocks in F, and what is new. -/
structure Mod (w W : World) (F : Nat → Prop) : Prop where
  os : W.os = w.os
  tape : W.tape = w.tape
  output : W.output = w.output
  size : w.heap.size ≤ W.heap.size
  block : ∀ k, k < w.heap.size → ¬ F k → W.heap[k]? = w.heap[k]?
/-- W has come of w, where F was ours: these things are ours now. -/
def Sts (w : World) (F : Nat → Prop) (W : World) (L : List Res) : Prop := (∃ G, Sat W L G ∧ ∀ k, G k → F k ∨ w.heap.size ≤ k) ∧ Mod w W F
/-- A cell row, whole. -/
def rowR (g : Nat) (X : Array Value) : Res where
  sat F W := (∀ k, F k ↔ k = g) ∧ row? W g = some X
  stay h hs := ⟨hs.1, by rw [row_of_block (h g ((hs.1 g).2 rfl))]; exact hs.2⟩
  lt hs k hk := by rw [(hs.1 k).1 hk]; exact row_lt hs.2
theorem Mod.refl (w : World) (F : Nat → Prop) : Mod w w F := ⟨rfl, rfl, rfl, Nat.le_refl _, fun _ _ _ => rfl⟩
theorem Mod.below {w W : World} {F : Nat → Prop} (h : Mod w W F) (hF : ∀ k, ¬ F k) : Below w.heap.size w W := ⟨h.os, h.tape, h.output, h.size, fun k hk => h.block k hk (hF k)⟩
section
variable {w W W' : World} {F G : Nat → Prop} {L R L1 L2 : List Res} {r s t u : Res}
theorem Sat.stay : ∀ {L : List Res} {F : Nat → Prop}, (∀ k, F k → W'.heap[k]? = W.heap[k]?) → Sat W L F → Sat W' L F
  | [], _, _, h => h
  | r :: L, F, hk, ⟨A, B, ha, hb, hd, hf⟩ => ⟨A, B, r.stay (fun k h => hk k ((hf k).2 (.inl h))) ha, Sat.stay (fun k h => hk k ((hf k).2 (.inr h))) hb, hd, hf⟩
theorem Sat.lt : ∀ {L : List Res} {F : Nat → Prop}, Sat W L F → ∀ k, F k → k < W.heap.size
  | [], _, h, k, hk => (h k hk).elim
  | r :: L, F, ⟨A, B, ha, hb, hd, hf⟩, k, hk => by
    rcases (hf k).1 hk with h | h
    · exact r.lt ha k h
    · exact Sat.lt hb k h
theorem Sat.one (h : r.sat F W) : Sat W [r] F := ⟨F, fun _ => False, h, fun _ h => h, fun _ _ h => h, fun k => by simp⟩
theorem Sat.append : ∀ {L1 : List Res} {A B : Nat → Prop}, Sat W L1 A → Sat W L2 B → (∀ k, A k → ¬ B k) → Sat W (L1 ++ L2) (fun k => A k ∨ B k)
  | [], A, B, h, hb, _ => by
    have e : (fun k => A k ∨ B k) = B := by funext k; simp [h k]
    rw [e]; exact hb
  | r :: L1, A, B, ⟨A1, A2, h1, h2, hd, hf⟩, hb, hdis => by
    refine ⟨A1, fun k => A2 k ∨ B k, h1, Sat.append h2 hb (fun k h => hdis k ((hf k).2 (.inr h))), fun k hk => ?_, fun k => ?_⟩
    · rintro (h | h)
      · exact hd k hk h
      · exact hdis k ((hf k).2 (.inl hk)) h
    · show A k ∨ B k ↔ A1 k ∨ A2 k ∨ B k
      rw [hf k, or_assoc]
theorem Sat.parts : ∀ {L1 : List Res} {F : Nat → Prop}, Sat W (L1 ++ L2) F → ∃ A B, Sat W L1 A ∧ Sat W L2 B ∧ (∀ k, A k → ¬ B k) ∧ ∀ k, F k ↔ A k ∨ B k
  | [], F, h => ⟨fun _ => False, F, fun _ h => h, h, fun _ h => h.elim, fun k => by simp⟩
  | r :: L1, F, ⟨A, B, ha, hb, hd, hf⟩ => by
    obtain ⟨C, D, hc, hdd, hcd, hbf⟩ := Sat.parts hb
    refine ⟨fun k => A k ∨ C k, D, ⟨A, C, ha, hc, fun k h h' => hd k h ((hbf k).2 (.inl h')), fun k => Iff.rfl⟩, hdd, ?_, fun k => ?_⟩
    · rintro k (h | h) h'
      · exact hd k h ((hbf k).2 (.inr h'))
      · exact hcd k h h'
    · rw [hf k, hbf k, or_assoc]
theorem Sat.congr {F G : Nat → Prop} (h : Sat W L F) (e : ∀ k, F k ↔ G k) : Sat W L G := by
  have : F = G := by funext k; exact propext (e k)
  rw [← this]; exact h
theorem Sat.perm {L L' : List Res} (p : L.Perm L') : ∀ {F : Nat → Prop}, Sat W L F → Sat W L' F := by
  induction p with
  | nil => exact fun h => h
  | cons r _ ih => exact fun ⟨A, B, ha, hb, hd, hf⟩ => ⟨A, B, ha, ih hb, hd, hf⟩
  | swap r s L =>
    rintro F ⟨A, B, ha, ⟨C, D, hc, hdd, hcd, hbf⟩, hd, hf⟩
    refine ⟨C, fun k => A k ∨ D k, hc, ⟨A, D, ha, hdd, fun k h h' => hd k h ((hbf k).2 (.inr h')), fun k => Iff.rfl⟩, ?_, fun k => ?_⟩
    · rintro k h (h' | h')
      · exact hd k h' ((hbf k).2 (.inl h))
      · exact hcd k h h'
    · rw [hf k, hbf k, or_left_comm]
  | trans _ _ ih1 ih2 => exact fun h => ih2 (ih1 h)
theorem Sts.start (h : Sat w L F) : Sts w F w L := ⟨⟨F, h, fun _ h => .inl h⟩, Mod.refl _ _⟩
theorem Sts.start0 (w : World) : Sts w (fun _ => False) w [] := Sts.start fun _ h => h
theorem Sts.perm (h : Sts w F W L) (p : L.Perm L1) : Sts w F W L1 := let ⟨⟨G, hs, hg⟩, m⟩ := h; ⟨⟨G, hs.perm p, hg⟩, m⟩
theorem Sts.mod (h : Sts w F W L) : Mod w W F := h.2
theorem Sts.size (h : Sts w F W L) : w.heap.size ≤ W.heap.size := h.2.size
theorem Sts.below (h : Sts w (fun _ => False) W L) : Below w.heap.size w W := h.2.below fun _ h => h
/-- Some of the things are handed to a call; the others stay as they are. -/
theorem Sts.call (h : Sts w F W (L ++ R)) : ∃ G, Sat W L G ∧ ∀ {W' L'}, Sts W G W' L' → Sts w F W' (L' ++ R) := by
  obtain ⟨⟨H, hs, hh⟩, m⟩ := h
  obtain ⟨A, B, ha, hb, hd, hf⟩ := hs.parts
  refine ⟨A, ha, fun {W' L'} hS => ?_⟩
  obtain ⟨⟨C, hc, hcc⟩, m2⟩ := hS
  have hbl := hb.lt
  refine ⟨⟨fun k => C k ∨ B k, hc.append (hb.stay fun k hk => m2.block k (hbl k hk) fun h => hd k h hk) ?_, ?_⟩, ?_⟩
  · intro k hk hbk
    rcases hcc k hk with h | h
    · exact hd k h hbk
    · have := hbl k hbk; omega
  · rintro k (hk | hk)
    · rcases hcc k hk with h | h
      · exact hh k ((hf k).2 (.inl h))
      · right; have := m.size; omega
    · exact hh k ((hf k).2 (.inr hk))
  · refine ⟨m2.os.trans m.os, m2.tape.trans m.tape, m2.output.trans m.output, Nat.le_trans m.size m2.size, fun k hk hn => ?_⟩
    refine (m2.block k (Nat.lt_of_lt_of_le hk m.size) fun ha' => ?_).trans (m.block k hk hn)
    rcases hh k ((hf k).2 (.inl ha')) with h | h
    · exact hn h
    · omega
theorem Sts.mono (h : Sts w F W L) (hm : Mod W W' (fun _ => False)) : Sts w F W' L := by
  obtain ⟨G, hG, k⟩ := Sts.call (L := []) (R := L) h
  have := k (W' := W') (L' := []) ⟨⟨fun _ => False, fun _ h => h, fun _ h => h.elim⟩, hm.os, hm.tape, hm.output, hm.size, fun k hk _ => hm.block k hk fun h => h⟩
  exact this
theorem Sts.pure (h : Sts w F W L) (hb : Below W.heap.size W W') : Sts w F W' L := h.mono ⟨hb.os, hb.tape, hb.output, hb.size, fun k hk _ => hb.block k hk⟩
theorem Sts.keep (h : Sts w F W L) (o : Obj) : Sts w F (W.alloc o) L := h.pure ((Below.refl _ _).alloc (Nat.le_refl _) _)
theorem Sts.drew (h : Sts w F W L) : Sts w F W.drew L := h.pure (Below.refl W.heap.size W).drew
theorem Sts.drewN (h : Sts w F W L) (n : Nat) : Sts w F (W.drewN n) L := h.pure (below_drewN (Below.refl _ _) n)
theorem Sts.ext (h : Sts w F W L) (x : World) : Sts w F (Go.Proofs.YtomlilkobhkoiaaGreatDoor.ext W x) L := h.pure (ext_below W x)
theorem Sts.new (h : Sts w F W L) (c : Array Value) (t : TypeId) : Sts w F (W.alloc (.cells c t)) (rowR W.heap.size c :: L) := by
  obtain ⟨⟨G, hs, hg⟩, m⟩ := h.keep (.cells c t)
  obtain ⟨⟨G0, hs0, hg0⟩, m0⟩ := h
  have hlt := hs0.lt
  have hs1 : Sat (W.alloc (.cells c t)) L G0 := hs0.stay fun k hk => Below.heap_alloc _ _ _ (hlt k hk)
  refine ⟨⟨fun k => k = W.heap.size ∨ G0 k, ⟨fun k => k = W.heap.size, G0, ⟨fun _ => Iff.rfl, row_alloc_at W _ c t rfl⟩, hs1, ?_, fun _ => Iff.rfl⟩, ?_⟩, m⟩
  · rintro k rfl h; have := hlt _ h; omega
  · rintro k (rfl | h)
    · right; exact m0.size
    · exact hg0 k h
/-- A row that a call has left in a new block. -/
theorem Sts.found {g : Nat} {X : Array Value} (h : Sts w F W L) (hb : Below W.heap.size W W') (hg : W.heap.size ≤ g) (hr : row? W' g = some X) : Sts w F W' (rowR g X :: L) := by
  obtain ⟨⟨G, hs, hG⟩, m⟩ := h.pure hb
  obtain ⟨⟨G0, hs0, hg0⟩, m0⟩ := h
  have hlt := hs0.lt
  have hs1 : Sat W' L G0 := hs0.stay fun k hk => hb.block k (hlt k hk)
  refine ⟨⟨fun k => k = g ∨ G0 k, ⟨fun k => k = g, G0, ⟨fun _ => Iff.rfl, hr⟩, hs1, ?_, fun _ => Iff.rfl⟩, ?_⟩, m⟩
  · rintro k rfl h; have := hlt _ h; omega
  · rintro k (rfl | h)
    · right; have := m0.size; omega
    · exact hg0 k h
/-- The first thing turns, by writes to its own blocks. -/
theorem Sts.turn (h : Sts w F W (r :: R)) (hr : ∀ A, r.sat A W → ∃ A', s.sat A' W' ∧ (∀ k, A' k → A k ∨ W.heap.size ≤ k) ∧ Mod W W' A) : Sts w F W' (s :: R) := by
  obtain ⟨G, hG, k⟩ := Sts.call (L := [r]) (R := R) h
  obtain ⟨A, B, ha, hb, hd, hf⟩ := hG
  obtain ⟨A', hs, hA, hm⟩ := hr A ha
  refine k (L' := [s]) ⟨⟨A', Sat.one hs, fun k hk => ?_⟩, hm.os, hm.tape, hm.output, hm.size, fun k hk hn => hm.block k hk fun h => hn ((hf k).2 (.inl h))⟩
  rcases hA k hk with h | h
  · exact .inl ((hf k).2 (.inl h))
  · exact .inr h
theorem Sts.setRow {g : Nat} {X : Array Value} (h : Sts w F W (rowR g X :: R)) (Y : Array Value) : Sts w F (W.setRow g Y) (rowR g Y :: R) :=
  h.turn fun A ha => ⟨A, ⟨ha.1, row_setRow_same W g X Y ha.2⟩, fun _ h => .inl h, rfl, rfl, rfl, by simp, fun k hk hn => setRow_other W g k Y fun e => hn ((ha.1 k).2 e)⟩
theorem Sts.setCell {g : Nat} {X : Array Value} (h : Sts w F W (rowR g X :: R)) (i : Nat) (v : Value) : Sts w F (W.setCell ⟨g, i, none⟩ v) (rowR g (X.setIfInBounds i v) :: R) :=
  h.turn fun A ha => ⟨A, ⟨ha.1, by rw [row_setCell_same, ha.2]; rfl⟩, fun _ h => .inl h, rfl, rfl, rfl, by simp, fun k hk hn => heap_setCell_other W ⟨g, i, none⟩ k v (fun e => hn ((ha.1 k).2 e))⟩
theorem Sts.drop (h : Sts w F W (r :: R)) : Sts w F W R := by
  obtain ⟨⟨G, ⟨A, B, ha, hb, hd, hf⟩, hg⟩, m⟩ := h
  exact ⟨⟨B, hb, fun k hk => hg k ((hf k).2 (.inr hk))⟩, m⟩
theorem Sts.nil (h : Sts w F W L) : Sts w F W [] := ⟨⟨fun _ => False, fun _ h => h, fun _ h => h.elim⟩, h.2⟩
theorem Sts.to (h : Sts w F W (r :: R)) (hr : ∀ A, r.sat A W → s.sat A W) : Sts w F W (s :: R) :=
  h.turn fun A ha => ⟨A, hr A ha, fun _ h => .inl h, Mod.refl _ _⟩
theorem Sts.at0 (h : Sts w F W (r :: R)) : ∃ A, r.sat A W := let ⟨⟨_, ⟨A, _, ha, _⟩, _⟩, _⟩ := h; ⟨A, ha⟩
theorem Sts.row {g : Nat} {X : Array Value} (h : Sts w F W (rowR g X :: R)) : row? W g = some X := let ⟨_, ha⟩ := h.at0; ha.2
theorem Sts.row1 {g : Nat} {X : Array Value} (h : Sts w F W (r :: rowR g X :: R)) : row? W g = some X := h.drop.row
theorem Sts.row2 {g : Nat} {X : Array Value} (h : Sts w F W (r :: s :: rowR g X :: R)) : row? W g = some X := h.drop.drop.row
theorem Sts.row3 {g : Nat} {X : Array Value} (h : Sts w F W (r :: s :: t :: rowR g X :: R)) : row? W g = some X := h.drop.drop.drop.row
theorem Sts.row4 {g : Nat} {X : Array Value} (h : Sts w F W (r :: s :: t :: u :: rowR g X :: R)) : row? W g = some X := h.drop.drop.drop.drop.row
theorem Sts.ne {g k : Nat} {X Y : Array Value} (h : Sts w F W (rowR g X :: rowR k Y :: R)) : g ≠ k := by
  obtain ⟨⟨G, ⟨A, B, ha, ⟨C, D, hc, _, _, hf2⟩, hd, hf⟩, hg⟩, m⟩ := h
  intro e
  exact hd g ((ha.1 g).2 rfl) ((hf2 g).2 (.inl ((hc.1 g).2 e)))
theorem Sts.swap (h : Sts w F W (r :: s :: R)) : Sts w F W (s :: r :: R) := h.perm (.swap ..)
theorem Sts.rot2 (h : Sts w F W (r :: s :: t :: R)) : Sts w F W (t :: r :: s :: R) := (h.perm (.cons _ (.swap ..))).swap
end
theorem sat_row {W : World} {g : Nat} {X : Array Value} (h : row? W g = some X) : Sat W [rowR g X] (fun k => k = g) := Sat.one ⟨fun _ => Iff.rfl, h⟩
theorem of_touch {W W' : World} {g : Nat} {X : Array Value} {G : Nat → Prop} {X0 : Array Value} (hG : Sat W [rowR g X0] G) (hr : row? W' g = some X) (T : Touch W W' g none) : Sts W G W' [rowR g X] := by
  obtain ⟨A, B, ha, hb, hd, hf⟩ := hG
  refine ⟨⟨fun k => k = g, sat_row hr, fun k hk => .inl ((hf k).2 (.inl ((ha.1 k).2 hk)))⟩, T.os, T.tape, T.output, T.size, fun k hk hn => T.block k hk (fun e => hn ((hf k).2 (.inl ((ha.1 k).2 e)))) (by simp)⟩
theorem sat_row_get {W : World} {g : Nat} {X : Array Value} {G : Nat → Prop} (h : Sat W [rowR g X] G) : row? W g = some X := let ⟨_, _, ha, _⟩ := h; ha.2
/-- A call that turns some things into others, and leaves all else alone. -/
def Does (P : Program) (f : FuncId) (args : Array Value) (L : List Res) (v : Value) (L' : List Res) : Prop :=
  ∀ W G, Sat W L G → Calls P f args W fun e W' => e = .returned v ∧ Sts W G W' L'
section
variable {P : Program} {f : FuncId} {args : Array Value} {v : Value} {w W : World} {F : Nat → Prop} {L L' R : List Res} {r r' s s' : Res}
theorem Does.at (h : Does P f args L v L') (T : Sts w F W (L ++ R)) : Calls P f args W fun e W' => e = .returned v ∧ Sts w F W' (L' ++ R) := by
  obtain ⟨G, hG, k⟩ := T.call
  exact (h W G hG).mono fun e W' ⟨he, hS⟩ => ⟨he, k hS⟩
theorem Does.at1 (h : Does P f args [r] v [r']) (T : Sts w F W (r :: R)) : Calls P f args W fun e W' => e = .returned v ∧ Sts w F W' (r' :: R) := Does.at (R := R) h T
theorem Does.at2 (h : Does P f args [r, s] v [r', s']) (T : Sts w F W (r :: s :: R)) : Calls P f args W fun e W' => e = .returned v ∧ Sts w F W' (r' :: s' :: R) := Does.at (R := R) h T
theorem Ans.at (h : Ans P f args v) (T : Sts w F W L) : Calls P f args W fun e W' => e = .returned v ∧ Sts w F W' L := (h W).mono fun _ _ ⟨he, hb⟩ => ⟨he, T.pure hb⟩
theorem Ans.of_sts (h : ∀ W, Calls P f args W fun e W' => e = .returned v ∧ Sts W (fun _ => False) W' []) : Ans P f args v := fun W => (h W).mono fun _ _ ⟨he, hS⟩ => ⟨he, hS.below⟩
theorem Does.ret (h : Does P f args L v L') {u : Value} (e : v = u) : Does P f args L u L' := e ▸ h
end
/-! things made of things -/
def starR (r s : Res) : Res where
  sat F W := Sat W [r, s] F
  stay h hs := hs.stay h
  lt hs := hs.lt
def exR {α : Type} (f : α → Res) : Res where
  sat F W := ∃ a, (f a).sat F W
  stay h := fun ⟨a, hs⟩ => ⟨a, (f a).stay h hs⟩
  lt := fun ⟨a, hs⟩ => (f a).lt hs
/-- A fact beside a thing. -/
def andR (p : Prop) (r : Res) : Res where
  sat F W := p ∧ r.sat F W
  stay h hs := ⟨hs.1, r.stay h hs.2⟩
  lt hs := r.lt hs.2
/-- A slice of the call's own: nil, or from the head of a block of its own on. -/
def vecR (e : TypeId) (size : Nat) (v : Value) (n : Nat) (xs : List Value) : Res where
  sat F W := W.ownsRow 0 e size v n xs ∧ ∀ k, F k ↔ v.ownBlock = some k
  stay := fun {F W W'} h hs => by
    refine ⟨?_, hs.2⟩
    refine ⟨hs.1.1, ?_⟩
    rcases hs.1.2 with hn | ⟨g, cap, cur, rfl, hb, hg, rest⟩
    · exact .inl hn
    · exact .inr ⟨g, cap, cur, rfl, hb, (h g ((hs.2 g).2 rfl)).trans hg, rest⟩
  lt := fun {F W} hs k hk => by
    have := (hs.2 k).1 hk
    rcases hs.1.2 with ⟨rfl, hn⟩ | ⟨g, cap, cur, rfl, hb, hg, rest⟩
    · simp [Value.ownBlock] at this
    · simp [Value.ownBlock] at this; subst this; exact (Array.getElem?_eq_some_iff.1 hg).1
section
variable {w W W' : World} {F : Nat → Prop} {L R : List Res} {r s : Res}
theorem Sts.split (h : Sts w F W (starR r s :: R)) : Sts w F W (r :: s :: R) := by
  obtain ⟨⟨G, ⟨A, B, ha, hb, hd, hf⟩, hg⟩, m⟩ := h
  exact ⟨⟨G, (Sat.append (L1 := [r, s]) ha hb hd).congr fun k => (hf k).symm, hg⟩, m⟩
theorem Sts.join (h : Sts w F W (r :: s :: R)) : Sts w F W (starR r s :: R) := by
  obtain ⟨⟨G, hs, hg⟩, m⟩ := h
  obtain ⟨A, B, ha, hb, hd, hf⟩ := Sat.parts (L1 := [r, s]) hs
  exact ⟨⟨G, ⟨A, B, ha, hb, hd, hf⟩, hg⟩, m⟩
theorem Sts.open {α : Type} {f : α → Res} (h : Sts w F W (exR f :: R)) : ∃ a, Sts w F W (f a :: R) := by
  obtain ⟨⟨G, ⟨A, B, ⟨a, ha⟩, hb, hd, hf⟩, hg⟩, m⟩ := h
  exact ⟨a, ⟨G, ⟨A, B, ha, hb, hd, hf⟩, hg⟩, m⟩
theorem Sts.close {α : Type} {f : α → Res} (a : α) (h : Sts w F W (f a :: R)) : Sts w F W (exR f :: R) := by
  obtain ⟨⟨G, ⟨A, B, ha, hb, hd, hf⟩, hg⟩, m⟩ := h
  exact ⟨⟨G, ⟨A, B, ⟨a, ha⟩, hb, hd, hf⟩, hg⟩, m⟩
theorem Sts.and {p : Prop} (h : Sts w F W (andR p r :: R)) : p ∧ Sts w F W (r :: R) := by
  obtain ⟨⟨G, ⟨A, B, ⟨hp, ha⟩, hb, hd, hf⟩, hg⟩, m⟩ := h
  exact ⟨hp, ⟨G, ⟨A, B, ha, hb, hd, hf⟩, hg⟩, m⟩
theorem Sts.with {p : Prop} (hp : p) (h : Sts w F W (r :: R)) : Sts w F W (andR p r :: R) := by
  obtain ⟨⟨G, ⟨A, B, ha, hb, hd, hf⟩, hg⟩, m⟩ := h
  exact ⟨⟨G, ⟨A, B, ⟨hp, ha⟩, hb, hd, hf⟩, hg⟩, m⟩
theorem Sts.swap2 {t : Res} (h : Sts w F W (r :: s :: t :: R)) : Sts w F W (r :: t :: s :: R) := h.perm (.cons _ (.swap ..))
/-- A new slice, nil. -/
theorem Sts.vecNil (h : Sts w F W L) (e : TypeId) (size : Nat) : Sts w F W (vecR e size (.slice none 0 0) 0 [] :: L) := by
  obtain ⟨⟨G, hs, hg⟩, m⟩ := h
  exact ⟨⟨G, ⟨fun _ => False, G, ⟨World.ownsRow_nil W 0 e size, fun k => by simp [Value.ownBlock]⟩, hs, fun _ h => h.elim, fun k => by simp⟩, hg⟩, m⟩
theorem Sts.vec {e : TypeId} {size n : Nat} {v : Value} {xs : List Value} (h : Sts w F W (vecR e size v n xs :: R)) : W.ownsRow 0 e size v n xs := let ⟨_, ha⟩ := h.at0; ha.1
/-- A whole new block is a slice of the call's own. -/
theorem Sts.vecNew (h : Sts w F W L) (c : Array Value) (e : TypeId) (size n : Nat) (hc : c.size = n * size) (hn : n ≤ maxLen) : Sts w F (W.alloc (.cells c e)) (vecR e size (.slice (some ⟨W.heap.size, 0, none⟩) n n) n c.toList :: L) := by
  refine (h.new c e).to fun A ha => ⟨⟨by simpa using hc, .inr ⟨W.heap.size, n, c, rfl, Nat.zero_le _, heap_alloc_new W _, Nat.le_refl _, hn, hc, ?_⟩⟩, fun k => ?_⟩
  · rw [List.take_of_length_le (by simp [hc])]
  · rw [ha.1 k]; simp [Value.ownBlock, eq_comm]
theorem Sts.grown {e : TypeId} {size n m : Nat} {v v' : Value} {xs ys : List Value} (h : Sts w F W (vecR e size v n xs :: R)) (ho : W'.ownsRow 0 e size v' m ys) (hg : W.grownBy W' v.ownBlock) (hf : v'.ownBlock = v.ownBlock ∨ v'.ownBlock = some W.heap.size) :
    Sts w F W' (vecR e size v' m ys :: R) :=
  h.turn fun A ha => ⟨fun k => v'.ownBlock = some k, ⟨ho, fun _ => Iff.rfl⟩, fun k hk => by
    rcases hf with e | e
    · exact .inl ((ha.2 k).2 (e ▸ hk))
    · rw [e] at hk; injection hk with hk; right; omega, hg.os, hg.tape, hg.output, hg.size, fun k hk hn => hg.block k hk fun e => hn ((ha.2 k).2 e.symm)⟩
end
section
variable {P : Program} {w W : World} {F : Nat → Prop} {R : List Res}
/-- append of cells that stand somewhere. -/
theorem wpList_append_vec {ops : Array Oper} {rest : List Oper} {o : Oper} {a : Act} {Q : Exit → Act → World → Prop} (hgd : o.guard = none) (s x : Operand) (t : TypeId)
    (ho : o.op = .call { callee := .builtin .append, args := #[s, x], argTypes := #[t, t] })
    (e : TypeId) (i : TypeInfo) (z : Value) (size bytes : Nat) (ht : P.underlying t = some (.slice e)) (hi : P.info? e = some i) (hz : i.zero = some z)
    (hsize : i.size = size) (hby : i.bytes = bytes) (hzs : z.cells.size = size) (hsz : 0 < size)
    (v : Value) (n : Nat) (xs : List Value) (hs : a.eval s = v) (T : Sts w F W (vecR e size v n xs :: R))
    (ad : Addr) (m c : Nat) (news : List Value) (hx : a.eval x = .slice (some ad) m c) (hl : news.length = m * size) (hnews : ∀ j u, news[j]? = some u → W.cell? (ad.add j) = some u) (h1 : ∀ u ∈ news, u.oneCell' = true)
    (h63 : n + m ≤ maxLen) (hbytes : (n + m) * bytes ≤ 140737488355328)
    (h : ∀ v' w', Sts w F w' (vecR e size v' (n + m) (xs ++ news) :: R) → wpList P ops Q rest (a.put o.dst v') w') :
    wpList P ops Q (o :: rest) a W :=
  wpList_append_own_at (P := P) W hgd s x t ho 0 e i z size bytes ht hi hz hsize hby hzs hsz v n xs hs T.vec ad m c news hx hl hnews h1 h63 hbytes (Nat.zero_le _)
    fun v' w' ho' hg' _ hf' => h v' w' (T.grown ho' hg' hf')
/-- append of a text's bytes to bytes: where the new slice lies. -/
theorem run_append_str_at (W : World) (t u ty e : TypeId) (i : TypeInfo) (ht : P.underlying t = some (.slice e)) (hu : P.underlying u = some .string) (hi : P.info? e = some i) (hz : i.zero = some (.int .u8 0))
    (hsize : i.size = 1) (hby : i.bytes = 1)
    (v : Value) (n : Nat) (xs : List Value) (hown : W.ownsRow 0 e 1 v n xs) (s : ByteArray)
    (h63 : n + s.size ≤ maxLen) (hbytes : n + s.size ≤ 140737488355328) :
    ∃ v' w', (Builtin.append_ #[t, u] ty #[v, .string s]).run P W = .ok v' w' ∧ w'.ownsRow 0 e 1 v' (n + s.size) (xs ++ strCells s) ∧ W.grownBy w' v.ownBlock ∧ (v'.ownBlock = v.ownBlock ∨ v'.ownBlock = some W.heap.size) := by
  have hsmall : n + s.size ≤ 9223372036854775807 := by simp only [maxLen] at h63; omega
  have hxl : xs.length = n := by simpa using hown.1
  rcases hown.2 with ⟨rfl, rfl⟩ | ⟨g, cap, cur, rfl, hbg, hg, hnc, hcm, hcs, htake⟩
  · have hx : xs = [] := List.eq_nil_of_length_eq_zero hxl
    subst hx
    obtain ⟨v', w', hr, ho, hgr, hn⟩ := run_append_own_string (P := P) W W.heap.size t u ty e i ht hu hi hz hsize hby _ 0 [] (World.ownsRow_nil W _ e 1) s h63 hbytes (Nat.le_refl _)
    refine ⟨v', w', hr, ⟨ho.1, ?_⟩, hgr, ?_⟩
    · rcases ho.2 with hn | ⟨g, cap, cur, rfl, hb, hgg, rest⟩
      · exact .inl hn
      · exact .inr ⟨g, cap, cur, rfl, Nat.zero_le _, hgg, rest⟩
    · by_cases h0 : s.size = 0
      · rw [hn.2 ⟨rfl, h0⟩]; exact .inl rfl
      · right
        have h1 := run_append_nil_string (P := P) W t u ty e i (.int .u8 0) ht hu hi hz s (by omega) (by omega) (by rw [hby]; omega)
        rw [h1] at hr
        injection hr with e1 e2
        rw [← e1]; rfl
  · by_cases hroom : n + s.size ≤ cap
    · have hcs' : cur.size = cap := by simpa using hcs
      have hr := run_append_room_string (P := P) W t u ty e i ht hu hi hsize g n cap cur hg s hroom (by omega)
      obtain ⟨v', w', hr', ho, hgr, hn⟩ := run_append_own_string (P := P) W 0 t u ty e i ht hu hi hz hsize hby _ n xs hown s h63 hbytes (Nat.zero_le _)
      refine ⟨v', w', hr', ho, hgr, .inl ?_⟩
      rw [hr] at hr'
      injection hr' with e1 e2
      rw [← e1]; rfl
    · have holds : ∀ j u, xs[j]? = some u → W.cell? ((⟨g, 0, none⟩ : Addr).add j) = some u := hown.cells (g := g) rfl
      have hr := run_append_grow_string (P := P) W t u ty e i (.int .u8 0) ht hu hi hz ⟨g, 0, none⟩ n cap xs (by rw [hsize]; simpa using hxl) holds s (by omega) (by omega) (by rw [hby]; exact growslice_fits (by omega) (by omega))
      obtain ⟨v', w', hr', ho, hgr, hn⟩ := run_append_own_string (P := P) W 0 t u ty e i ht hu hi hz hsize hby _ n xs hown s h63 hbytes (Nat.zero_le _)
      refine ⟨v', w', hr', ho, hgr, .inr ?_⟩
      rw [hr] at hr'
      injection hr' with e1 e2
      rw [← e1]; rfl
theorem wpList_append_vecStr {ops : Array Oper} {rest : List Oper} {o : Oper} {a : Act} {Q : Exit → Act → World → Prop} (hgd : o.guard = none) (sl x : Operand) (t u : TypeId)
    (ho : o.op = .call { callee := .builtin .append, args := #[sl, x], argTypes := #[t, u] })
    (e : TypeId) (i : TypeInfo) (ht : P.underlying t = some (.slice e)) (hu : P.underlying u = some .string) (hi : P.info? e = some i) (hz : i.zero = some (.int .u8 0))
    (hsize : i.size = 1) (hby : i.bytes = 1)
    (v : Value) (n : Nat) (xs : List Value) (hs : a.eval sl = v) (T : Sts w F W (vecR e 1 v n xs :: R)) (s : ByteArray) (hx : a.eval x = .string s)
    (h63 : n + s.size ≤ maxLen) (hbytes : n + s.size ≤ 140737488355328)
    (h : ∀ v' w', Sts w F w' (vecR e 1 v' (n + s.size) (xs ++ strCells s) :: R) → wpList P ops Q rest (a.put o.dst v') w') : wpList P ops Q (o :: rest) a W := by
  refine wpList_plain hgd fun K hK => ?_
  obtain ⟨v', w', hr, h2, h3, h4⟩ := run_append_str_at (P := P) W t u o.type e i ht hu hi hz hsize hby v n xs T.vec s h63 hbytes
  unfold Oper.wp execOp
  simp only [ho, resolve, invoke, builtin, Sem.run_bind, Sem.run_pure, Result.andThen_ok, List.map_toArray, List.map_cons, List.map_nil, hs, hx, hr]
  exact hK _ _ (h v' w' (T.grown h2 h3 h4))
end
end Go.Proofs.YtomlilkobhkoiaaGreatDoor
