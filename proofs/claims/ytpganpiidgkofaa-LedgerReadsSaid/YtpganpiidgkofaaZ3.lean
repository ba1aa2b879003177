/- Several texts in one. -/
import Derived.Test.YtpganpiidgkofaaZ2
import Derived.Lib.AppendStr
/- A row of bytes that the program owns; no cell of it is frozen (behind its last cell a mark may stand, as '[]byte(s)' leaves one). -/
namespace Go.Proofs.Ytpganpiidgkofaa
open Go.RowKit Go.Lib
set_option linter.unusedVariables false
def OwnR (w : World) (base : Nat) (e : TypeId) (v : Value) (n : Nat) (xs : List Value) : Prop :=
  xs.length = n ∧
  ((v = .slice none 0 0 ∧ n = 0) ∨
   ∃ g cap cur fz, v = .slice (some ⟨g, 0, none⟩) n cap ∧ base ≤ g ∧ w.heap[g]? = some (.cells cur e fz) ∧ (∀ j, j < cap → ¬(fz.1 ≤ j ∧ j < fz.2)) ∧ n ≤ cap ∧ cap ≤ maxLen ∧ cur.size = cap ∧ cur.toList.take n = xs)
section
variable {w : World} {base : Nat} {e : TypeId} {v : Value} {n : Nat} {xs : List Value}
theorem OwnR.of (h : w.ownsRow base e 1 v n xs) : OwnR w base e v n xs := by
  refine ⟨by simpa using h.1, ?_⟩
  rcases h.2 with hn | ⟨g, cap, cur, hv, hb, hg, h1, h2, h3, h4⟩
  · exact .inl hn
  · exact .inr ⟨g, cap, cur, (0, 0), hv, hb, hg, fun j _ hh => by simp at hh, h1, h2, by simpa using h3, by simpa using h4⟩
theorem OwnR.nil (w : World) (base : Nat) (e : TypeId) : OwnR w base e (.slice none 0 0) 0 [] := ⟨rfl, .inl ⟨rfl, rfl⟩⟩
theorem OwnR.shape (h : OwnR w base e v n xs) : ∃ A c, v = .slice A n c := by
  rcases h.2 with ⟨rfl, rfl⟩ | ⟨g, cap, cur, fz, rfl, _⟩
  · exact ⟨_, _, rfl⟩
  · exact ⟨_, _, rfl⟩
theorem OwnR.lt (h : OwnR w base e v n xs) : ∀ k, v.ownBlock = some k → base ≤ k ∧ k < w.heap.size := by
  intro k hk
  rcases h.2 with ⟨rfl, _⟩ | ⟨g, cap, cur, fz, rfl, hb, hg, _⟩
  · simp [Value.ownBlock] at hk
  · simp [Value.ownBlock] at hk
    subst hk
    exact ⟨hb, (Array.getElem?_eq_some_iff.1 hg).1⟩
theorem OwnR.kept {w' : World} {row : Option Nat} (h : OwnR w base e v n xs) (hg : w.grownBy w' row) (hne : v.ownBlock = none ∨ v.ownBlock ≠ row) : OwnR w' base e v n xs := by
  refine ⟨h.1, ?_⟩
  rcases h.2 with hn | ⟨g, cap, cur, fz, rfl, hb, hgg, rest⟩
  · exact .inl hn
  · refine .inr ⟨g, cap, cur, fz, rfl, hb, ?_, rest⟩
    rw [hg.block g (Array.getElem?_eq_some_iff.1 hgg).1 (by simpa [Value.ownBlock] using hne)]
    exact hgg
theorem OwnR.same {w' : World} (h : OwnR w base e v n xs) (hg : ∀ k, v.ownBlock = some k → w'.heap[k]? = w.heap[k]?) : OwnR w' base e v n xs := by
  refine ⟨h.1, ?_⟩
  rcases h.2 with hn | ⟨g, cap, cur, fz, rfl, hb, hgg, rest⟩
  · exact .inl hn
  · exact .inr ⟨g, cap, cur, fz, rfl, hb, (hg g rfl).trans hgg, rest⟩
theorem OwnR.cells (h : OwnR w base e v n xs) {g : Nat} (hg : v.ownBlock = some g) : ∀ j u, xs[j]? = some u → w.cell? ((⟨g, 0, none⟩ : Addr).add j) = some u := by
  intro j u hu
  rcases h.2 with ⟨rfl, _⟩ | ⟨g', cap, cur, fz, rfl, _, hgg, _, _, _, _, htake⟩
  · simp [Value.ownBlock] at hg
  · simp [Value.ownBlock] at hg
    subst hg
    have hadd : (⟨g', 0, none⟩ : Addr).add j = ⟨g', j, none⟩ := by unfold Addr.add; split <;> simp_all
    rw [hadd, cell_of_row w g' j cur e fz hgg]
    rw [← htake, List.getElem?_take] at hu
    split at hu
    · simpa using hu
    · cases hu
variable {g cap : Nat}
theorem OwnR.cellAt (h : OwnR w base e (.slice (some ⟨g, 0, none⟩) n cap) n xs) (j : Nat) (hj : j < n) : w.cell? ⟨g, j, none⟩ = xs[j]? := by
  rcases h.2 with ⟨h', _⟩ | ⟨g', cap', cur, fz, h', _, hg, _, _, _, _, htake⟩
  · simp at h'
  · simp only [Value.slice.injEq, Option.some.injEq, Addr.mk.injEq, and_true, true_and] at h'
    obtain ⟨rfl, rfl⟩ := h'
    rw [cell_of_row w g j cur e fz hg, ← htake, List.getElem?_take, if_pos hj]
    simp
theorem OwnR.frozenAt (h : OwnR w base e (.slice (some ⟨g, 0, none⟩) n cap) n xs) (j : Nat) (hj : j < n) : w.frozen? ⟨g, j, none⟩ = false := by
  rcases h.2 with ⟨h', _⟩ | ⟨g', cap', cur, fz, h', _, hg, hf, hnc, _⟩
  · simp at h'
  · simp only [Value.slice.injEq, Option.some.injEq, Addr.mk.injEq, and_true, true_and] at h'
    obtain ⟨rfl, rfl⟩ := h'
    have := hf j (by omega)
    obtain ⟨lo, hi⟩ := fz
    simp only [World.frozen?, hg]
    simp only at this
    simp only [Bool.and_eq_false_iff, decide_eq_false_iff_not]
    omega
theorem OwnR.stored (h : OwnR w base e (.slice (some ⟨g, 0, none⟩) n cap) n xs) (j : Nat) (u : Value) :
    OwnR (w.setCell ⟨g, j, none⟩ u) base e (.slice (some ⟨g, 0, none⟩) n cap) n (xs.set j u) := by
  rcases h.2 with ⟨h', _⟩ | ⟨g', cap', cur, fz, h', hb, hg, hf, hnc, hcm, hcs, htake⟩
  · simp at h'
  · simp only [Value.slice.injEq, Option.some.injEq, Addr.mk.injEq, and_true, true_and] at h'
    obtain ⟨rfl, rfl⟩ := h'
    refine ⟨by simpa using h.1, .inr ⟨g, cap, cur.setIfInBounds j u, fz, rfl, hb, ?_, hf, hnc, hcm, by simpa using hcs, ?_⟩⟩
    · rw [setCell_eq_setRow w g j cur e fz u hg]; exact setRow_heap w g cur _ e _ hg
    · rw [Array.toList_setIfInBounds, ← htake, List.take_set]
theorem OwnR.cut (h : OwnR w base e v n xs) (m : Nat) (hm : m ≤ n) : ∃ A c, v = .slice A n c ∧ n ≤ c ∧ OwnR w base e (.slice A m c) m (xs.take m) := by
  rcases h.2 with ⟨rfl, h0⟩ | ⟨g', cap', cur, fz, rfl, hb, hg, hf, hnc, hcm, hcs, htake⟩
  · subst h0
    obtain rfl : m = 0 := by omega
    exact ⟨none, 0, rfl, Nat.le_refl _, by simp, .inl ⟨rfl, rfl⟩⟩
  · refine ⟨_, _, rfl, hnc, ?_, .inr ⟨g', cap', cur, fz, rfl, hb, hg, hf, by omega, hcm, hcs, ?_⟩⟩
    · rw [List.length_take, h.1]; omega
    · rw [← htake, List.take_take]; congr 1; omega
end
/-- Cells stored one by one into a row of which none of these is frozen. -/
theorem run_storeCells_atM (P : Program) (g o : Nat) (t : TypeId) (fz : Nat × Nat) : ∀ (vs : List Value) (i : Nat) (cur : Array Value) (w : World), w.heap[g]? = some (.cells cur t fz) → (∀ j, j < cur.size → ¬(fz.1 ≤ j ∧ j < fz.2)) → o + i + vs.length ≤ cur.size → (∀ v ∈ vs, v.oneCell' = true) →
    (storeCells ⟨g, o, none⟩ vs i).run P w = .ok () (w.setRow g (cur.toList.take (o + i) ++ vs ++ cur.toList.drop (o + i + vs.length)).toArray)
  | [], i, cur, w, hg, _, _, _ => by
    simp only [storeCells, List.append_nil, List.length_nil, Nat.add_zero, List.take_append_drop, Array.toArray_toList]
    rw [setRow_self w g cur t fz hg]
    rfl
  | v :: rest, i, cur, w, hg, hfz, hl, h1 => by
    have hi : o + i < cur.size := by simp at hl; omega
    have hadd : (⟨g, o, none⟩ : Addr).add i = ⟨g, o + i, none⟩ := by unfold Addr.add; split <;> simp_all
    have hcell : w.cell? ⟨g, o + i, none⟩ = some cur[o + i] := by simp [World.cell?, hg, hi]
    have hfro : w.frozen? ⟨g, o + i, none⟩ = false := by
      have := hfz (o + i) hi
      obtain ⟨lo, hi'⟩ := fz
      simp only [World.frozen?, hg, Bool.and_eq_false_iff, decide_eq_false_iff_not]
      simp only at this
      omega
    have hst : (store ((⟨g, o, none⟩ : Addr).add i) v).run P w = .ok () (w.setRow g (cur.setIfInBounds (o + i) v)) := by
      rw [hadd, run_store P w _ v _ (h1 v (by simp)), hcell]
      simp [hfro, setCell_eq_setRow w g (o + i) cur t fz v hg]
    have ih := run_storeCells_atM P g o t fz rest (i + 1) (cur.setIfInBounds (o + i) v) (w.setRow g (cur.setIfInBounds (o + i) v)) (setRow_heap w g cur _ t _ hg) (by simpa using hfz) (by simp at hl ⊢; omega) (fun x hx => h1 x (by simp [hx]))
    simp only [storeCells, Sem.run_bind, hst, Result.andThen_ok, ih, setRow_setRow]
    congr 3
    have e := list_seg_step cur.toList (o + i) v rest (by simp at hl ⊢; omega)
    simpa [Array.toList_setIfInBounds, Nat.add_assoc] using e
/-- The block b' is b, or a new one. -/
def Fresh (W : World) (b b' : Option Nat) : Prop := b' = b ∨ ∃ k, b' = some k ∧ W.heap.size ≤ k
theorem Fresh.refl (W : World) (b : Option Nat) : Fresh W b b := .inl rfl
section
variable {P : Program} (w : World)
theorem run_append_ownR (base : Nat) (t u ty e : TypeId) (i : TypeInfo) (ht : P.underlying t = some (.slice e)) (hu : P.underlying u = some .string) (hi : P.info? e = some i) (hz : i.zero = some (.int .u8 0))
    (hsize : i.size = 1) (hby : i.bytes = 1)
    (v : Value) (n : Nat) (xs : List Value) (hown : OwnR w base e v n xs) (s : ByteArray)
    (h63 : n + s.size ≤ maxLen) (hbytes : n + s.size ≤ 140737488355328) (hbase : base ≤ w.heap.size) :
    ∃ v' w', (Builtin.append_ #[t, u] ty #[v, .string s]).run P w = .ok v' w' ∧ OwnR w' base e v' (n + s.size) (xs ++ strCells s) ∧ w.grownBy w' v.ownBlock ∧ Fresh w v.ownBlock v'.ownBlock := by
  have hxl : xs.length = n := hown.1
  rcases hown.2 with ⟨rfl, rfl⟩ | ⟨g, cap, cur, fz, rfl, hbg, hg, hf, hnc, hcm, hcs, htake⟩
  · have hx : xs = [] := List.eq_nil_of_length_eq_zero hxl
    subst hx
    obtain ⟨v', w', hr, ho, hgr, hn⟩ := run_append_own_string (P := P) w w.heap.size t u ty e i ht hu hi hz hsize hby _ 0 [] (World.ownsRow_nil w _ e 1) s h63 hbytes (Nat.le_refl _)
    refine ⟨v', w', hr, ?_, hgr, ?_⟩
    · have := OwnR.of ho
      refine ⟨this.1, ?_⟩
      rcases this.2 with hn | ⟨g, cap, cur, fz, rfl, hb, hgg, rest⟩
      · exact .inl hn
      · exact .inr ⟨g, cap, cur, fz, rfl, by omega, hgg, rest⟩
    · cases hv : v'.ownBlock with
      | none => exact .inl rfl
      | some k => exact .inr ⟨k, rfl, (ho.lt k hv).1⟩
  · have hlen : (xs ++ strCells s).length = n + s.size := by rw [List.length_append, hxl, strCells_length]
    by_cases hroom : n + s.size ≤ cap
    · have hst := run_storeCells_atM P g n e fz (strCells s) 0 cur w hg (by rw [hcs]; exact hf) (by rw [strCells_length, hcs]; omega) (strCells_oneCell s)
      have hf1 := run_firstCells_string (P := P) w 1 s
      simp only [Nat.add_zero, strCells_length] at hst
      have hr : (Builtin.append_ #[t, u] ty #[.slice (some ⟨g, 0, none⟩) n cap, .string s]).run P w =
          .ok (.slice (some ⟨g, 0, none⟩) (n + s.size) cap) (w.setRow g (cur.toList.take n ++ strCells s ++ cur.toList.drop (n + s.size)).toArray) := by
        simp [Builtin.append_, run_underlying ht, run_underlying hu, sizeOf, typeInfo, hi, hsize, Builtin.lenOf, hroom, hf1, Addr.add_lit, hst]
      refine ⟨_, _, hr, ⟨hlen, .inr ⟨g, cap, _, fz, rfl, hbg, setRow_heap w g cur _ e _ hg, hf, hroom, hcm, ?_, ?_⟩⟩, ⟨rfl, rfl, rfl, by simp, fun k _ hk => setRow_other w g k _ (fun e => hk (by simp [Value.ownBlock, e]))⟩, .inl rfl⟩
      · simp only [List.size_toArray, List.length_append, List.length_take, List.length_drop, Array.length_toList, strCells_length]
        omega
      · rw [htake, ← hlen]
        exact List.take_left
    · have hcells : ∀ j u, xs[j]? = some u → w.cell? ((⟨g, 0, none⟩ : Addr).add j) = some u := hown.cells (g := g) rfl
      have hsmall : n + s.size ≤ 9223372036854775807 := by simp only [maxLen] at h63; omega
      have hr := run_append_grow_string (P := P) w t u ty e i (.int .u8 0) ht hu hi hz ⟨g, 0, none⟩ n cap xs (by rw [hsize]; simpa using hxl) hcells s (by omega) (by omega) (by rw [hby]; exact growslice_fits (by omega) (by omega))
      have hge := grownCap_ge w (n + s.size) cap e
      have hcm : grownCap w (n + s.size) cap e ≤ maxLen := grownCap_le_maxLen w (n + s.size) cap e h63
      refine ⟨_, _, hr, ⟨hlen, .inr ⟨w.heap.size, _, _, (0, 0), rfl, hbase, heap_alloc_new w.drew _, fun j _ hh => by simp at hh, hge, hcm, ?_, ?_⟩⟩, ⟨rfl, rfl, rfl, by simp, fun k hk _ => heap_alloc_old w.drew _ hk⟩, .inr ⟨_, rfl, Nat.le_refl _⟩⟩
      · have hz1 : (Value.int IntKind.u8 0).cells.size = 1 := rfl
        simp only [Array.size_append, List.size_toArray, size_zeroCells, hz1, hxl, strCells_length]
        omega
      · simp only [Array.toList_append, List.append_assoc]
        rw [← List.append_assoc, ← hlen]
        exact List.take_left
theorem wpList_append_ownR {ops : Array Oper} {rest : List Oper} {o : Oper} {a : Act} {Q : Exit → Act → World → Prop} (hgd : o.guard = none) (sl x : Operand) (t u : TypeId)
    (ho : o.op = .call { callee := .builtin .append, args := #[sl, x], argTypes := #[t, u] })
    (base : Nat) (e : TypeId) (i : TypeInfo) (ht : P.underlying t = some (.slice e)) (hu : P.underlying u = some .string) (hi : P.info? e = some i) (hz : i.zero = some (.int .u8 0))
    (hsize : i.size = 1) (hby : i.bytes = 1)
    (v : Value) (n : Nat) (xs : List Value) (hs : a.eval sl = v) (hown : OwnR w base e v n xs) (s : ByteArray) (hx : a.eval x = .string s)
    (h63 : n + s.size ≤ maxLen) (hbytes : n + s.size ≤ 140737488355328) (hbase : base ≤ w.heap.size)
    (h : ∀ v' w', OwnR w' base e v' (n + s.size) (xs ++ strCells s) → w.grownBy w' v.ownBlock → Fresh w v.ownBlock v'.ownBlock → wpList P ops Q rest (a.put o.dst v') w') : wpList P ops Q (o :: rest) a w := by
  refine wpList_plain hgd fun K hK => ?_
  obtain ⟨v', w', hr, h2, h3, h4⟩ := run_append_ownR (P := P) w base t u o.type e i ht hu hi hz hsize hby v n xs hown s h63 hbytes hbase
  unfold Oper.wp execOp
  simp only [ho, resolve, invoke, builtin, Sem.run_bind, Sem.run_pure, Result.andThen_ok, List.map_toArray, List.map_cons, List.map_nil, hs, hx, hr]
  exact hK _ _ (h v' w' h2 h3 h4)
end
def byteV (b : UInt8) : Value := .int .u8 b.toNat
def bytesV (l : List UInt8) : List Value := l.map byteV
theorem bytesV_str (s : ByteArray) : Lib.strCells s = bytesV s.data.toList := rfl
/-- Nothing but the blocks g and b, and what is new, has turned. -/
structure Touch (W W' : World) (g : Nat) (b : Option Nat) : Prop where
  os : W'.os = W.os
  tape : W'.tape = W.tape
  output : W'.output = W.output
  size : W.heap.size ≤ W'.heap.size
  block : ∀ k, k < W.heap.size → k ≠ g → some k ≠ b → W'.heap[k]? = W.heap[k]?
theorem Touch.refl (W : World) (g : Nat) (b : Option Nat) : Touch W W g b := ⟨rfl, rfl, rfl, Nat.le_refl _, fun _ _ _ _ => rfl⟩
theorem Touch.trans {W W1 W2 : World} {g : Nat} {b b1 : Option Nat} (h : Touch W W1 g b) (f : Fresh W b b1) (h2 : Touch W1 W2 g b1) : Touch W W2 g b := by
  refine ⟨h2.os.trans h.os, h2.tape.trans h.tape, h2.output.trans h.output, Nat.le_trans h.size h2.size, fun k hk hg hb => ?_⟩
  refine (h2.block k (Nat.lt_of_lt_of_le hk h.size) hg ?_).trans (h.block k hk hg hb)
  rcases f with rfl | ⟨j, rfl, hj⟩
  · exact hb
  · intro e; injection e; omega
theorem Fresh.trans {W W1 W2 : World} {g : Nat} {b b1 b2 : Option Nat} (h : Touch W W1 g b) (f : Fresh W b b1) (f2 : Fresh W1 b1 b2) : Fresh W b b2 := by
  rcases f2 with rfl | ⟨j, rfl, hj⟩
  · exact f
  · exact .inr ⟨j, rfl, Nat.le_trans h.size hj⟩
theorem Touch.row {W W' : World} {g : Nat} {b : Option Nat} (h : Touch W W' g b) {k : Nat} {r : Array Value} (hr : row? W k = some r) (hg : k ≠ g) (hb : some k ≠ b) : row? W' k = some r := by
  unfold row? at *; rw [h.block k (row_lt hr) hg hb]; exact hr
theorem grown_cell (W : World) (g : Nat) (i : Nat) (u : Value) : Touch W (W.setCell ⟨g, i, none⟩ u) g none :=
  ⟨rfl, rfl, rfl, by simp, fun k _ hk _ => heap_setCell_other W ⟨g, i, none⟩ k u (fun e => hk e)⟩
theorem Touch.wide {W W' : World} {g : Nat} {b : Option Nat} (h : Touch W W' g none) : Touch W W' g b :=
  ⟨h.os, h.tape, h.output, h.size, fun k hk hg hb => h.block k hk hg (by simp)⟩
theorem Touch.own {W W' : World} {g : Nat} (h : Touch W W' g none) {base n : Nat} {e : TypeId} {v : Value} {xs : List Value} (ho : OwnR W base e v n xs) (hb : g < base) : OwnR W' base e v n xs :=
  ho.kept (row := some g) ⟨h.os, h.tape, h.output, h.size, fun k hk hk2 => h.block k hk (fun e => hk2 (by rw [e])) (by simp)⟩
    (.inr fun e => by have := ho.lt _ e; omega)
theorem Touch.drew {W W' : World} {g : Nat} {b : Option Nat} (h : Touch W W' g b) : Touch W W'.drew g b := ⟨h.os, h.tape, h.output, h.size, h.block⟩
theorem Below.touch {B : Nat} {w W W' : World} {g : Nat} {b : Option Nat} (h : Below B w W) (T : Touch W W' g b) (hg : B ≤ g) (hb : ∀ k, b = some k → B ≤ k) (hB : B ≤ W.heap.size) : Below B w W' :=
  h.trans ⟨T.os, T.tape, T.output, T.size, fun k hk => T.block k (by omega) (by omega) fun e => by have := hb k e.symm; omega⟩
end Go.Proofs.Ytpganpiidgkofaa
