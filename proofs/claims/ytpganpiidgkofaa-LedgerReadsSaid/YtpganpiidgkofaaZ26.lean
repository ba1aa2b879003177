/- Several texts in one. -/
import Derived.Test.YtpganpiidgkofaaZ3
import Derived.Laws.BitsAllLaws
/- Layer 8: a plate in memory, and what each call does to it. -/
namespace Go.Proofs.Ytpganpiidgkofaa
open Go.RowKit
/-- Block g is a plate: these bytes, so many safe; b: the block of its bytes. -/
def PL (W : World) (g : Nat) (b : Option Nat) (data : List UInt8) (safe : Nat) : Prop :=
  ∃ v, v.ownBlock = b ∧ row? W g = some #[v, .int .i64 safe] ∧ OwnR W (g + 1) 5 v data.length (bytesV data) ∧ safe ≤ data.length
theorem plate_info : (Try.prog.info? 5).map (fun i => (i.zero, i.size, i.bytes)) = some (some (.int .u8 0), 1, 1) := by kernel_rfl
set_option maxHeartbeats 1000000 in
theorem new_any (w : World) : Calls Try.prog 14 #[] w fun e w' => e = .returned (.pointer (some ⟨w.heap.size, 0, none⟩)) ∧ PL w' w.heap.size none [] 0 ∧ Below w.heap.size w w' ∧ w'.heap.size = w.heap.size + 1 := by
  go_enter Try.func14, Try.ntmps14
  go_wp2
  go_ret
  refine ⟨rfl, ⟨.slice none 0 0, rfl, ?_, ?_, Nat.le_refl _⟩, (Below.refl _ _).alloc (Nat.le_refl _) _, by simp⟩
  · rw [row_alloc, if_pos rfl]; rfl
  · exact OwnR.nil _ _ _
section
variable {W : World} {g : Nat} {b : Option Nat} {data : List UInt8} {safe : Nat}
set_option maxHeartbeats 1000000 in
theorem len_any (h : PL W g b data safe) : Calls Try.prog 17 #[.pointer (some ⟨g, 0, none⟩)] W fun e w' => e = .returned (.int .i64 data.length) ∧ W = w' := by
  obtain ⟨v, hv, hr, ho, hs⟩ := h
  have hc := row_cell hr
  have hf : ∃ A c, v = .slice A data.length c := by
    rcases ho.2 with ⟨rfl, h0⟩ | ⟨g', cap, cur, fz, rfl, _⟩
    · exact ⟨none, 0, by rw [h0]⟩
    · exact ⟨_, _, rfl⟩
  obtain ⟨A, c, rfl⟩ := hf
  clear ho hr hv
  go_enter Try.func17, Try.ntmps17
  go_wp2
  go_ret
  exact ⟨rfl, rfl⟩
end
end Go.Proofs.Ytpganpiidgkofaa
/- Layer 8: Sync, Read, and Append of a row of texts. -/
namespace Go.Proofs.Ytpganpiidgkofaa
open Go.RowKit
set_option linter.unusedVariables false
attribute [local go_sem] row_alloc row_drew row_drewN row_ext row_setCell row_setRow size_ext setRow_alloc setRow_drew
attribute [local go_sem high] cell_alloc frozen_alloc setCell_alloc cell_ext frozen_ext
def cat (l : List ByteArray) : List UInt8 := l.flatMap fun s => s.data.toList
theorem cat_succ (l : List ByteArray) (k : Nat) (h : k < l.length) : cat (l.take (k + 1)) = cat (l.take k) ++ l[k].data.toList := by
  unfold cat; rw [List.take_succ_eq_append_getElem h, List.flatMap_append]; simp
theorem cat_le (l : List ByteArray) (k : Nat) : (cat (l.take k)).length ≤ (cat l).length := by
  conv => rhs; rw [← List.take_append_drop k l]
  unfold cat; rw [List.flatMap_append, List.length_append]; omega
theorem PL.len {W : World} {g : Nat} {b : Option Nat} {data : List UInt8} {safe : Nat} (h : PL W g b data safe) : ∃ A c, row? W g = some #[.slice A data.length c, .int .i64 safe] := by
  obtain ⟨v, hv, hr, ho, hs⟩ := h
  rcases ho.2 with ⟨rfl, h0⟩ | ⟨g', cap, cur, fz, rfl, _⟩
  · exact ⟨none, 0, by rw [h0]; exact hr⟩
  · exact ⟨_, _, hr⟩
theorem PL.lt {W : World} {g : Nat} {b : Option Nat} {data : List UInt8} {safe : Nat} (h : PL W g b data safe) : g < W.heap.size := by
  obtain ⟨v, hv, hr, ho, hs⟩ := h; exact row_lt hr
theorem PL.blk {W : World} {g : Nat} {b : Option Nat} {data : List UInt8} {safe : Nat} (h : PL W g b data safe) {k : Nat} (hk : b = some k) : g < k ∧ k < W.heap.size := by
  obtain ⟨v, hv, hr, ho, hs⟩ := h
  have := ho.lt k (hv.trans hk); omega
section
variable {W : World} {g : Nat} {b : Option Nat} {data : List UInt8} {safe : Nat}
set_option maxHeartbeats 1000000 in
theorem read_any (h : PL W g b data safe) : Calls Try.prog 50 #[.pointer (some ⟨g, 0, none⟩)] W fun e w' => e = .returned (.string ⟨data.toArray⟩) ∧ W = w' := by
  obtain ⟨v, hv, hr, ho, hs⟩ := h
  have hc := row_cell hr
  have hcv : (convert 98 9 v).run Try.prog W = .ok (.string ⟨data.toArray⟩) W := by
    rcases ho.2 with ⟨rfl, h0⟩ | ⟨g', cap, cur, fz, rfl, hg', _⟩
    · have : data = [] := List.eq_nil_of_length_eq_zero h0
      subst this
      exact run_convert_bytes_nil W _ _ Try.underlying98 Try.underlying5 0 0 _ Try.underlying9
    · refine run_convert_bytes_back W _ _ _ _ _ data Try.underlying98 Try.underlying5 Try.underlying9 fun j hj => ?_
      refine OwnR.cells ho (g := g') rfl j _ ?_
      simp [bytesV, byteV, List.getElem?_eq_getElem hj]
  clear ho hr hv
  go_enter Try.func50, Try.ntmps50
  go_wp2
  go_ret
  exact ⟨rfl, rfl⟩
set_option maxHeartbeats 1000000 in
theorem sync_any (h : PL W g b data safe) : Calls Try.prog 68 #[.pointer (some ⟨g, 0, none⟩)] W fun e w' => e = .returned (.int .i64 0) ∧ PL w' g b data data.length ∧ Touch W w' g none ∧ w'.heap.size = W.heap.size := by
  have h0 := h
  obtain ⟨A, c, hr⟩ := h.len
  have hc := row_cell hr
  have hf := row_frozen hr
  have hlt := row_lt hr
  obtain ⟨v, hv, hr1, ho, hs⟩ := h0
  obtain rfl : Value.slice A data.length c = v := by rw [hr] at hr1; injection hr1 with e; injection e with e; injection e
  have Hr := Lib.hid hr; have Ho := Lib.hid ho; clear hr hr1 ho
  go_enter Try.func68, Try.ntmps68
  go_wp2
  go_ret
  refine ⟨rfl, ⟨_, hv, ?_, (grown_cell _ _ _ _).own Ho.out (by omega), Nat.le_refl _⟩, grown_cell _ _ _ _, by simp [World.setCell]⟩
  rw [row_setCell, if_pos rfl, Hr.out]; rfl
end
end Go.Proofs.Ytpganpiidgkofaa
/- Layer 8: Append of a row of texts. -/
namespace Go.Proofs.Ytpganpiidgkofaa
open Go.RowKit
set_option linter.unusedVariables false
attribute [local go_sem] row_alloc row_drew row_drewN row_ext row_setCell row_setRow size_ext setRow_alloc setRow_drew
attribute [local go_sem high] cell_alloc frozen_alloc setCell_alloc cell_ext frozen_ext
theorem u8_info : ∃ i, Try.prog.info? 5 = some i ∧ i.zero = some (.int .u8 0) ∧ i.size = 1 ∧ i.bytes = 1 := by
  have h := plate_info
  cases hi : Try.prog.info? 5 with
  | none => rw [hi] at h; simp at h
  | some i => rw [hi] at h; simp at h; exact ⟨i, rfl, h.1, h.2.1, h.2.2⟩
/-- The slice x holds these texts, in no block of the plate's. -/
structure Texts (W : World) (g : Nat) (b : Option Nat) (A : Option Addr) (l : List ByteArray) : Prop where
  nil : A = none → l = []
  cell : ∀ a, A = some a → ∀ j (h : j < l.length), W.cell? (a.add j) = some (.string l[j])
  apart : ∀ a, A = some a → l ≠ [] → a.block ≠ g ∧ some a.block ≠ b
theorem Texts.turned {W W' : World} {g : Nat} {b : Option Nat} {A : Option Addr} {l : List ByteArray} (h : Texts W g b A l) (T : Touch W W' g b) {a : Addr} (hA : A = some a) {j : Nat} (hj : j < l.length) : W'.cell? (a.add j) = some (.string l[j]) := by
  have hc := h.cell a hA j hj
  have hne : l ≠ [] := by intro e; subst e; simp at hj
  have hap := h.apart a hA hne
  have hbl : (a.add j).block = a.block := by unfold Addr.add; split <;> rfl
  rw [World.cell?_of_block (w := W) (T.block _ ?_ ?_ ?_)]
  · exact hc
  · exact World.block_lt_of_cell? W _ hc
  · rw [hbl]; exact hap.1
  · rw [hbl]; exact hap.2
section
variable {W : World} {g : Nat} {b : Option Nat} {data : List UInt8} {safe : Nat}
set_option maxHeartbeats 2000000 in
theorem append_any (h : PL W g b data safe) (A : Option Addr) (l : List ByteArray) (c : Nat) (hx : Texts W g b A l) (hl : l.length ≤ 1000000) (hd : data.length ≤ 65536) (hc : (cat l).length ≤ 1000000000) :
    Calls Try.prog 23 #[.pointer (some ⟨g, 0, none⟩), .slice A l.length c] W fun e w' =>
      (if data.length + (cat l).length ≤ 65536 then e = .returned (.int .i64 0) ∧ ∃ b', PL w' g b' (data ++ cat l) safe ∧ Touch W w' g b ∧ Fresh W b b' else e = .returned (.int .i64 6) ∧ W = w') := by
  have h0 := h
  obtain ⟨A0, c0, hr⟩ := h.len
  have hcl := row_cell hr
  have hlt := row_lt hr
  have Hr := Lib.hid hr; clear hr
  go_enter Try.func23, Try.ntmps23
  go_wp2
  go_loop [5, 19] (fun n i => ∃ k : Nat, k ≤ l.length ∧ i = .int .i64 k ∧ n = .int .i64 (data.length + (cat (l.take k)).length)) (fun _ i => l.length - (intOf i).toNat)
  case atStart => exact ⟨0, by omega, rfl, by simp [cat]⟩
  case round =>
    obtain ⟨k, hk, rfl, rfl⟩ := hrel
    by_cases hkl : k < l.length
    · cases A with
      | none => have := hx.nil rfl; subst this; simp at hkl
      | some a =>
        have hcell := hx.cell a rfl k hkl
        have hsz : l[k].data.toList.length = l[k].size := by rw [Array.length_toList]; rfl
        have hs := cat_succ l k hkl
        have hle := cat_le l (k + 1)
        rw [hs, List.length_append, hsz] at hle
        have hs2 : (cat (l.take (k + 1))).length = (cat (l.take k)).length + l[k].size := by rw [hs, List.length_append, hsz]
        have Hs := Lib.hid hs2; clear hs2 hs hsz
        generalize l[k] = s at *
        generalize (cat (l.take k)).length = m at *
        go_wp2
        go_round
        case rel => exact ⟨k + 1, by omega, by go_num, by rw [Hs.out]; congr 1; omega⟩
        case measure => simp [intOf]; omega
    · obtain rfl : k = l.length := by omega
      rw [List.take_length]
      have hcs : (cat (l.take l.length)).length = (cat l).length := by rw [List.take_length]
      go_wp2
      · have : ¬ data.length + (cat l).length ≤ 65536 := by omega
        go_ret
        exact ⟨rfl, rfl⟩
      · have hle : data.length + (cat l).length ≤ 65536 := by omega
        go_loopw [32] (fun c wr => ∃ (k : Nat) (b' : Option Nat), k ≤ l.length ∧ c = .int .i64 k ∧ PL wr g b' (data ++ cat (l.take k)) safe ∧ Touch W wr g b ∧ Fresh W b b') (fun c _ => l.length - (intOf c).toNat)
        case atStart => exact ⟨0, b, by omega, rfl, by simpa [cat] using h0, Touch.refl _ _ _, Fresh.refl _ _⟩
        case round =>
          obtain ⟨k, b', hk, rfl, hp, hT, hF⟩ := hrel
          by_cases hkl : k < l.length
          · cases A with
            | none => have := hx.nil rfl; subst this; simp at hkl
            | some a =>
              have hcell := hx.turned hT rfl hkl
              have hsz : l[k].data.toList.length = l[k].size := by rw [Array.length_toList]; rfl
              have hs := cat_succ l k hkl
              have hle2 := cat_le l (k + 1)
              rw [hs, List.length_append, hsz] at hle2
              obtain ⟨v, hv, hr, ho, hsf⟩ := hp
              have hlt2 := row_lt hr
              have hcl2 := row_cell hr
              have hfr2 := row_frozen hr
              obtain ⟨i0, hi, hz0, hz1, hz2⟩ := u8_info
              have Hs := Lib.hid hs; clear hs hsz
              have Hr2 := Lib.hid hr; clear hr
              have HT := Lib.hid hT; clear hT
              have HF := Lib.hid hF; clear hF
              have Hv := Lib.hid hv; clear hv
              clear hcl hx
              generalize l[k] = s at *
              generalize cat (l.take k) = m at *
              have hbd : (data ++ m).length + s.size ≤ 65536 := by rw [List.length_append]; omega
              clear h0 h
              go_wp2_with (at_builtin; refine wpList_append_ownR _ rfl _ _ 98 9 rfl (g + 1) 5 i0 Try.underlying98 Try.underlying9 hi hz0 hz1 hz2 _ _ _ rfl ho s rfl ?c3 ?c4 ?c5 ?_)
              case c3 => unfold maxLen; omega
              case c4 => omega
              case c5 => omega
              intro v' w1 ho' hg' hn'
              have hgb : some g ≠ v.ownBlock := fun e => by have := ho.lt g e.symm; omega
              have hr1 : row? w1 g = some #[v, .int .i64 safe] := by
                have := Hr2.out; unfold row? at *; rw [hg'.block g hlt2 hgb]; exact this
              have hfr1 := row_frozen hr1
              have hcl1 := row_cell hr1
              have Hlt1 := Lib.hid (row_lt hr1)
              have Hr1 := Lib.hid hr1; clear hr1
              obtain ⟨A', c', rfl⟩ := ho'.shape
              have HO := Lib.hid ho'; clear ho'
              have HG := Lib.hid hg'; clear hg'
              have HN := Lib.hid hn'; clear hn'
              have HB := Lib.hid hgb; clear hgb
              have Ho := Lib.hid ho; clear ho
              clear hcl2 hfr2 hcell
              go_wp2
              go_roundw
              case rel =>
                have T1 : Touch wr w1 g b' := ⟨HG.out.os, HG.out.tape, HG.out.output, HG.out.size, fun k hk _ hb => HG.out.block k hk (by rw [Hv.out]; exact hb)⟩
                have T2 : Touch w1 (w1.setCell ⟨g, 0, none⟩ (.slice A' (data.length + m.length + s.size) c')) g none := grown_cell _ _ _ _
                have F2 := HN.out
                rw [Hv.out] at F2
                have eb : ∀ n c, (Value.slice A' n c).ownBlock = (Value.slice A' 0 0).ownBlock := by cases A' <;> intros <;> rfl
                rw [eb] at F2
                refine ⟨k + 1, (Value.slice A' 0 0).ownBlock, by omega, by go_num, ⟨.slice A' (data.length + m.length + s.size) c', eb _ _, ?_, ?_, ?_⟩, ?_, ?_⟩
                · rw [row_setCell, if_pos rfl, Hr1.out]; rfl
                · have e1 : bytesV (data ++ m) ++ Lib.strCells s = bytesV (data ++ cat (l.take (k + 1))) := by
                    rw [Hs.out, bytesV_str]; simp [bytesV]
                  have e2 : data.length + m.length + s.size = (data ++ cat (l.take (k + 1))).length := by
                    rw [Hs.out, List.length_append, List.length_append, ← Nat.add_assoc]; rfl
                  have := T2.own HO.out (by omega)
                  rw [e1] at this
                  rw [← e2]; exact this
                · rw [Hs.out, ← List.append_assoc, List.length_append]; omega
                · exact HT.out.trans HF.out (T1.trans (.refl _ _) T2.wide)
                · exact Fresh.trans (W2 := w1) HT.out HF.out F2
              case measure => simp [intOf]; omega
          · obtain rfl : k = l.length := by omega
            rw [List.take_length] at hp
            have HP := Lib.hid hp; clear hp
            go_wp2
            go_ret
            exact ⟨rfl, b', HP.out, hT, hF⟩
end
end Go.Proofs.Ytpganpiidgkofaa
/- Layer 8: Lose. -/
namespace Go.Proofs.Ytpganpiidgkofaa
open Go.RowKit
set_option linter.unusedVariables false
attribute [local go_sem] row_alloc row_drew row_drewN row_ext row_setCell row_setRow size_ext setRow_alloc setRow_drew
attribute [local go_sem high] cell_alloc frozen_alloc setCell_alloc cell_ext frozen_ext
def keptN (n safe : Nat) (keep : Int) : Nat := (min (max keep 0) ((n : Int) - safe)).toNat
def lost (data : List UInt8) (safe : Nat) (keep : Int) (spoil : UInt8) : List UInt8 :=
  let k := keptN data.length safe keep
  let d := data.take (safe + k)
  if k = 0 then d else d.set (safe + k - 1) (d.getD (safe + k - 1) 0 ^^^ spoil)
theorem kept_int (n safe : Nat) (keep : Int) (h : safe ≤ n) : (if (n : Int) - safe < if keep < 0 then 0 else keep then (n : Int) - safe else if keep < 0 then 0 else keep) = (keptN n safe keep : Int) := by
  unfold keptN; split <;> split at * <;> omega
theorem kept_le (n safe : Nat) (keep : Int) (h : safe ≤ n) : safe + keptN n safe keep ≤ n := by unfold keptN; omega
section
variable {W : World} {g : Nat} {b : Option Nat} {data : List UInt8} {safe : Nat}
set_option maxHeartbeats 2000000 in
theorem lose_any (h : PL W g b data safe) (hd : data.length ≤ 65536) (keep : Int) (hk : -9223372036854775808 ≤ keep ∧ keep ≤ 9223372036854775807) (spoil : UInt8) :
    Calls Try.prog 28 #[.pointer (some ⟨g, 0, none⟩), .int .i64 keep, .int .u8 spoil.toNat] W fun e w' =>
      e = .returned (.int .i64 0) ∧ PL w' g b (lost data safe keep spoil) (lost data safe keep spoil).length ∧ Touch W w' g b ∧ w'.heap.size = W.heap.size := by
  obtain ⟨v, hv, hr, ho, hs⟩ := h
  obtain ⟨A, c, rfl, hc, ho2⟩ := ho.cut (safe + keptN data.length safe keep) (kept_le _ _ _ hs)
  have hcl := row_cell hr
  have hfr := row_frozen hr
  have hki := kept_int data.length safe keep hs
  have hkl := kept_le data.length safe keep hs
  have Hr := Lib.hid hr; clear hr
  have Ho := Lib.hid ho; clear ho
  have Ho2 := Lib.hid ho2; clear ho2
  have Hki := Lib.hid hki; clear hki
  generalize hkk : keptN data.length safe keep = k at *
  go_enter Try.func28, Try.ntmps28
  go_wp2
  go_region
  rw [Hki.out]
  generalize (if keep < 0 then (0 : Int) else keep) = kk
  simp only [Exit.then]
  go_wp2
  go_region
  simp only [Exit.then]
  generalize hW1 : (W.setCell ⟨g, 0, none⟩ (.slice A (safe + k) c)).drew.drew = W1
  have T1 : Touch W W1 g none := by
    subst hW1; exact (grown_cell W g 0 _).drew.drew
  have hr1 : row? W1 g = some #[.slice A (safe + k) c, .int .i64 safe] := by
    subst hW1; rw [row_drew, row_drew, row_setCell, if_pos rfl, Hr.out]; rfl
  have hsz1 : W1.heap.size = W.heap.size := by subst hW1; simp [World.setCell, World.drew]
  have ho1 := T1.own Ho2.out (by omega)
  clear hW1 Ho Ho2 Hr hcl hfr
  have hcl := row_cell hr1
  have hfr := row_frozen hr1
  have Hr := Lib.hid hr1; clear hr1
  have eb : ∀ n c, (Value.slice A n c).ownBlock = (Value.slice A data.length c).ownBlock := by cases A <;> intros <;> rfl
  by_cases h0 : k = 0
  · subst h0
    have hlo : lost data safe keep spoil = data.take safe := by unfold lost; rw [hkk]; simp
    have Ho := Lib.hid ho1; clear ho1
    have Hlo := Lib.hid hlo; clear hlo
    simp only [Nat.add_zero] at Ho Hr hcl hfr hkl
    go_wp2
    go_ret
    have e1 : (data.take safe).length = safe := by rw [List.length_take]; omega
    rw [Hlo.out, e1]
    refine ⟨rfl, ⟨.slice A safe c, (eb _ _).trans hv, ?_, ?_, ?_⟩, (T1.trans (.refl _ _) (grown_cell _ _ _ _)).wide, ?_⟩
    · rw [row_setCell, if_pos rfl, Hr.out]
      show some _ = _
      simp
    · rw [e1]
      have := (grown_cell W1 g 1 (.int .i64 safe)).own Ho.out (by omega)
      simpa [bytesV] using this
    · rw [e1]; exact Nat.le_refl _
    · simpa [World.setCell] using hsz1
  · obtain ⟨g', rfl, hg'⟩ : ∃ g', A = some ⟨g', 0, none⟩ ∧ g + 1 ≤ g' := by
      rcases ho1.2 with ⟨e, h1⟩ | ⟨g', cap, cur, fz, e, hb, _⟩
      · omega
      · injection e with e1 e2 e3; exact ⟨g', e1, hb⟩
    have hcc : W1.cell? ⟨g', safe + k - 1, none⟩ = some (byteV (data.getD (safe + k - 1) 0)) := by
      rw [ho1.cellAt _ (by omega), List.getElem?_take, if_pos (by omega), bytesV, List.getElem?_map, List.getElem?_eq_getElem (by omega)]
      simp [List.getD, List.getElem?_eq_getElem (show safe + k - 1 < data.length by omega)]
    have hff : W1.frozen? ⟨g', safe + k - 1, none⟩ = false := ho1.frozenAt _ (by omega)
    have hlo : lost data safe keep spoil = (data.take (safe + k)).set (safe + k - 1) (data.getD (safe + k - 1) 0 ^^^ spoil) := by
      unfold lost; rw [hkk]; simp only [if_neg h0]
      congr 2
      simp only [List.getD, List.getElem?_take, if_pos (show safe + k - 1 < safe + k by omega)]
    obtain ⟨q, hq⟩ : ∃ q, safe + k = q + 1 := ⟨safe + k - 1, by omega⟩
    rw [hq] at Hr hcl hcc hff ho1 hlo hkl
    rw [hq]
    have hkpos : (0 : Int) < (k : Int) := by omega
    simp only [Nat.add_sub_cancel] at hcc hff hlo
    generalize data.getD q 0 = x at *
    have Hlo := Lib.hid hlo; clear hlo
    have Ho := Lib.hid ho1; clear ho1
    have Eb := Lib.hid eb; clear eb
    have Hv := Lib.hid hv; clear hv
    have HT := Lib.hid T1; clear T1
    unfold byteV at hcc
    have hq2 : q < 65536 := by omega
    clear hc hkk
    go_wp2
    go_region
    simp only [Exit.then]
    rw [show bits .xor .u8 (x.toNat : Int) (spoil.toNat : Int) = ((x ^^^ spoil).toNat : Int) from by
      rw [u8_xor_nat _ _ x.toNat_lt spoil.toNat_lt]; simp]
    generalize x ^^^ spoil = y at *
    generalize hW2 : (W1.setCell ⟨g', q, none⟩ (.int .u8 y.toNat)).drew = W2
    have T2 : Touch W1 W2 g' none := by subst hW2; exact (grown_cell W1 g' q _).drew
    have ho2 : OwnR W2 (g + 1) 5 (.slice (some ⟨g', 0, none⟩) (q + 1) c) (q + 1) (((bytesV data).take (q + 1)).set q (byteV y)) := by
      subst hW2; exact Ho.out.stored q (byteV y)
    have hr2 : row? W2 g = some #[.slice (some ⟨g', 0, none⟩) (q + 1) c, .int .i64 safe] := T2.row Hr.out (by omega) (by simp)
    have hsz2 : W2.heap.size = W1.heap.size := by subst hW2; simp [World.setCell, World.drew]
    clear hW2 hcc hff hcl hfr Ho Hr
    have hcl := row_cell hr2
    have hfr := row_frozen hr2
    have Hr := Lib.hid hr2; clear hr2
    have Ho := Lib.hid ho2; clear ho2
    have HT2 := Lib.hid T2; clear T2
    go_wp2
    go_ret
    obtain rfl : some g' = b := Hv.out
    have T3 := grown_cell W2 g 1 (.int .i64 (↑q + 1))
    have e1 : (lost data safe keep spoil).length = q + 1 := by rw [Hlo.out, List.length_set, List.length_take]; omega
    have eT : Touch W (W2.setCell ⟨g, 1, none⟩ (.int .i64 (↑q + 1))) g (some g') := by
      have A := HT.out; have B := HT2.out
      refine ⟨(T3.os.trans B.os).trans A.os, (T3.tape.trans B.tape).trans A.tape, (T3.output.trans B.output).trans A.output, ?_, fun j hj hg1 hb1 => ?_⟩
      · have := A.size; have := B.size; have := T3.size; omega
      · have h1 := A.block j hj hg1 (by simp)
        have h2 := B.block j (by omega) (fun e => hb1 (by rw [e])) (by simp)
        have h3 := T3.block j (by omega) hg1 (by simp)
        exact (h3.trans h2).trans h1
    refine ⟨rfl, ⟨.slice (some ⟨g', 0, none⟩) (q + 1) c, rfl, ?_, ?_, ?_⟩, eT, ?_⟩
    · rw [row_setCell, if_pos rfl, Hr.out, e1]
      show some _ = _
      simp
    · rw [e1]
      have := T3.own Ho.out (by omega)
      rw [Hlo.out]
      have e2 : bytesV ((data.take (q + 1)).set q y) = ((bytesV data).take (q + 1)).set q (byteV y) := by
        unfold bytesV; rw [List.map_set, List.map_take]
      rw [e2]; exact this
    · rw [e1]; exact Nat.le_refl _
    · show _ = _
      have : (W2.setCell ⟨g, 1, none⟩ (.int .i64 (↑q + 1))).heap.size = W2.heap.size := by simp [World.setCell]
      omega
end
end Go.Proofs.Ytpganpiidgkofaa
