/- Layer 8: Append of a row of texts. -/
import Derived.Test.YtdemkcfajeoaiaaPlateA
namespace Go.Proofs.Ytdemkcfajeoaiaa
open Go.RowKit
set_option linter.unusedVariables false
attribute [local go_sem] row_alloc row_drew row_drewN row_ext row_setCell row_setRow size_ext setRow_alloc setRow_drew
attribute [local go_sem high] cell_alloc frozen_alloc setCell_alloc cell_ext frozen_ext
theorem u8_info : ∃ i, Try.prog.info? 5 = some i ∧ i.zero = some (.int .u8 0) ∧ i.size = 1 ∧ i.bytes = 1 := by
  have h := plate_info
  cases hi : Try.prog.info? 5 with
  | none => rw [hi] at h; simp at h
  | some i => rw [hi] at h; simp at h; exact ⟨i, rfl, h.1, h.2.1, h.2.2⟩
/-- The slice x holds these texts, in no block of the plate's. -/
structure Texts (W : World) (g : Nat) (b : Option Nat) (A : Option Addr) (l : List ByteArray) : Prop where
  nil : A = none → l = []
  cell : ∀ a, A = some a → ∀ j (h : j < l.length), W.cell? (a.add j) = some (.string l[j])
  apart : ∀ a, A = some a → l ≠ [] → a.block ≠ g ∧ some a.block ≠ b
theorem Texts.turned {W W' : World} {g : Nat} {b : Option Nat} {A : Option Addr} {l : List ByteArray} (h : Texts W g b A l) (T : Touch W W' g b) {a : Addr} (hA : A = some a) {j : Nat} (hj : j < l.length) : W'.cell? (a.add j) = some (.string l[j]) := by
  have hc := h.cell a hA j hj
  have hne : l ≠ [] := by intro e; subst e; simp at hj
  have hap := h.apart a hA hne
  have hbl : (a.add j).block = a.block := by unfold Addr.add; split <;> rfl
  rw [World.cell?_of_block (w := W) (T.block _ ?_ ?_ ?_)]
  · exact hc
  · exact World.block_lt_of_cell? W _ hc
  · rw [hbl]; exact hap.1
  · rw [hbl]; exact hap.2
section
variable {W : World} {g : Nat} {b : Option Nat} {data : List UInt8} {safe : Nat}
set_option maxHeartbeats 2000000 in
theorem append_any (h : PL W g b data safe) (A : Option Addr) (l : List ByteArray) (c : Nat) (hx : Texts W g b A l) (hl : l.length ≤ 1000000) (hd : data.length ≤ 65536) (hc : (cat l).length ≤ 1000000000) :
    Calls Try.prog 9 #[.pointer (some ⟨g, 0, none⟩), .slice A l.length c] W fun e w' =>
      (if data.length + (cat l).length ≤ 65536 then e = .returned (.int .i64 0) ∧ ∃ b', PL w' g b' (data ++ cat l) safe ∧ Touch W w' g b ∧ Fresh W b b' else e = .returned (.int .i64 6) ∧ W = w') := by
  have h0 := h
  obtain ⟨A0, c0, hr⟩ := h.len
  have hcl := row_cell hr
  have hlt := row_lt hr
  have Hr := Lib.hid hr; clear hr
  go_enter Try.func9, Try.ntmps9
  go_wp2
  go_loop [5, 19] (fun n i => ∃ k : Nat, k ≤ l.length ∧ i = .int .i64 k ∧ n = .int .i64 (data.length + (cat (l.take k)).length)) (fun _ i => l.length - (intOf i).toNat)
  case atStart => exact ⟨0, by omega, rfl, by simp [cat]⟩
  case round =>
    obtain ⟨k, hk, rfl, rfl⟩ := hrel
    by_cases hkl : k < l.length
    · cases A with
      | none => have := hx.nil rfl; subst this; simp at hkl
      | some a =>
        have hcell := hx.cell a rfl k hkl
        have hsz : l[k].data.toList.length = l[k].size := by rw [Array.length_toList]; rfl
        have hs := cat_succ l k hkl
        have hle := cat_le l (k + 1)
        rw [hs, List.length_append, hsz] at hle
        have hs2 : (cat (l.take (k + 1))).length = (cat (l.take k)).length + l[k].size := by rw [hs, List.length_append, hsz]
        have Hs := Lib.hid hs2; clear hs2 hs hsz
        generalize l[k] = s at *
        generalize (cat (l.take k)).length = m at *
        go_wp2
        go_round
        case rel => exact ⟨k + 1, by omega, by go_num, by rw [Hs.out]; congr 1; omega⟩
        case measure => simp [intOf]; omega
    · obtain rfl : k = l.length := by omega
      rw [List.take_length]
      have hcs : (cat (l.take l.length)).length = (cat l).length := by rw [List.take_length]
      go_wp2
      · have : ¬ data.length + (cat l).length ≤ 65536 := by omega
        go_ret
        exact ⟨rfl, rfl⟩
      · have hle : data.length + (cat l).length ≤ 65536 := by omega
        go_loopw [32] (fun c wr => ∃ (k : Nat) (b' : Option Nat), k ≤ l.length ∧ c = .int .i64 k ∧ PL wr g b' (data ++ cat (l.take k)) safe ∧ Touch W wr g b ∧ Fresh W b b') (fun c _ => l.length - (intOf c).toNat)
        case atStart => exact ⟨0, b, by omega, rfl, by simpa [cat] using h0, Touch.refl _ _ _, Fresh.refl _ _⟩
        case round =>
          obtain ⟨k, b', hk, rfl, hp, hT, hF⟩ := hrel
          by_cases hkl : k < l.length
          · cases A with
            | none => have := hx.nil rfl; subst this; simp at hkl
            | some a =>
              have hcell := hx.turned hT rfl hkl
              have hsz : l[k].data.toList.length = l[k].size := by rw [Array.length_toList]; rfl
              have hs := cat_succ l k hkl
              have hle2 := cat_le l (k + 1)
              rw [hs, List.length_append, hsz] at hle2
              obtain ⟨v, hv, hr, ho, hsf⟩ := hp
              have hlt2 := row_lt hr
              have hcl2 := row_cell hr
              have hfr2 := row_frozen hr
              obtain ⟨i0, hi, hz0, hz1, hz2⟩ := u8_info
              have Hs := Lib.hid hs; clear hs hsz
              have Hr2 := Lib.hid hr; clear hr
              have HT := Lib.hid hT; clear hT
              have HF := Lib.hid hF; clear hF
              have Hv := Lib.hid hv; clear hv
              clear hcl hx
              generalize l[k] = s at *
              generalize cat (l.take k) = m at *
              have hbd : (data ++ m).length + s.size ≤ 65536 := by rw [List.length_append]; omega
              clear h0 h
              go_wp2_with (at_builtin; refine wpList_append_ownR _ rfl _ _ 25 9 rfl (g + 1) 5 i0 Try.underlying25 Try.underlying9 hi hz0 hz1 hz2 _ _ _ rfl ho s rfl ?c3 ?c4 ?c5 ?_)
              case c3 => unfold maxLen; omega
              case c4 => omega
              case c5 => omega
              intro v' w1 ho' hg' hn'
              have hgb : some g ≠ v.ownBlock := fun e => by have := ho.lt g e.symm; omega
              have hr1 : row? w1 g = some #[v, .int .i64 safe] := by
                have := Hr2.out; unfold row? at *; rw [hg'.block g hlt2 hgb]; exact this
              have hfr1 := row_frozen hr1
              have hcl1 := row_cell hr1
              have Hlt1 := Lib.hid (row_lt hr1)
              have Hr1 := Lib.hid hr1; clear hr1
              obtain ⟨A', c', rfl⟩ := ho'.shape
              have HO := Lib.hid ho'; clear ho'
              have HG := Lib.hid hg'; clear hg'
              have HN := Lib.hid hn'; clear hn'
              have HB := Lib.hid hgb; clear hgb
              have Ho := Lib.hid ho; clear ho
              clear hcl2 hfr2 hcell
              go_wp2
              go_roundw
              case rel =>
                have T1 : Touch wr w1 g b' := ⟨HG.out.os, HG.out.tape, HG.out.output, HG.out.size, fun k hk _ hb => HG.out.block k hk (by rw [Hv.out]; exact hb)⟩
                have T2 : Touch w1 (w1.setCell ⟨g, 0, none⟩ (.slice A' (data.length + m.length + s.size) c')) g none := grown_cell _ _ _ _
                have F2 := HN.out
                rw [Hv.out] at F2
                have eb : ∀ n c, (Value.slice A' n c).ownBlock = (Value.slice A' 0 0).ownBlock := by cases A' <;> intros <;> rfl
                rw [eb] at F2
                refine ⟨k + 1, (Value.slice A' 0 0).ownBlock, by omega, by go_num, ⟨.slice A' (data.length + m.length + s.size) c', eb _ _, ?_, ?_, ?_⟩, ?_, ?_⟩
                · rw [row_setCell, if_pos rfl, Hr1.out]; rfl
                · have e1 : bytesV (data ++ m) ++ Lib.strCells s = bytesV (data ++ cat (l.take (k + 1))) := by
                    rw [Hs.out, bytesV_str]; simp [bytesV]
                  have e2 : data.length + m.length + s.size = (data ++ cat (l.take (k + 1))).length := by
                    rw [Hs.out, List.length_append, List.length_append, ← Nat.add_assoc]; rfl
                  have := T2.own HO.out (by omega)
                  rw [e1] at this
                  rw [← e2]; exact this
                · rw [Hs.out, ← List.append_assoc, List.length_append]; omega
                · exact HT.out.trans HF.out (T1.trans (.refl _ _) T2.wide)
                · exact Fresh.trans (W2 := w1) HT.out HF.out F2
              case measure => simp [intOf]; omega
          · obtain rfl : k = l.length := by omega
            rw [List.take_length] at hp
            have HP := Lib.hid hp; clear hp
            go_wp2
            go_ret
            exact ⟨rfl, b', HP.out, hT, hF⟩
end
end Go.Proofs.Ytdemkcfajeoaiaa
