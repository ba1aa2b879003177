/- Several texts in one. -/
import Derived.Test.YtomlilkobhkoiaaGreatDoorQ18
import Derived.Laws.BitsAllLaws
import Derived.Test.YtomlilkobhkoiaaGreatDoorQ3
import Derived.Lib.ConvBytes
/- Layer 8: Append of a row of texts. -/
namespace Go.Proofs.YtomlilkobhkoiaaGreatDoor
open Go.RowKit
set_option linter.unusedVariables false
attribute [local go_sem] row_alloc row_drew row_drewN row_ext row_setCell row_setRow size_ext setRow_alloc setRow_drew
attribute [local go_sem high] cell_alloc frozen_alloc setCell_alloc cell_ext frozen_ext
theorem u8_info : ∃ i, Tryz.prog.info? 5 = some i ∧ i.zero = some (.int .u8 0) ∧ i.size = 1 ∧ i.bytes = 1 := by
  have h := plate_info
  cases hi : Tryz.prog.info? 5 with
  | none => rw [hi] at h; simp at h
  | some i => rw [hi] at h; simp at h; exact ⟨i, rfl, h.1, h.2.1, h.2.2⟩
/-- The slice x holds these texts, in no block of the plate's. -/
structure Texts (W : World) (g : Nat) (b : Option Nat) (A : Option Addr) (l : List ByteArray) : Prop where
  nil : A = none → l = []
  cell : ∀ a, A = some a → ∀ j (h : j < l.length), W.cell? (a.add j) = some (.string l[j])
  apart : ∀ a, A = some a → l ≠ [] → a.block ≠ g ∧ some a.block ≠ b
theorem Texts.turned {W W' : World} {g : Nat} {b : Option Nat} {A : Option Addr} {l : List ByteArray} (h : Texts W g b A l) (T : Touch W W' g b) {a : Addr} (hA : A = some a) {j : Nat} (hj : j < l.length) : W'.cell? (a.add j) = some (.string l[j]) := by
  have hc := h.cell a hA j hj
  have hne : l ≠ [] := by intro e; subst e; simp at hj
  have hap := h.apart a hA hne
  have hbl : (a.add j).block = a.block := by unfold Addr.add; split <;> rfl
  rw [World.cell?_of_block (w := W) (T.block _ ?_ ?_ ?_)]
  · exact hc
  · exact World.block_lt_of_cell? W _ hc
  · rw [hbl]; exact hap.1
  · rw [hbl]; exact hap.2
section
variable {W : World} {g : Nat} {b : Option Nat} {data : List UInt8} {safe : Nat}
set_option maxHeartbeats 2000000 in
theorem append_any (h : PL W g b data safe) (A : Option Addr) (l : List ByteArray) (c : Nat) (hx : Texts W g b A l) (hl : l.length ≤ 1000000) (hd : data.length ≤ 65536) (hc : (cat l).length ≤ 1000000000) :
    Calls Tryz.prog 225 #[.pointer (some ⟨g, 0, none⟩), .slice A l.length c] W fun e w' =>
      (if data.length + (cat l).length ≤ 65536 then e = .returned (.int .i64 0) ∧ ∃ b', PL w' g b' (data ++ cat l) safe ∧ Touch W w' g b ∧ Fresh W b b' else e = .returned (.int .i64 6) ∧ W = w') := by
  have h0 := h
  obtain ⟨A0, c0, hr⟩ := h.len
  have hcl := row_cell hr
  have hlt := row_lt hr
  have Hr := Lib.hid hr; clear hr
  go_enter Tryz.func225, Tryz.ntmps225
  go_wp2
  go_loop [5, 19] (fun n i => ∃ k : Nat, k ≤ l.length ∧ i = .int .i64 k ∧ n = .int .i64 (data.length + (cat (l.take k)).length)) (fun _ i => l.length - (intOf i).toNat)
  case atStart => exact ⟨0, by omega, rfl, by simp [cat]⟩
  case round =>
    obtain ⟨k, hk, rfl, rfl⟩ := hrel
    by_cases hkl : k < l.length
    · cases A with
      | none => have := hx.nil rfl; subst this; simp at hkl
      | some a =>
        have hcell := hx.cell a rfl k hkl
        have hsz : l[k].data.toList.length = l[k].size := by rw [Array.length_toList]; rfl
        have hs := cat_succ l k hkl
        have hle := cat_le l (k + 1)
        rw [hs, List.length_append, hsz] at hle
        have hs2 : (cat (l.take (k + 1))).length = (cat (l.take k)).length + l[k].size := by rw [hs, List.length_append, hsz]
        have Hs := Lib.hid hs2; clear hs2 hs hsz
        generalize l[k] = s at *
        generalize (cat (l.take k)).length = m at *
        go_wp2
        go_round
        case rel => exact ⟨k + 1, by omega, by go_num, by rw [Hs.out]; congr 1; omega⟩
        case measure => simp [intOf]; omega
    · obtain rfl : k = l.length := by omega
      rw [List.take_length]
      have hcs : (cat (l.take l.length)).length = (cat l).length := by rw [List.take_length]
      go_wp2
      · have : ¬ data.length + (cat l).length ≤ 65536 := by omega
        go_ret
        exact ⟨rfl, rfl⟩
      · have hle : data.length + (cat l).length ≤ 65536 := by omega
        go_loopw [32] (fun c wr => ∃ (k : Nat) (b' : Option Nat), k ≤ l.length ∧ c = .int .i64 k ∧ PL wr g b' (data ++ cat (l.take k)) safe ∧ Touch W wr g b ∧ Fresh W b b') (fun c _ => l.length - (intOf c).toNat)
        case atStart => exact ⟨0, b, by omega, rfl, by simpa [cat] using h0, Touch.refl _ _ _, Fresh.refl _ _⟩
        case round =>
          obtain ⟨k, b', hk, rfl, hp, hT, hF⟩ := hrel
          by_cases hkl : k < l.length
          · cases A with
            | none => have := hx.nil rfl; subst this; simp at hkl
            | some a =>
              have hcell := hx.turned hT rfl hkl
              have hsz : l[k].data.toList.length = l[k].size := by rw [Array.length_toList]; rfl
              have hs := cat_succ l k hkl
              have hle2 := cat_le l (k + 1)
              rw [hs, List.length_append, hsz] at hle2
              obtain ⟨v, hv, hr, ho, hsf⟩ := hp
              have hlt2 := row_lt hr
              have hcl2 := row_cell hr
              have hfr2 := row_frozen hr
              obtain ⟨i0, hi, hz0, hz1, hz2⟩ := u8_info
              have Hs := Lib.hid hs; clear hs hsz
              have Hr2 := Lib.hid hr; clear hr
              have HT := Lib.hid hT; clear hT
              have HF := Lib.hid hF; clear hF
              have Hv := Lib.hid hv; clear hv
              clear hcl hx
              generalize l[k] = s at *
              generalize cat (l.take k) = m at *
              have hbd : (data ++ m).length + s.size ≤ 65536 := by rw [List.length_append]; omega
              clear h0 h
              go_wp2_with (at_builtin; refine wpList_append_ownR _ rfl _ _ 73 9 rfl (g + 1) 5 i0 Tryz.underlying73 Tryz.underlying9 hi hz0 hz1 hz2 _ _ _ rfl ho s rfl ?c3 ?c4 ?c5 ?_)
              case c3 => unfold maxLen; omega
              case c4 => omega
              case c5 => omega
              intro v' w1 ho' hg' hn'
              have hgb : some g ≠ v.ownBlock := fun e => by have := ho.lt g e.symm; omega
              have hr1 : row? w1 g = some #[v, .int .i64 safe] := by
                have := Hr2.out; unfold row? at *; rw [hg'.block g hlt2 hgb]; exact this
              have hfr1 := row_frozen hr1
              have hcl1 := row_cell hr1
              have Hlt1 := Lib.hid (row_lt hr1)
              have Hr1 := Lib.hid hr1; clear hr1
              obtain ⟨A', c', rfl⟩ := ho'.shape
              have HO := Lib.hid ho'; clear ho'
              have HG := Lib.hid hg'; clear hg'
              have HN := Lib.hid hn'; clear hn'
              have HB := Lib.hid hgb; clear hgb
              have Ho := Lib.hid ho; clear ho
              clear hcl2 hfr2 hcell
              go_wp2
              go_roundw
              case rel =>
                have T1 : Touch wr w1 g b' := ⟨HG.out.os, HG.out.tape, HG.out.output, HG.out.size, fun k hk _ hb => HG.out.block k hk (by rw [Hv.out]; exact hb)⟩
                have T2 : Touch w1 (w1.setCell ⟨g, 0, none⟩ (.slice A' (data.length + m.length + s.size) c')) g none := grown_cell _ _ _ _
                have F2 := HN.out
                rw [Hv.out] at F2
                have eb : ∀ n c, (Value.slice A' n c).ownBlock = (Value.slice A' 0 0).ownBlock := by cases A' <;> intros <;> rfl
                rw [eb] at F2
                refine ⟨k + 1, (Value.slice A' 0 0).ownBlock, by omega, by go_num, ⟨.slice A' (data.length + m.length + s.size) c', eb _ _, ?_, ?_, ?_⟩, ?_, ?_⟩
                · rw [row_setCell, if_pos rfl, Hr1.out]; rfl
                · have e1 : bytesV (data ++ m) ++ Lib.strCells s = bytesV (data ++ cat (l.take (k + 1))) := by
                    rw [Hs.out, bytesV_str]; simp [bytesV]
                  have e2 : data.length + m.length + s.size = (data ++ cat (l.take (k + 1))).length := by
                    rw [Hs.out, List.length_append, List.length_append, ← Nat.add_assoc]; rfl
                  have := T2.own HO.out (by omega)
                  rw [e1] at this
                  rw [← e2]; exact this
                · rw [Hs.out, ← List.append_assoc, List.length_append]; omega
                · exact HT.out.trans HF.out (T1.trans (.refl _ _) T2.wide)
                · exact Fresh.trans (W2 := w1) HT.out HF.out F2
              case measure => simp [intOf]; omega
          · obtain rfl : k = l.length := by omega
            rw [List.take_length] at hp
            have HP := Lib.hid hp; clear hp
            go_wp2
            go_ret
            exact ⟨rfl, b', HP.out, hT, hF⟩
end
end Go.Proofs.YtomlilkobhkoiaaGreatDoor
/- Layer 8: Lose. -/
namespace Go.Proofs.YtomlilkobhkoiaaGreatDoor
open Go.RowKit
set_option linter.unusedVariables false
attribute [local go_sem] row_alloc row_drew row_drewN row_ext row_setCell row_setRow size_ext setRow_alloc setRow_drew
attribute [local go_sem high] cell_alloc frozen_alloc setCell_alloc cell_ext frozen_ext
section
variable {W : World} {g : Nat} {b : Option Nat} {data : List UInt8} {safe : Nat}
end
end Go.Proofs.YtomlilkobhkoiaaGreatDoor
/- Layer 8: the plate as its callers see it: a block of the call's own. -/
namespace Go.Proofs.YtomlilkobhkoiaaGreatDoor
open Go.RowKit
set_option linter.unusedVariables false
theorem PL.same {W W' : World} {g : Nat} {b : Option Nat} {data : List UInt8} {safe : Nat} (h : PL W g b data safe) (hg : W'.heap[g]? = W.heap[g]?) (hb : ∀ k, b = some k → W'.heap[k]? = W.heap[k]?) : PL W' g b data safe := by
  obtain ⟨v, hv, hr, ho, hs⟩ := h
  refine ⟨v, hv, ?_, ho.same fun k hk => hb k (hv.symm.trans hk), hs⟩
  unfold row? at *; rw [hg]; exact hr
theorem PL.alloc {W : World} {g : Nat} {b : Option Nat} {data : List UInt8} {safe : Nat} (h : PL W g b data safe) (o : Obj) : PL (W.alloc o) g b data safe :=
  h.same (Below.heap_alloc _ _ _ h.lt) fun k hk => Below.heap_alloc _ _ _ (h.blk hk).2
theorem PL.drew {W : World} {g : Nat} {b : Option Nat} {data : List UInt8} {safe : Nat} (h : PL W g b data safe) : PL W.drew g b data safe := h.same rfl fun _ _ => rfl
theorem PL.below {W W' : World} {g : Nat} {b : Option Nat} {data : List UInt8} {safe : Nat} (h : PL W g b data safe) (hb : Below W.heap.size W W') : PL W' g b data safe :=
  h.same (hb.block _ h.lt) fun k hk => hb.block _ (h.blk hk).2
/-- What turned one plate left another one alone. -/
theorem PL.apart {W W' : World} {g : Nat} {b : Option Nat} {data : List UInt8} {safe : Nat} (h : PL W g b data safe) {g1 : Nat} {b1 : Option Nat} (T : Touch W W' g1 b1) (h1 : g ≠ g1) (h2 : some g ≠ b1) (h3 : b ≠ some g1) (h4 : b = none ∨ b ≠ b1) : PL W' g b data safe :=
  h.same (T.block _ h.lt h1 h2) fun k hk => T.block _ (h.blk hk).2 (fun e => h3 (by rw [hk, e])) (fun e => by
    rcases h4 with h4 | h4
    · rw [h4] at hk; simp at hk
    · exact h4 (hk.trans e))
def PS (w W : World) (g : Nat) (data : List UInt8) (safe : Nat) : Prop := Below w.heap.size w W ∧ w.heap.size ≤ g ∧ ∃ b, PL W g b data safe
theorem Texts.lit {W : World} {g : Nat} {b : Option Nat} {data : List UInt8} {safe : Nat} (h : PL W g b data safe) (l : List ByteArray) (t : TypeId) : Texts (W.alloc (.cells (l.map Value.string).toArray t)) g b (some ⟨W.heap.size, 0, none⟩) l := by
  refine ⟨fun e => by simp at e, fun a ha j hj => ?_, fun a ha _ => ?_⟩
  · injection ha with ha; subst ha
    have hadd : (⟨W.heap.size, 0, none⟩ : Addr).add j = ⟨W.heap.size, j, none⟩ := by unfold Addr.add; split <;> simp_all
    rw [hadd, cell_of_row _ _ j _ _ (0, 0) (heap_alloc_new W _)]
    simp [List.getElem?_eq_getElem hj]
  · injection ha with ha; subst ha
    exact ⟨fun e => by have := h.lt; have e2 : W.heap.size = g := e; omega, fun e => by have e2 : W.heap.size < W.heap.size := (h.blk e.symm).2; omega⟩
section
variable {w W : World} {g : Nat} {data : List UInt8} {safe : Nat}
theorem PS.alloc (h : PS w W g data safe) (o : Obj) : PS w (W.alloc o) g data safe := by
  obtain ⟨hb, hg, b, hp⟩ := h
  exact ⟨hb.alloc hb.size _, hg, b, hp.alloc _⟩
theorem PS.drew (h : PS w W g data safe) : PS w W.drew g data safe := by
  obtain ⟨hb, hg, b, hp⟩ := h
  exact ⟨hb.drew, hg, b, hp.drew⟩
theorem PS.lt (h : PS w W g data safe) : g < W.heap.size := by obtain ⟨_, _, b, hp⟩ := h; exact hp.lt
end
end Go.Proofs.YtomlilkobhkoiaaGreatDoor
/- Layer 8: a plate as a thing of its own; Replace; what no plate answers. -/
namespace Go.Proofs.YtomlilkobhkoiaaGreatDoor
open Go.RowKit
set_option linter.unusedVariables false
set_option maxRecDepth 20000
attribute [local go_sem] row_alloc row_drew row_drewN row_ext row_setCell row_setRow size_ext setRow_alloc setRow_drew
attribute [local go_sem high] cell_alloc frozen_alloc setCell_alloc cell_ext frozen_ext
theorem PL.uniq {W : World} {g : Nat} {b b' : Option Nat} {D D' : List UInt8} {s s' : Nat} (h : PL W g b D s) (h' : PL W g b' D' s') : b = b' := by
  obtain ⟨v, hv, hr, _⟩ := h
  obtain ⟨v', hv', hr', _⟩ := h'
  rw [hr] at hr'
  have e : v = v' := by injection hr' with e; injection e with e; injection e
  rw [← hv, ← hv', e]
def plR (g : Nat) (data : List UInt8) (safe : Nat) : Res where
  sat F W := ∃ b, PL W g b data safe ∧ ∀ k, F k ↔ (k = g ∨ b = some k)
  stay := fun h ⟨b, hp, hf⟩ => ⟨b, hp.same (h g ((hf g).2 (.inl rfl))) (fun k hk => h k ((hf k).2 (.inr hk))), hf⟩
  lt := fun ⟨b, hp, hf⟩ k hk => by
    rcases (hf k).1 hk with rfl | h
    · exact hp.lt
    · exact (hp.blk h).2
section
variable {w W W' : World} {F : Nat → Prop} {L R : List Res} {g k : Nat} {data data' : List UInt8} {safe safe' : Nat} {b b' : Option Nat} {X : Array Value}
theorem Sts.pl (T : Sts w F W (plR g data safe :: R)) : ∃ b, PL W g b data safe := let ⟨_, b, hp, _⟩ := T.at0; ⟨b, hp⟩
theorem Sts.plTurn (T : Sts w F W (plR g data safe :: R)) (hp : PL W g b data safe) (hp' : PL W' g b' data' safe') (Tc : Touch W W' g b) (Fr : Fresh W b b') : Sts w F W' (plR g data' safe' :: R) :=
  T.turn fun A ⟨b2, h2, hf⟩ => by
    obtain rfl := hp.uniq h2
    refine ⟨fun k => k = g ∨ b' = some k, ⟨b', hp', fun _ => Iff.rfl⟩, fun k hk => ?_, Tc.os, Tc.tape, Tc.output, Tc.size, fun k hk hn => Tc.block k hk (fun e => hn ((hf k).2 (.inl e))) (fun e => hn ((hf k).2 (.inr e.symm)))⟩
    rcases hk with rfl | hk
    · exact .inl ((hf _).2 (.inl rfl))
    · rcases Fr with rfl | ⟨j, rfl, hj⟩
      · exact .inl ((hf _).2 (.inr hk))
      · injection hk with hk; subst hk; exact .inr hj
theorem Sts.plApart (T : Sts w F W (plR g data safe :: rowR k X :: R)) (hp : PL W g b data safe) : k ≠ g ∧ some k ≠ b := by
  obtain ⟨⟨G, ⟨A, B, ⟨b2, h2, hf⟩, ⟨C, D, hc, _, _, hf2⟩, hd, _⟩, _⟩, _⟩ := T
  obtain rfl := hp.uniq h2
  have hkB : B k := (hf2 k).2 (.inl ((hc.1 k).2 rfl))
  exact ⟨fun e => hd k ((hf k).2 (.inl e)) hkB, fun e => hd k ((hf k).2 (.inr e.symm)) hkB⟩
theorem newT (T : Sts w F W L) : Calls Tryz.prog 6 #[] W fun e W' => e = .returned (.pointer (some ⟨W.heap.size, 0, none⟩)) ∧ Sts w F W' (plR W.heap.size [] 0 :: L) :=
  (new_any W).mono fun e W' ⟨he, hp, hb, hz⟩ => ⟨he, by
    obtain ⟨⟨G, hs, hG⟩, m⟩ := T.pure hb
    obtain ⟨⟨G0, hs0, hg0⟩, m0⟩ := T
    have hlt := hs0.lt
    have hs1 : Sat W' _ G0 := hs0.stay fun k hk => hb.block k (hlt k hk)
    refine ⟨⟨fun k => k = W.heap.size ∨ G0 k, ⟨fun k => k = W.heap.size, G0, ⟨none, hp, fun k => by simp⟩, hs1, ?_, fun _ => Iff.rfl⟩, ?_⟩, m⟩
    · rintro k rfl h; have := hlt _ h; omega
    · rintro k (rfl | h)
      · right; exact m0.size
      · exact hg0 k h⟩
theorem lenT (T : Sts w F W (plR g data safe :: R)) : Calls Tryz.prog 223 #[.pointer (some ⟨g, 0, none⟩)] W fun e W' => e = .returned (.int .i64 data.length) ∧ W = W' := let ⟨_, hp⟩ := T.pl; len_any hp
theorem readT (T : Sts w F W (plR g data safe :: R)) : Calls Tryz.prog 58 #[.pointer (some ⟨g, 0, none⟩)] W fun e W' => e = .returned (.string ⟨data.toArray⟩) ∧ W = W' := let ⟨_, hp⟩ := T.pl; read_any hp
theorem syncT (T : Sts w F W (plR g data safe :: R)) : Calls Tryz.prog 97 #[.pointer (some ⟨g, 0, none⟩)] W fun e W' => e = .returned (.int .i64 0) ∧ Sts w F W' (plR g data data.length :: R) := by
  obtain ⟨b, hp⟩ := T.pl
  exact (sync_any hp).mono fun e W' ⟨he, h1, Tc, _⟩ => ⟨he, T.plTurn hp h1 Tc.wide (Fresh.refl _ _)⟩
def rowS (l : List ByteArray) : Array Value := (l.map Value.string).toArray
def appP (data : List UInt8) (n : List UInt8) : List UInt8 × Int := if data.length + n.length ≤ 65536 then (data ++ n, 0) else (data, 6)
theorem appendT {l : List ByteArray} (T : Sts w F W (plR g data safe :: rowR k (rowS l) :: R)) (c : Nat) (hl : l.length ≤ 1000000) (hd : data.length ≤ 65536) (hc : (cat l).length ≤ 1000000000) :
    Calls Tryz.prog 225 #[.pointer (some ⟨g, 0, none⟩), .slice (some ⟨k, 0, none⟩) l.length c] W fun e W' =>
      e = .returned (.int .i64 (appP data (cat l)).2) ∧ Sts w F W' (plR g (appP data (cat l)).1 safe :: rowR k (rowS l) :: R) := by
  obtain ⟨b, hp⟩ := T.pl
  obtain ⟨hk1, hk2⟩ := T.plApart hp
  have hr := T.row1
  have hx : Texts W g b (some ⟨k, 0, none⟩) l := by
    refine ⟨fun e => by simp at e, fun a ha j hj => ?_, fun a ha _ => ?_⟩
    · injection ha with ha; subst ha
      have hadd : (⟨k, 0, none⟩ : Addr).add j = ⟨k, j, none⟩ := by unfold Addr.add; split <;> simp_all
      rw [hadd, row_cell hr]
      simp [rowS, List.getElem?_eq_getElem hj]
    · injection ha with ha; subst ha; exact ⟨hk1, hk2⟩
  refine (append_any hp _ l c hx hl hd hc).mono fun e W' hh => ?_
  unfold appP
  split at hh
  · rename_i hle
    rw [if_pos hle]
    obtain ⟨he, b', h1, Tc, Fr⟩ := hh
    exact ⟨he, T.plTurn hp h1 Tc Fr⟩
  · rename_i hle
    rw [if_neg hle]
    obtain ⟨he, rfl⟩ := hh
    exact ⟨he, T⟩
/-- The rows of a byte slice that a conversion has made. -/
theorem own_bytes (W : World) (s : ByteArray) (base : Nat) (hb : base ≤ W.heap.size) (hc : grownCap W s.size 0 5 ≤ maxLen) (hs : s.size ≤ grownCap W s.size 0 5) :
    OwnR (Lib.bytesWorld W 5 s) base 5 (.slice (some ⟨W.heap.size, 0, none⟩) s.size (grownCap W s.size 0 5)) s.size (bytesV s.data.toList) := by
  have hz : (Lib.bytesCells W 5 s).size = grownCap W s.size 0 5 := by
    simp only [Lib.bytesCells, Array.size_append, Array.size_map, Array.size_replicate]
    have : s.data.size = s.size := rfl
    omega
  have h0 : s.data.size = s.size := rfl
  refine ⟨by rw [bytesV, List.length_map, Array.length_toList]; exact h0, .inr ⟨W.heap.size, _, Lib.bytesCells W 5 s, _, rfl, hb, Lib.bytesWorld_at_new W 5 s, fun j hj hh => ?_, hs, hc, hz, ?_⟩⟩
  · simp only at hh; omega
  · have e1 : (s.data.map fun b => Value.int .u8 b.toNat).toList = bytesV s.data.toList := by
      rw [Array.toList_map]; rfl
    rw [Lib.bytesCells, Array.toList_append, e1, List.take_append_of_le_length (by rw [bytesV, List.length_map, Array.length_toList]; exact Nat.le_of_eq h0.symm), List.take_of_length_le (by rw [bytesV, List.length_map, Array.length_toList]; exact Nat.le_of_eq h0)]
set_option maxHeartbeats 1000000 in
theorem replaceT (T : Sts w F W (plR g data safe :: R)) (s : ByteArray) (hs : s.size ≤ 1000000000) :
    Calls Tryz.prog 62 #[.pointer (some ⟨g, 0, none⟩), .string s] W fun e W' =>
      if s.size ≤ 65536 then e = .returned (.int .i64 0) ∧ Sts w F W' (plR g s.data.toList s.size :: R) else e = .returned (.int .i64 6) ∧ W = W' := by
  obtain ⟨b, hp⟩ := T.pl
  obtain ⟨A0, c0, hr⟩ := hp.len
  have hlt := row_lt hr
  have hc := row_cell hr
  have hf := row_frozen hr
  by_cases hle : s.size ≤ 65536
  · simp only [if_pos hle]
    have hcv := Lib.run_convert_string_bytes (P := Tryz.prog) W 9 73 5 s Tryz.underlying9 Tryz.underlying73 Tryz.underlying5
    have hge := grownCap_ge W s.size 0 5
    have hcm := grownCap_le_maxLen W s.size 0 5 (by unfold maxLen; omega)
    have ho := own_bytes W s (g + 1) (by omega) hcm hge
    have hB : Below W.heap.size W (Lib.bytesWorld W 5 s) := ⟨rfl, rfl, rfl, by rw [Lib.bytesWorld_size]; omega, fun j hj => Lib.bytesWorld_at_old W _ s j hj⟩
    have hz := Lib.bytesWorld_size W 5 s
    have hr1 : row? (Lib.bytesWorld W 5 s) g = some #[.slice A0 data.length c0, .int .i64 safe] := (row_below hB hlt).trans hr
    have hlt1 := row_lt hr1
    have hc1 := row_cell hr1
    have hf1 := row_frozen hr1
    have HR := Lib.hid hr1; clear hr1 hr hc hf
    have HO := Lib.hid ho; clear ho
    have HB := Lib.hid hB; clear hB
    have HZ := Lib.hid hz; clear hz
    generalize Lib.bytesWorld W 5 s = W1 at *
    generalize grownCap W s.size 0 5 = cp at *
    have HT := Lib.hid T; clear T
    have HP := Lib.hid hp; clear hp
    go_enter Tryz.func62, Tryz.ntmps62
    go_wp2
    go_ret
    have t1 := grown_cell W1 g 0 (.slice (some ⟨W.heap.size, 0, none⟩) s.size cp)
    have t2 := grown_cell (W1.setCell ⟨g, 0, none⟩ (.slice (some ⟨W.heap.size, 0, none⟩) s.size cp)) g 1 (.int .i64 s.size)
    have t0 : Touch W W1 g b := ⟨HB.out.os, HB.out.tape, HB.out.output, HB.out.size, fun j hj _ _ => HB.out.block j hj⟩
    have fr : Fresh W b (some W.heap.size) := .inr ⟨_, rfl, Nat.le_refl _⟩
    refine ⟨rfl, HT.out.plTurn HP.out (b' := some W.heap.size) ⟨.slice (some ⟨W.heap.size, 0, none⟩) s.size cp, rfl, ?_, ?_, Nat.le_of_eq rfl⟩ ?_ fr⟩
    · rw [row_setCell, if_pos rfl, row_setCell, if_pos rfl, HR.out]; rfl
    · exact t2.own (t1.own HO.out (by omega)) (by omega)
    · exact t0.trans (.refl _ _) ((t1.trans (.refl _ _) t2).wide)
  · simp only [if_neg hle]
    go_enter Tryz.func62, Tryz.ntmps62
    go_wp2
    go_ret
    exact ⟨rfl, rfl⟩
end
end Go.Proofs.YtomlilkobhkoiaaGreatDoor
