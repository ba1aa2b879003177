/- Layer 8: the walk of PlateParts. -/
import Derived.Test.YtdemkcfajeoaiaaPlateG
namespace Go.Proofs.Ytdemkcfajeoaiaa
open Go.RowKit
set_option linter.unusedVariables false
attribute [local go_sem] row_alloc row_drew row_drewN row_ext row_setCell row_setRow size_ext setRow_alloc setRow_drew
attribute [local go_sem high] cell_alloc frozen_alloc setCell_alloc cell_ext frozen_ext
/-- Two plates of the call's own; the second one has no byte as yet. -/
def PP (w W : World) (g h : Nat) (data : List UInt8) (safe : Nat) : Prop :=
  Below w.heap.size w W ∧ w.heap.size ≤ g ∧ g < h ∧ PL W h none [] 0 ∧ ∃ b, PL W g b data safe ∧ ∀ k, b = some k → h < k
section
variable {w W : World} {g h : Nat} {data : List UInt8} {safe : Nat}
theorem PP.new (hp : PS w W g [] 0) (hn : ∃ b, PL W g b [] 0 ∧ b = none) : Calls Try.prog 8 #[] W fun e w' => e = .returned (.pointer (some ⟨W.heap.size, 0, none⟩)) ∧ PP w w' g W.heap.size [] 0 := by
  obtain ⟨hb, hg, _⟩ := hp
  obtain ⟨b, hp, rfl⟩ := hn
  exact (new_any W).mono fun e w' ⟨he, h1, hb', _⟩ => ⟨he, hb.trans (hb'.mono hb.size), hg, hp.lt, h1, none, hp.below hb', fun k hk => by simp at hk⟩
theorem PP.lit (p : PP w W g h data safe) (l : List ByteArray) (t : TypeId) (hl : l.length ≤ 1000000) (hd : data.length ≤ 65536) (hc : data.length + (cat l).length ≤ 65536) :
    Calls Try.prog 9 #[.pointer (some ⟨g, 0, none⟩), .slice (some ⟨W.heap.size, 0, none⟩) l.length l.length] (W.alloc (.cells (l.map Value.string).toArray t)) fun e w' =>
      e = .returned (.int .i64 0) ∧ PP w w' g h (data ++ cat l) safe := by
  obtain ⟨hb, hg, hgh, hq, b, hp, hbh⟩ := p
  refine (append_any (hp.alloc _) _ l _ (Texts.lit hp l t) hl hd (by omega)).mono fun e w' hx => ?_
  rw [if_pos hc] at hx
  obtain ⟨he, b', h1, T, F⟩ := hx
  have hb1 := hb.alloc hb.size (.cells (l.map Value.string).toArray t)
  refine ⟨he, Below.touch hb1 T hg (fun k hk => by have := hp.blk hk; omega) hb1.size, hg, hgh, (hq.alloc _).apart T (by omega) (fun e => ?_) (by simp) (.inl rfl), b', h1, fun k hk => ?_⟩
  · have := hbh _ e.symm; omega
  · rcases F with rfl | ⟨j, rfl, hj⟩
    · exact hbh k hk
    · injection hk with hk; subst hk
      have := (hq.alloc (.cells (l.map Value.string).toArray t)).lt; omega
theorem PP.sync (p : PP w W g h data safe) : Calls Try.prog 12 #[.pointer (some ⟨g, 0, none⟩)] W fun e w' => e = .returned (.int .i64 0) ∧ PP w w' g h data data.length := by
  obtain ⟨hb, hg, hgh, hq, b, hp, hbh⟩ := p
  exact (sync_any hp).mono fun e w' ⟨he, h1, T, _⟩ => ⟨he, Below.touch hb T hg (fun k hk => by simp at hk) hb.size, hg, hgh, hq.apart T (by omega) (by simp) (by simp) (.inl rfl), b, h1, hbh⟩
theorem PP.len (p : PP w W g h data safe) : Calls Try.prog 10 #[.pointer (some ⟨g, 0, none⟩)] W fun e w' => e = .returned (.int .i64 data.length) ∧ W = w' := by
  obtain ⟨hb, hg, hgh, hq, b, hp, hbh⟩ := p
  exact len_any hp
theorem PP.arg (p : PP w W g h data safe) {A : Option Addr} {l : List ByteArray} (c : Nat) (hx : TextsIn w A l) (hl : l.length ≤ 1000000) (hc : (cat l).length ≤ 65536) :
    Calls Try.prog 9 #[.pointer (some ⟨h, 0, none⟩), .slice A l.length c] W fun e w' =>
      e = .returned (.int .i64 0) ∧ PS w w' g data safe ∧ PS w w' h (cat l) 0 := by
  obtain ⟨hb, hg, hgh, hq, b, hp, hbh⟩ := p
  have ht : Texts W h none A l := ⟨hx.nil, fun a ha j hj => hx.at hb ha hj, fun a ha hn => ⟨by have := hx.lt ha hn; omega, by simp⟩⟩
  refine (append_any hq A l c ht hl (by simp) (by omega)).mono fun e w' hy => ?_
  rw [if_pos (by simpa using hc)] at hy
  obtain ⟨he, b', h1, T, F⟩ := hy
  have hb1 := Below.touch hb T (by omega) (fun k hk => by simp at hk) hb.size
  exact ⟨he, ⟨hb1, hg, b, hp.apart T (by omega) (by simp) (fun e => by have := hbh _ e; omega) (by cases b <;> simp)⟩, hb1, by omega, b', by simpa using h1⟩
end
set_option maxHeartbeats 4000000 in
theorem law_parts (A : Option Addr) (c : Nat) (l : List ByteArray) (synced : Int) (hy : -9223372036854775808 ≤ synced ∧ synced ≤ 9223372036854775807) (w : World) (hx : TextsIn w A l) :
    Calls Try.prog 5 #[.slice A l.length c, .int .i64 synced] w fun e w' => e = .returned (.bool true) ∧ Below w.heap.size w w' := by
  go_enter Try.func5, Try.ntmps5
  go_wp2_with fail
  refine (alive_any _).mono ?_; rintro e w1 ⟨rfl, hb1⟩
  go_wp2
  go_loop [5, 6, 19] (fun n al i => ∃ k : Nat, k ≤ l.length ∧ i = .int .i64 k ∧ n = .int .i64 (cat (l.take k)).length ∧ al = .string (strL (cat (l.take k))) ∧ (0 < k → l.length ≤ 60) ∧ (cat (l.take k)).length ≤ 16384) (fun _ _ i => l.length - (intOf i).toNat)
  case atStart => exact ⟨0, by omega, rfl, by simp [cat], by simp [cat, strL], by omega, by simp [cat]⟩
  case round =>
    obtain ⟨k, hkl, rfl, rfl, rfl, h60, hct⟩ := hrel
    by_cases hk2 : k < l.length
    · cases A with
      | none => have := hx.nil rfl; subst this; simp at hk2
      | some a =>
        have hcell := hx.at hb1 rfl hk2
        have hsz := hx.size _ (List.getElem_mem hk2)
        have hll := hx.len
        have hs1 := cat_succ l k hk2
        have hs2 : (cat (l.take (k + 1))).length = (cat (l.take k)).length + l[k].size := by
          rw [cat_succ l k hk2, List.length_append]
          congr 1
        have Hs := Lib.hid hs2; clear hs2
        have Hs1 := Lib.hid hs1; clear hs1
        generalize l[k] = s at *
        generalize cat (l.take k) = m at *
        have hadd := strL_add m s
        have hmz := strL_size m
        go_wp2
        all_goals first
          | (go_ret; exact ⟨rfl, hb1⟩)
          | (go_round
             case rel => exact ⟨k + 1, by omega, by go_num, by rw [Hs.out]; rfl, by rw [Hs1.out], by omega, by rw [Hs.out]; omega⟩
             case measure => simp [intOf]; omega)
    · obtain rfl : k = l.length := by omega
      rw [List.take_length] at hct ⊢
      have h60' : l.length ≤ 60 := by omega
      clear h60 hk2 hkl
      go_wp2_with fail
      refine (new_any w1).mono ?_; rintro e w2 ⟨rfl, hp, hb2, hz2⟩
      go_wp2_with fail
      refine (PP.new ⟨hb1.trans (hb2.mono hb1.size), hb1.size, _, hp⟩ ⟨_, hp, rfl⟩).mono ?_; rintro e w3 ⟨rfl, hpp⟩
      clear hp
      generalize w1.heap.size = g at *
      generalize w2.heap.size = h at *
      clear hz2 hb2
      go_wp2
      go_loopw [42, 11] (fun i s wr => ∃ k sf : Nat, k ≤ l.length ∧ i = .int .i64 k ∧ s = .int .i64 sf ∧ PP w wr g h (cat (l.take k)) sf) (fun i _ _ => l.length - (intOf i).toNat)
      case atStart => exact ⟨0, 0, by omega, rfl, rfl, by simpa [cat] using hpp⟩
      case round =>
        obtain ⟨k, sf, hkl, rfl, rfl, hps⟩ := hrel
        by_cases hk2 : k < l.length
        · cases A with
          | none => have := hx.nil rfl; subst this; simp at hk2
          | some a =>
            have hcell := hx.at hps.1 rfl hk2
            have hct2 := cat_le l (k + 1)
            have hs2 := cat_succ l k hk2
            have hsz : (cat [l[k]]).length = l[k].data.toList.length := by simp [cat]
            have hct3 : cat [l[k]] = l[k].data.toList := by simp [cat]
            rw [hs2, List.length_append] at hct2
            have Hs := Lib.hid hs2; clear hs2
            have Hct3 := Lib.hid hct3; clear hct3
            have Hsz := Lib.hid hsz; clear hsz
            generalize l[k] = s at *
            generalize cat (l.take k) = m at *
            have Hct2 := Lib.hid hct2; clear hct2
            go_wp2_with fail
            refine (hps.lit [s] 9 (by simp) (by have := Hct2.out; omega) (by rw [Hsz.out]; have := Hct2.out; omega)).mono ?_
            rintro e w4 ⟨rfl, hp4⟩
            rw [Hct3.out] at hp4
            clear hps hcell
            by_cases hky : (k : Int) = synced
            · go_wp2_with fail
              refine hp4.sync.mono ?_; rintro e w5 ⟨rfl, hp5⟩
              go_wp2_with fail
              refine hp5.len.mono ?_; rintro e w6 ⟨rfl, rfl⟩
              have HP := Lib.hid hp5; clear hp5 hp4
              go_wp2
              go_roundw
              case rel => exact ⟨k + 1, (m ++ s.data.toList).length, by omega, by go_num, congrArg (Value.int .i64) (by rw [List.length_append, Array.length_toList]; exact (Int.natCast_add _ _).symm), by rw [Hs.out]; exact HP.out⟩
              case measure => simp [intOf]; omega
            · have HP := Lib.hid hp4; clear hp4
              go_wp2
              go_roundw
              case rel => exact ⟨k + 1, sf, by omega, by go_num, rfl, by rw [Hs.out]; exact HP.out⟩
              case measure => simp [intOf]; omega
        · obtain rfl : k = l.length := by omega
          rw [List.take_length] at hps
          clear hk2 hkl hpp
          go_wp2_with fail
          refine (hps.arg c hx (by omega) (by omega)).mono ?_; rintro e w5 ⟨rfl, hp5, hq5⟩
          clear hps hx
          generalize cat l = D at *
          go_wp2_with fail
          refine (read_ps hp5).mono ?_; rintro e w6 ⟨rfl, rfl⟩
          rw [show (⟨D.toArray⟩ : ByteArray) = strL D from rfl]
          go_wp2_with fail
          refine (read_ps hq5).mono ?_; rintro e w6 ⟨rfl, rfl⟩
          rw [show (⟨D.toArray⟩ : ByteArray) = strL D from rfl]
          go_wp2_with fail
          refine (safe_ps hp5).mono ?_; rintro e w6 ⟨rfl, rfl⟩
          go_wp2_with fail
          refine (safe_ps hq5).mono ?_; rintro e w6 ⟨rfl, rfl⟩
          have HP := Lib.hid hp5; clear hp5 hq5
          go_wp2
          go_ret
          refine ⟨?_, HP.out.1⟩
          first | rfl | trace_state
end Go.Proofs.Ytdemkcfajeoaiaa
