/- Several texts in one. -/
import Derived.Test.YtnjgjhjilolanaaH21
import Derived.Test.YtnjgjhjilolanaaH14
import Derived.Sort.LotD5
import Derived.Laws.Bits64
import Derived.Laws.Bits64b
import Derived.Test.YtnjgjhjilolanaaH22
import Derived.Test.YtnjgjhjilolanaaH23
import Derived.Test.YtnjgjhjilolanaaH24
import Derived.Sort.AssemblyPlain
/- Items in a slice of the call's own, sorted in their place by a function: patterns broken. -/
namespace Go.Proofs.Ytnjgjhjilolanaa
open Go.RowKit Go.Shelf
open Go.Sort (swp xorNext xorNextN xorNext_toNat xorNextN_lt bitsLen breakStep breakPatterns)
set_option linter.unusedVariables false
set_option maxRecDepth 20000
attribute [local go_sem] row_alloc row_drew row_drewN row_ext row_setCell row_setRow size_ext setRow_alloc setRow_drew loadOf storeOf piece_lit loadVal_at storeVal_at allOne_lit buildOf buildRes_some
attribute [local go_sem high] cell_alloc frozen_alloc setCell_alloc cell_ext frozen_ext cell_setRow frozen_setRow
attribute [local go_sem ↓] TDeed_ld0 TDeed_st0 TDeed_fd0 TDeed_bd0
attribute [local go_sem] TDeed_size TDeed_one TDeed_piece TDeed_c0 TDeed_c1 TDeed_c2 TDeed_c3 TDeed_c4 TDeed_c5 TDeed_set_kind TDeed_set_key TDeed_set_val TDeed_set_ver TDeed_set_ses TDeed_set_num TDeed_ld TDeed_st TDeed_f_kind TDeed_f_key TDeed_f_val TDeed_f_ver TDeed_f_ses TDeed_f_num TDeed_bd TDeed_fl TDeed_fl_kind TDeed_fl_key TDeed_fl_val TDeed_fl_ver TDeed_fl_ses TDeed_fl_num
attribute [local go_sem high] TDeed_eql TDeed_neq
attribute [local go_sem ↓] index_deps0 load_deps0 store_deps0
attribute [local go_sem] DV_piece DV_size DV_one index_deps load_deps store_deps
attribute [local go_sem high] TDeps_eql TDeps_neq
attribute [local go_sem ↓] TCall_ld0 TCall_st0 TCall_fd0 TCall_bd0
attribute [local go_sem] TCall_size TCall_one TCall_piece TCall_c0 TCall_c1 TCall_c2 TCall_c3 TCall_c4 TCall_c5 TCall_c6 TCall_c7 TCall_c8 TCall_c9 TCall_c10 TCall_c11 TCall_c12 TCall_c13 TCall_p_deed TCall_put_deed TCall_p_deps TCall_put_deps TCall_set_seq TCall_ld TCall_st TCall_f_deed TCall_f_deps TCall_f_seq TCall_bd TCall_fl TCall_fl_deed TCall_fl_deps TCall_fl_seq
attribute [local go_sem high] TCall_eql TCall_neq
attribute [local go_sem ↓] TItem_ld0 TItem_st0 TItem_fd0 TItem_bd0
attribute [local go_sem] TItem_size TItem_one TItem_piece TItem_c0 TItem_c1 TItem_set_rep TItem_set_num TItem_ld TItem_st TItem_f_rep TItem_f_num TItem_bd TItem_fl TItem_fl_rep TItem_fl_num
attribute [local go_sem high] TItem_eql TItem_neq
section
variable {w W : World} {F : Nat → Prop} {R : List Res} {g c : Nat} {CM : CmpK} {d : Array Item}
theorem nextPowTC (k : Nat) (hk : k < 512) (w : World) : Calls Try.prog 87 #[.int .i64 k] w fun e w' => e = .returned (.int .u64 ((2 ^ bitsLen k : Nat) : Int)) ∧ w' = w := by
  have hb := bitsLen_le ⟨k, hk⟩
  dsimp only at hb
  have HB := Lib.hid (bitsLenT k hk)
  generalize bitsLen k = bl at *
  go_enter Try.func87, Try.ntmps87
  go_wp2_with fail
  refine (HB.out _).mono ?_
  clear HB
  rintro e w5 ⟨rfl, rfl⟩
  obtain rfl | rfl | rfl | rfl | rfl | rfl | rfl | rfl | rfl | rfl : bl = 0 ∨ bl = 1 ∨ bl = 2 ∨ bl = 3 ∨ bl = 4 ∨ bl = 5 ∨ bl = 6 ∨ bl = 7 ∨ bl = 8 ∨ bl = 9 := by omega
  all_goals (go_wp2; go_ret; exact ⟨rfl, rfl⟩)
theorem Sts.cell0C {s : Nat} {v : Value} (T : Sts w F W (rowR s #[v] :: R)) : W.cell? ⟨s, 0, none⟩ = some v := by rw [row_cell T.row 0]; rfl
set_option maxHeartbeats 8000000 in
theorem nextTC {s : Nat} {x : Nat} (hx : x < 18446744073709551616) (T : Sts w F W (rowR s #[.int .u64 x] :: R)) : Calls Try.prog 88 #[.pointer (some ⟨s, 0, none⟩)] W fun e W' => e = .returned (.int .u64 (xorNextN x)) ∧ Sts w F W' (rowR s #[.int .u64 (xorNextN x)] :: R) := by
  have HT := Lib.hid T; clear T
  obtain ⟨y1, hy1⟩ : ∃ y, y = x * 8192 % 18446744073709551616 := ⟨_, rfl⟩
  obtain ⟨x1, hx1⟩ : ∃ y, y = x ^^^ y1 := ⟨_, rfl⟩
  obtain ⟨y2, hy2⟩ : ∃ y, y = x1 / 128 := ⟨_, rfl⟩
  obtain ⟨x2, hx2⟩ : ∃ y, y = x1 ^^^ y2 := ⟨_, rfl⟩
  obtain ⟨y3, hy3⟩ : ∃ y, y = x2 * 131072 % 18446744073709551616 := ⟨_, rfl⟩
  obtain ⟨x3, hx3⟩ : ∃ y, y = x2 ^^^ y3 := ⟨_, rfl⟩
  have hn : xorNextN x = x3 := by rw [hx3, hy3, hx2, hy2, hx1, hy1]; rfl
  rw [hn]
  have p2 : (18446744073709551616 : Nat) = 2 ^ 64 := by decide
  have b1 : x1 < 18446744073709551616 := by rw [hx1, p2]; exact Nat.xor_lt_two_pow (by omega) (by omega)
  have b2 : x2 < 18446744073709551616 := by rw [hx2, p2]; exact Nat.xor_lt_two_pow (by omega) (by omega)
  have f1 : IntKind.u64.wrap ((x : Int) * 8192) = (y1 : Int) := by rw [IntKind.wrap_u64]; omega
  have f2 : bits .xor .u64 (x : Int) (y1 : Int) = (x1 : Int) := by rw [hx1]; exact bits_xor_u64_nat x y1 hx (by omega)
  have f3 : (x1 : Int) / 128 = (y2 : Int) := by omega
  have f4 : bits .xor .u64 (x1 : Int) (y2 : Int) = (x2 : Int) := by rw [hx2]; exact bits_xor_u64_nat x1 y2 b1 (by omega)
  have f5 : IntKind.u64.wrap ((x2 : Int) * 131072) = (y3 : Int) := by rw [IntKind.wrap_u64]; omega
  have f6 : bits .xor .u64 (x2 : Int) (y3 : Int) = (x3 : Int) := by rw [hx3]; exact bits_xor_u64_nat x2 y3 b2 (by omega)
  clear hn hx1 hx2 hx3 hy1 hy2 hy3 p2
  go_enter Try.func88, Try.ntmps88
  go_upto_region 1 with fail
  have HT0 := Lib.hid HT.out.drew; clear HT
  have S0 := HT0.out.cell0C
  have HM := Lib.hid (show ∀ W' : World, (W'.cell? ⟨s, 0, none⟩ = some (.int .u64 x)) → True from fun _ _ => trivial)
  refine wp_region_stage (fun W' => W'.cell? ⟨s, 0, none⟩ = some (.int .u64 x)) (fun _ => True) 9 (by kernel_rfl) S0 (fun hHeld => ?_)
  clear S0
  refine tk0 0 rfl ?_
  simp only [Act.put, List.setIfInBounds_toArray, List.set_cons_zero, List.set_cons_succ]
  refine tk0 1 rfl ?_
  go_frame
  refine tk0 2 rfl ?_
  go_frame
  refine tk0 3 rfl ?_
  go_frame
  refine tk0 4 rfl ?_
  go_frame
  refine tk0 5 rfl ?_
  go_frame
  refine tk0 6 rfl ?_
  go_frame
  refine tk0 7 rfl ?_
  go_frame
  refine tk0 8 rfl ?_
  go_frame
  generalize World.drew _ = wd at *
  have hf := row_frozen HT0.out.row 0
  have T2 := HT0.out.setCell 0 (.int .u64 x1)
  have HT := Lib.hid T2; clear T2 HT0
  refine wpAnyL_ready (rs := [9]) (by kernel_rfl) (by simp) ?_
  refine AllReadyL.cons1 (o := _) rfl (by kernel_rfl) (fun K hK => ?_) AllReadyL.nil
  go_simp
  refine hK.out _ _ trivial (fun hHeld => ?_)
  clear hK K hf HM
  refine wpAnyL_done (by kernel_rfl) ?_ _
  try simp only [Exit.then]
  clear hHeld
  generalize World.setCell _ _ _ = we at *
  go_upto_region 2 with fail
  have HT0 := Lib.hid HT.out.drew; clear HT
  have S0 := HT0.out.cell0C
  have HM := Lib.hid (show ∀ W' : World, (W'.cell? ⟨s, 0, none⟩ = some (.int .u64 x1)) → True from fun _ _ => trivial)
  refine wp_region_stage (fun W' => W'.cell? ⟨s, 0, none⟩ = some (.int .u64 x1)) (fun _ => True) 9 (by kernel_rfl) S0 (fun hHeld => ?_)
  clear S0
  refine tk0 0 rfl ?_
  simp only [Act.put, List.setIfInBounds_toArray, List.set_cons_zero, List.set_cons_succ]
  refine tk0 1 rfl ?_
  go_frame
  refine tk0 2 rfl ?_
  go_frame
  refine tk0 3 rfl ?_
  go_frame
  refine tk0 4 rfl ?_
  go_frame
  refine tk0 5 rfl ?_
  go_frame
  refine tk0 6 rfl ?_
  go_frame
  refine tk0 7 rfl ?_
  go_frame
  refine tk0 8 rfl ?_
  go_frame
  generalize World.drew _ = wd at *
  have hf := row_frozen HT0.out.row 0
  have T2 := HT0.out.setCell 0 (.int .u64 x2)
  have HT := Lib.hid T2; clear T2 HT0
  refine wpAnyL_ready (rs := [9]) (by kernel_rfl) (by simp) ?_
  refine AllReadyL.cons1 (o := _) rfl (by kernel_rfl) (fun K hK => ?_) AllReadyL.nil
  go_simp
  refine hK.out _ _ trivial (fun hHeld => ?_)
  clear hK K hf HM
  refine wpAnyL_done (by kernel_rfl) ?_ _
  try simp only [Exit.then]
  clear hHeld
  generalize World.setCell _ _ _ = we at *
  go_upto_region 3 with fail
  have HT0 := Lib.hid HT.out.drew; clear HT
  have S0 := HT0.out.cell0C
  have HM := Lib.hid (show ∀ W' : World, (W'.cell? ⟨s, 0, none⟩ = some (.int .u64 x2)) → True from fun _ _ => trivial)
  refine wp_region_stage (fun W' => W'.cell? ⟨s, 0, none⟩ = some (.int .u64 x2)) (fun _ => True) 9 (by kernel_rfl) S0 (fun hHeld => ?_)
  clear S0
  refine tk0 0 rfl ?_
  simp only [Act.put, List.setIfInBounds_toArray, List.set_cons_zero, List.set_cons_succ]
  refine tk0 1 rfl ?_
  go_frame
  refine tk0 2 rfl ?_
  go_frame
  refine tk0 3 rfl ?_
  go_frame
  refine tk0 4 rfl ?_
  go_frame
  refine tk0 5 rfl ?_
  go_frame
  refine tk0 6 rfl ?_
  go_frame
  refine tk0 7 rfl ?_
  go_frame
  refine tk0 8 rfl ?_
  go_frame
  generalize World.drew _ = wd at *
  have hf := row_frozen HT0.out.row 0
  have T2 := HT0.out.setCell 0 (.int .u64 x3)
  have HT := Lib.hid T2; clear T2 HT0
  refine wpAnyL_ready (rs := [9]) (by kernel_rfl) (by simp) ?_
  refine AllReadyL.cons1 (o := _) rfl (by kernel_rfl) (fun K hK => ?_) AllReadyL.nil
  go_simp
  refine hK.out _ _ trivial (fun hHeld => ?_)
  clear hK K hf HM
  refine wpAnyL_done (by kernel_rfl) ?_ _
  try simp only [Exit.then]
  clear hHeld
  generalize World.setCell _ _ _ = we at *
  have r := HT.out.row; have lr := row_lt r
  have c0 := HT.out.cell0C
  go_wp2
  go_ret
  exact ⟨rfl, HT.out⟩
def brkNC (a len mo : Nat) : Nat → Nat → UInt64 × Array Item → UInt64 × Array Item
  | 0, _, st => st
  | k + 1, idx, st => brkNC a len mo k (idx + 1) (breakStep a len mo st idx)
theorem breakPatterns_eqC (d : Array Item) (a z : Nat) (h : 8 ≤ z - a) : breakPatterns d a z = (brkNC a (z - a) (1 <<< bitsLen (z - a)) 3 (a + (z - a) / 4 * 2 - 1) (UInt64.ofNat (z - a), d)).2 := by
  unfold breakPatterns
  dsimp only
  rw [if_pos h]
  rfl
theorem breakPatterns_sizeC (d : Array Item) (a z : Nat) : (breakPatterns d a z).size = d.size := by
  unfold breakPatterns
  dsimp only
  split
  · simp [breakStep, swp_sz]
  · rfl
theorem pow_fitC : ∀ k : Fin 512, 8 ≤ k.val → 1 <<< bitsLen k.val ≤ 2 * k.val ∧ 1 <<< bitsLen k.val = 2 ^ bitsLen k.val ∧ 1 ≤ 1 <<< bitsLen k.val := by decide +kernel
set_option maxHeartbeats 16000000 in
theorem breakPatternsTC {n : Nat} (hd : d.size = n) (a z : Nat) (h8 : 8 ≤ z - a) (hz : z ≤ n) (hn : n < 512) (T : Sts w F W (itR g c d :: R)) :
    Calls Try.prog 76 #[.slice (some ⟨g, 0, none⟩) n c, .int .i64 a, .int .i64 z, CM.cv] W fun e W' => e = .returned (.tuple #[]) ∧ Sts w F W' (itR g c (breakPatterns d a z) :: R) := by
  have HT := Lib.hid T; clear T
  have HES := Lib.hid hd; clear hd
  rw [breakPatterns_eqC d a z h8]
  obtain ⟨L, hL⟩ : ∃ k, k = z - a := ⟨_, rfl⟩
  rw [← hL] at h8 ⊢
  have hpf := pow_fitC ⟨L, by omega⟩ h8
  dsimp only at hpf
  obtain ⟨mo, hmo⟩ : ∃ k, k = 1 <<< bitsLen L := ⟨_, rfl⟩
  rw [← hmo] at hpf ⊢
  obtain ⟨hp1, hp2, hp3⟩ := hpf
  obtain ⟨l4, hl4⟩ : ∃ k, k = L / 4 := ⟨_, rfl⟩
  obtain ⟨l8, hl8⟩ : ∃ k, k = l4 * 2 := ⟨_, rfl⟩
  obtain ⟨ai, hai⟩ : ∃ k, k = a + l8 := ⟨_, rfl⟩
  obtain ⟨i0, hi0⟩ : ∃ k, k = ai - 1 := ⟨_, rfl⟩
  obtain ⟨i3, hi3⟩ : ∃ k, k = ai + 1 := ⟨_, rfl⟩
  rw [← hl4, ← hl8, ← hai, ← hi0]
  obtain ⟨fin, hfin⟩ : ∃ r, r = (brkNC a L mo 3 i0 (UInt64.ofNat L, d)).2 := ⟨_, rfl⟩
  rw [← hfin]
  have HF := Lib.hid hfin; clear hfin
  have e1 : (z : Int) - (a : Int) = (L : Int) := by omega
  have e2 : (L : Int) / 4 = (l4 : Int) := by omega
  have e3 : (l4 : Int) * 2 = (l8 : Int) := by omega
  have e4 : (a : Int) + (l8 : Int) = (ai : Int) := by omega
  have e5 : (ai : Int) - 1 = (i0 : Int) := by omega
  have e6 : (ai : Int) + 1 = (i3 : Int) := by omega
  have v1 := wrapNC L (by omega)
  have v2 := wrapNC l4 (by omega)
  have v3 := wrapNC l8 (by omega)
  have v4 := wrapNC ai (by omega)
  have v5 := wrapNC i0 (by omega)
  have v6 := wrapNC i3 (by omega)
  have g8 : (8 : Int) ≤ (L : Int) := by omega
  have hbd : i0 + 3 ≤ n ∧ a + L ≤ n ∧ i3 = i0 + 2 := by omega
  obtain ⟨hbd1, hbd2, hbd3⟩ := hbd
  have HNP := Lib.hid (fun w => nextPowTC L (by omega) w)
  rw [← hp2] at HNP
  obtain ⟨mo1, hmo1⟩ : ∃ k, k = mo - 1 := ⟨_, rfl⟩
  have m1 : (mo : Int) - 1 = (mo1 : Int) := by omega
  have m2 : IntKind.u64.wrap (mo1 : Int) = (mo1 : Int) := by rw [IntKind.wrap_u64]; omega
  have hmo2 : mo1 < 2 * L := by omega
  have u1 : IntKind.u64.wrap (L : Int) = (L : Int) := by rw [IntKind.wrap_u64]; omega
  have HMO1 := Lib.hid hmo1; have HI0 := Lib.hid hi0
  clear hmo hp1 hp2 hp3 hl4 hl8 hai hi0 hi3 hL hmo1
  have T2 := (HT.out.new #[.int .u64 L] 134).ord [1, 0]
  have HT2 := Lib.hid T2; clear T2 HT
  have HT := HT2; clear HT2
  go_enter Try.func76, Try.ntmps76
  go_wp2_with fail
  refine (HNP.out _).mono ?_
  clear HNP
  rintro e5 w5 ⟨rfl, rfl⟩
  generalize W.heap.size = s at *
  go_wp2_with fail
  go_loopw [11] (fun u wx => ∃ (idx k : Nat) (r : UInt64) (e : Array Item), u = .int .i64 idx ∧ idx + k = i0 + 3 ∧ k ≤ 3 ∧ e.size = n ∧ brkNC a L mo k idx (r, e) = brkNC a L mo 3 i0 (UInt64.ofNat L, d) ∧ Sts w F wx (itR g c e :: rowR s #[.int .u64 r.toNat] :: R)) (fun u _ => i0 + 3 - (intOf u).toNat)
  case atStart =>
    have hr0 : (UInt64.ofNat L).toNat = L := by rw [UInt64.toNat_ofNat']; omega
    exact ⟨i0, 3, UInt64.ofNat L, d, rfl, rfl, Nat.le_refl _, HES.out, rfl, by rw [hr0]; exact HT.out⟩
  case round =>
    clear HT HES
    obtain ⟨idx, k, r, e, rfl, hik, hk3, hes, hB, T⟩ := hrel
    have HT := Lib.hid T; have HES := Lib.hid hes; have HB := Lib.hid hB; clear T hes hB
    cases k with
    | zero =>
      have g1 : ¬ (idx : Int) ≤ (i3 : Int) := by omega
      go_wp2
      go_end0
      refine ⟨rfl, ?_⟩
      have := HB.out
      rw [brkNC] at this
      rw [HF.out, ← this]
      exact (HT.out.ord [1, 0]).drop
    | succ k =>
      have g1 : (idx : Int) ≤ (i3 : Int) := by omega
      obtain ⟨r2, hr2⟩ : ∃ r2, r2 = xorNext r := ⟨_, rfl⟩
      have HN := Lib.hid (nextTC (x := r.toNat) (by have := r.toNat_lt; omega) (HT.out.ord [1, 0]))
      rw [← xorNext_toNat, ← hr2] at HN
      have hB2 := HB.out
      rw [brkNC, breakStep] at hB2
      dsimp only at hB2
      rw [← hr2, ← HMO1.out] at hB2
      obtain ⟨o1, ho1⟩ : ∃ o, o = r2.toNat &&& mo1 := ⟨_, rfl⟩
      have f1 : bits .and .u64 (r2.toNat : Int) (mo1 : Int) = (o1 : Int) := by
        rw [ho1]; exact bits_and_u64_nat r2.toNat mo1 (by have := r2.toNat_lt; omega) (by omega)
      have hole : o1 ≤ mo1 := by rw [ho1]; exact Nat.and_le_right
      rw [← ho1] at hB2
      have w0 := wrapNC o1 (by omega)
      have HB1 := Lib.hid hB2; clear hB2 hr2 ho1 HB
      have hrs := (HT.out.ord [1, 0]).row; have hls := row_lt hrs
      go_wp2_with fail
      refine HN.out.mono ?_
      clear HN HT hrs hls
      rintro e6 w6 ⟨rfl, T⟩
      have HT := Lib.hid (T.ord [1, 0]); clear T
      by_cases hol : L ≤ o1
      · have g2 : (L : Int) ≤ (o1 : Int) := by omega
        obtain ⟨o2, ho2⟩ : ∃ o, o = o1 - L := ⟨_, rfl⟩
        have e7 : (o1 : Int) - (L : Int) = (o2 : Int) := by omega
        have w2 := wrapNC o2 (by omega)
        have hB2 := HB1.out
        rw [if_pos hol, ← ho2] at hB2
        obtain ⟨p, hp⟩ : ∃ p, p = a + o2 := ⟨_, rfl⟩
        rw [← hp] at hB2
        have HB2 := Lib.hid hB2; have ho2L : o2 < L := by omega
        clear hB2 HB1 ho2
        have b1 : (a : Int) + (o2 : Int) = (p : Int) := by omega
        have w1 := wrapNC p (by omega)
        have k1 : (0 : Int) ≤ (idx : Int) := by omega
        have k2 : (0 : Int) ≤ (p : Int) := by omega
        have k3 : (idx : Int) < (n : Int) := by omega
        have k4 : (p : Int) < (n : Int) := by omega
        have HPP := Lib.hid hp; clear hp
        go_upto_region 10 with fail
        have hes := HES.out
        have T := HT.out.drew
        have S0 : (fun W' => loadVal Try.prog 35 2 W' (.pointer (some ⟨g, idx * 2, none⟩)) = .ok (.agg (IV e[idx]!)) W' ∧ loadVal Try.prog 35 2 W' (.pointer (some ⟨g, p * 2, none⟩)) = .ok (.agg (IV e[p]!)) W') _ := ⟨T.itLoad (by omega), T.itLoad (by omega)⟩
        obtain ⟨w6, h6, T6⟩ := T.itSet (i := idx) (by omega) e[p]!
        obtain ⟨w7, h7, T7⟩ := T6.itSet (i := p) (by simp; omega) e[idx]!
        have HT7 := Lib.hid T7
        have HM := Lib.hid (show ∀ W' : World, (loadVal Try.prog 35 2 W' (.pointer (some ⟨g, idx * 2, none⟩)) = .ok (.agg (IV e[idx]!)) W' ∧ loadVal Try.prog 35 2 W' (.pointer (some ⟨g, p * 2, none⟩)) = .ok (.agg (IV e[p]!)) W') → True from fun _ _ => trivial)
        clear T T6 T7 HT hes
        refine wp_region_stage (fun W' => loadVal Try.prog 35 2 W' (.pointer (some ⟨g, idx * 2, none⟩)) = .ok (.agg (IV e[idx]!)) W' ∧ loadVal Try.prog 35 2 W' (.pointer (some ⟨g, p * 2, none⟩)) = .ok (.agg (IV e[p]!)) W') (fun _ => True) 17 (by kernel_rfl) S0 (fun hHeld => ?_)
        clear S0
        refine tk1 2 HM.out rfl ?_
        simp only [Act.put, List.setIfInBounds_toArray, List.set_cons_zero, List.set_cons_succ]
        refine tk1 3 HM.out rfl ?_
        go_frame
        refine tk1 4 HM.out rfl ?_
        go_frame
        refine tk1 5 HM.out rfl ?_
        go_frame
        refine tk1 12 HM.out rfl ?_
        go_frame
        refine tk1 13 HM.out rfl ?_
        go_frame
        refine tk1 14 HM.out rfl ?_
        go_frame
        refine tk0 0 rfl ?_
        simp only [Act.put, List.setIfInBounds_toArray, List.set_cons_zero, List.set_cons_succ]
        refine tk0 1 rfl ?_
        go_frame
        refine tk0 6 rfl ?_
        go_frame
        refine tk0 7 rfl ?_
        go_frame
        refine tk0 8 rfl ?_
        go_frame
        refine tk0 9 rfl ?_
        go_frame
        refine tk0 10 rfl ?_
        go_frame
        refine tk0 11 rfl ?_
        go_frame
        refine tk0 15 rfl ?_
        go_frame
        refine tk0 16 rfl ?_
        go_frame
        refine wpAnyL_ready (rs := [17]) (by kernel_rfl) (by simp) ?_
        refine AllReadyL.cons1 (o := _) rfl (by kernel_rfl) (fun K hK => ?_) AllReadyL.nil
        go_simp
        refine hK.out _ _ trivial (fun hHeld => ?_)
        clear hK K h6
        refine tk2 18 HM.out rfl ?_
        simp only [Act.put, List.setIfInBounds_toArray, List.set_cons_zero, List.set_cons_succ]
        refine wpAnyL_ready (rs := [19]) (by kernel_rfl) (by simp) ?_
        refine AllReadyL.cons1 (o := _) rfl (by kernel_rfl) (fun K hK => ?_) AllReadyL.nil
        go_simp
        refine hK.out _ _ trivial (fun hHeld => ?_)
        clear hK K h7
        refine wpAnyL_done (by kernel_rfl) ?_ _
        try simp only [Exit.then]
        have HT := HT7; clear HT7 HM
        rw [set_set_swp] at HT
        go_wp2
        go_roundw
        case rel => exact ⟨idx + 1, k, r2, swp e idx p, by go_num, by omega, by omega, by rw [swp_sz]; exact HES.out, HB2.out, HT.out⟩
        case measure => (simp [intOf]; try omega)
      · have g2 : ¬ (L : Int) ≤ (o1 : Int) := by omega
        have hB2 := HB1.out
        rw [if_neg hol] at hB2
        obtain ⟨p, hp⟩ : ∃ p, p = a + o1 := ⟨_, rfl⟩
        rw [← hp] at hB2
        have HB2 := Lib.hid hB2
        clear hB2 HB1
        have b1 : (a : Int) + (o1 : Int) = (p : Int) := by omega
        have w1 := wrapNC p (by omega)
        have k1 : (0 : Int) ≤ (idx : Int) := by omega
        have k2 : (0 : Int) ≤ (p : Int) := by omega
        have k3 : (idx : Int) < (n : Int) := by omega
        have k4 : (p : Int) < (n : Int) := by omega
        have HPP := Lib.hid hp; clear hp
        go_upto_region 10 with fail
        have hes := HES.out
        have T := HT.out.drew
        have S0 : (fun W' => loadVal Try.prog 35 2 W' (.pointer (some ⟨g, idx * 2, none⟩)) = .ok (.agg (IV e[idx]!)) W' ∧ loadVal Try.prog 35 2 W' (.pointer (some ⟨g, p * 2, none⟩)) = .ok (.agg (IV e[p]!)) W') _ := ⟨T.itLoad (by omega), T.itLoad (by omega)⟩
        obtain ⟨w6, h6, T6⟩ := T.itSet (i := idx) (by omega) e[p]!
        obtain ⟨w7, h7, T7⟩ := T6.itSet (i := p) (by simp; omega) e[idx]!
        have HT7 := Lib.hid T7
        have HM := Lib.hid (show ∀ W' : World, (loadVal Try.prog 35 2 W' (.pointer (some ⟨g, idx * 2, none⟩)) = .ok (.agg (IV e[idx]!)) W' ∧ loadVal Try.prog 35 2 W' (.pointer (some ⟨g, p * 2, none⟩)) = .ok (.agg (IV e[p]!)) W') → True from fun _ _ => trivial)
        clear T T6 T7 HT hes
        refine wp_region_stage (fun W' => loadVal Try.prog 35 2 W' (.pointer (some ⟨g, idx * 2, none⟩)) = .ok (.agg (IV e[idx]!)) W' ∧ loadVal Try.prog 35 2 W' (.pointer (some ⟨g, p * 2, none⟩)) = .ok (.agg (IV e[p]!)) W') (fun _ => True) 17 (by kernel_rfl) S0 (fun hHeld => ?_)
        clear S0
        refine tk1 2 HM.out rfl ?_
        simp only [Act.put, List.setIfInBounds_toArray, List.set_cons_zero, List.set_cons_succ]
        refine tk1 3 HM.out rfl ?_
        go_frame
        refine tk1 4 HM.out rfl ?_
        go_frame
        refine tk1 5 HM.out rfl ?_
        go_frame
        refine tk1 12 HM.out rfl ?_
        go_frame
        refine tk1 13 HM.out rfl ?_
        go_frame
        refine tk1 14 HM.out rfl ?_
        go_frame
        refine tk0 0 rfl ?_
        simp only [Act.put, List.setIfInBounds_toArray, List.set_cons_zero, List.set_cons_succ]
        refine tk0 1 rfl ?_
        go_frame
        refine tk0 6 rfl ?_
        go_frame
        refine tk0 7 rfl ?_
        go_frame
        refine tk0 8 rfl ?_
        go_frame
        refine tk0 9 rfl ?_
        go_frame
        refine tk0 10 rfl ?_
        go_frame
        refine tk0 11 rfl ?_
        go_frame
        refine tk0 15 rfl ?_
        go_frame
        refine tk0 16 rfl ?_
        go_frame
        refine wpAnyL_ready (rs := [17]) (by kernel_rfl) (by simp) ?_
        refine AllReadyL.cons1 (o := _) rfl (by kernel_rfl) (fun K hK => ?_) AllReadyL.nil
        go_simp
        refine hK.out _ _ trivial (fun hHeld => ?_)
        clear hK K h6
        refine tk2 18 HM.out rfl ?_
        simp only [Act.put, List.setIfInBounds_toArray, List.set_cons_zero, List.set_cons_succ]
        refine wpAnyL_ready (rs := [19]) (by kernel_rfl) (by simp) ?_
        refine AllReadyL.cons1 (o := _) rfl (by kernel_rfl) (fun K hK => ?_) AllReadyL.nil
        go_simp
        refine hK.out _ _ trivial (fun hHeld => ?_)
        clear hK K h7
        refine wpAnyL_done (by kernel_rfl) ?_ _
        try simp only [Exit.then]
        have HT := HT7; clear HT7 HM
        rw [set_set_swp] at HT
        go_wp2
        go_roundw
        case rel => exact ⟨idx + 1, k, r2, swp e idx p, by go_num, by omega, by omega, by rw [swp_sz]; exact HES.out, HB2.out, HT.out⟩
        case measure => (simp [intOf]; try omega)
end
end Go.Proofs.Ytnjgjhjilolanaa
/- pdqsort's round, at so few items that nothing is shifted. No walk stands here. -/
namespace Go.Proofs.Ytnjgjhjilolanaa
open Go.RowKit
open Go.Sort (swp insertionSort heapSort breakPatterns choosePivot reverseRange partialInsertionSort partition partitionEqual pdq Hint partEqLoop_spec partition_holds choosePivot_holds)
set_option linter.unusedVariables false
theorem pdq_unC (lt : Item → Item → Bool) (d : Array Item) (a b limit : Nat) (wb wp : Bool) (h : ¬ b - a ≤ 12) (h0 : ¬ limit = 0) {d1 d2 d3 : Array Item} {lim1 pv : Nat} {hint : Hint} {t : Bool}
    (hd1 : d1 = if (!wb) = true then breakPatterns d a b else d) (hl : lim1 = if (!wb) = true then limit - 1 else limit)
    (hd2 : d2 = if (choosePivot lt d1 a b).2 = .decreasing then reverseRange d1 a b else d1)
    (hpv : pv = if (choosePivot lt d1 a b).2 = .decreasing then (b - 1) - ((choosePivot lt d1 a b).1 - a) else (choosePivot lt d1 a b).1)
    (hh : hint = if (choosePivot lt d1 a b).2 = .decreasing then Hint.increasing else (choosePivot lt d1 a b).2)
    (hpi : (if (wb && wp && decide (hint = .increasing)) = true then partialInsertionSort lt d2 a b else (d2, false)) = (d3, t)) :
    pdq lt d a b limit wb wp = if t = true then d3 else
      if (decide (a > 0) && !lt d3[a - 1]! d3[pv]!) = true then
        (if a < (partitionEqual lt d3 a b pv).1 ∧ (partitionEqual lt d3 a b pv).1 ≤ b then pdq lt (partitionEqual lt d3 a b pv).2 (partitionEqual lt d3 a b pv).1 b lim1 wb wp else (partitionEqual lt d3 a b pv).2)
      else
        (if a ≤ (partition lt d3 a b pv).1 ∧ (partition lt d3 a b pv).1 < b then
          (if (partition lt d3 a b pv).1 - a < b - (partition lt d3 a b pv).1 then
            pdq lt (pdq lt (partition lt d3 a b pv).2.2 a (partition lt d3 a b pv).1 lim1 true true) ((partition lt d3 a b pv).1 + 1) b lim1 (decide ((partition lt d3 a b pv).1 - a ≥ (b - a) / 8)) (partition lt d3 a b pv).2.1
          else pdq lt (pdq lt (partition lt d3 a b pv).2.2 ((partition lt d3 a b pv).1 + 1) b lim1 true true) a (partition lt d3 a b pv).1 lim1 (decide (b - (partition lt d3 a b pv).1 ≥ (b - a) / 8)) (partition lt d3 a b pv).2.1)
        else (partition lt d3 a b pv).2.2) := by
  subst hd1 hl hd2 hpv hh
  rw [pdq, if_neg h, if_neg h0]
  simp only [Bool.and_eq_true, decide_eq_true_eq] at hpi ⊢
  rw [hpi]
  cases t
  · simp only [Bool.false_eq_true, if_false]
    congr 1
  · simp
theorem pe_rangeC (lt : Item → Item → Bool) (d : Array Item) (a b pv : Nat) (hab : a + 1 < b) (hb : b ≤ d.size) : a < (partitionEqual lt d a b pv).1 ∧ (partitionEqual lt d a b pv).1 ≤ b := by
  unfold partitionEqual
  have h := partEqLoop_spec lt a b _ (a + 1) (b - 1) (swp d a pv) (Nat.le_refl _) (Nat.lt_succ_self a) (by omega) (by omega) (by rw [swp_sz]; exact hb) (fun t h1 h2 => by omega) (fun t h1 h2 => by omega)
  exact ⟨h.1, h.2.1⟩
theorem pt_rangeC (CM : CmpK) (hm : CM.Ok) (d : Array Item) (a b pv : Nat) (h1 : a ≤ pv) (h2 : pv < b) (hb : b ≤ d.size) : a ≤ (partition CM.lt d a b pv).1 ∧ (partition CM.lt d a b pv).1 < b := by
  have h := partition_holds CM.lt (hm.swo) d a b pv h1 h2 hb
  exact ⟨h.1, h.2.1⟩
theorem rev_sizeC (d : Array Item) (a b : Nat) : (reverseRange d a b).size = d.size := reverseLoop_sizeC _ _ _ _ (Nat.le_refl _)
theorem pi_anyC (lt : Item → Item → Bool) (d : Array Item) (a b : Nat) (c : Bool) : ∃ d3 t, (if c = true then partialInsertionSort lt d a b else (d, false)) = (d3, t) ∧ d3.size = d.size := by
  cases c
  · exact ⟨d, false, by simp, rfl⟩
  · rw [if_pos rfl]
    exact ⟨_, _, rfl, partial_szC lt d a b⟩
theorem pdq_szC (lt : Item → Item → Bool) {n : Nat} : ∀ (K a b : Nat), b - a ≤ K → b ≤ n → ∀ (d : Array Item) (lim : Nat) (wb wp : Bool), d.size = n → (pdq lt d a b lim wb wp).size = n := by
  intro K
  induction K with
  | zero =>
    intro a b hk hb d lim wb wp hd
    rw [pdq, if_pos (by omega), insertionSort_szC, hd]
  | succ K ih =>
    intro a b hk hb d lim wb wp hd
    by_cases h12 : b - a ≤ 12
    · rw [pdq, if_pos h12, insertionSort_szC, hd]
    · by_cases h0 : lim = 0
      · rw [pdq, if_neg h12, if_pos h0, heapSort_sizeC, hd]
      · have hs1 : (if (!wb) = true then breakPatterns d a b else d).size = n := by split <;> simp [breakPatterns_sizeC, hd]
        generalize hd1 : (if (!wb) = true then breakPatterns d a b else d) = d1 at hs1
        have hs2 : (if (choosePivot lt d1 a b).2 = .decreasing then reverseRange d1 a b else d1).size = n := by split <;> simp [rev_sizeC, hs1]
        generalize hd2 : (if (choosePivot lt d1 a b).2 = .decreasing then reverseRange d1 a b else d1) = d2 at hs2
        obtain ⟨d3, t, ht, hs3⟩ := pi_anyC lt d2 a b (wb && wp && decide ((if (choosePivot lt d1 a b).2 = .decreasing then Hint.increasing else (choosePivot lt d1 a b).2) = .increasing))
        obtain ⟨pv, hpv⟩ : ∃ pv, pv = (if (choosePivot lt d1 a b).2 = .decreasing then (b - 1) - ((choosePivot lt d1 a b).1 - a) else (choosePivot lt d1 a b).1) := ⟨_, rfl⟩
        rw [hs2] at hs3
        rw [pdq_unC lt d a b lim wb wp h12 h0 hd1.symm rfl hd2.symm hpv rfl ht]
        split
        · exact hs3
        · split
          · split
            · rename_i hr
              exact ih _ _ (by omega) hb _ _ _ _ (by rw [partitionEqual_sizeC, hs3])
            · rw [partitionEqual_sizeC, hs3]
          · split
            · rename_i hr
              split
              · exact ih _ _ (by omega) hb _ _ _ _ (ih _ _ (by omega) (by omega) _ _ _ _ (by rw [partition_sizeC, hs3]))
              · exact ih _ _ (by omega) (by omega) _ _ _ _ (ih _ _ (by omega) hb _ _ _ _ (by rw [partition_sizeC, hs3]))
            · rw [partition_sizeC, hs3]
end Go.Proofs.Ytnjgjhjilolanaa
