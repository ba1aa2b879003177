/- Several texts in one. -/
import Derived.Test.YtpganpiidgkofaaZ19
import Derived.Test.YtpganpiidgkofaaZ5
import Derived.Test.YtpganpiidgkofaaZ18
import Derived.Test.YtpganpiidgkofaaZ21
/- Layer 6: sums, texts sealed. -/
namespace Go.Proofs.Ytpganpiidgkofaa
open Go.RowKit
set_option linter.unusedVariables false
attribute [local go_sem] row_alloc row_drew row_drewN row_ext row_setCell row_setRow size_ext setRow_alloc setRow_drew loadOf storeOf piece_lit loadVal_at storeVal_at allOne_lit buildOf buildRes_some
attribute [local go_sem high] cell_alloc frozen_alloc setCell_alloc cell_ext frozen_ext cell_setRow frozen_setRow
theorem and_one (c : Nat) (h : c < 4294967296) : bits .and .u32 (c : Int) 1 = ((c % 2 : Nat) : Int) := by
  have := u32_and_nat c 1 h (by omega)
  rw [show ((1 : Nat) : Int) = 1 from rfl] at this
  rw [this, Nat.and_one_is_mod]
theorem xor_poly (c : Nat) (h : c < 4294967296) : bits .xor .u32 ((c : Int) / 2) 3988292384 = ((c / 2 ^^^ crcP : Nat) : Int) := by
  have := u32_xor_nat (c / 2) crcP (by omega) (by unfold crcP; omega)
  rw [← this]; rfl
set_option maxHeartbeats 1000000 in
theorem step_any (c b : Nat) (hc : c < 4294967296) (hb : b < 256) : Ans Try.prog 123 #[.int .u32 c, .int .u8 b] (.int .u32 (crcB c b)) := by
  intro w
  have hx := u32_xor_nat c b hc (by omega)
  go_enter Try.func123, Try.ntmps123
  go_wp2
  go_loop [0, 9] (fun u i => ∃ k : Nat, k ≤ 8 ∧ i = .int .i64 k ∧ u = .int .u32 (crcN k (c ^^^ b))) (fun _ i => 8 - (intOf i).toNat)
  case atStart => exact ⟨0, by omega, rfl, rfl⟩
  case round =>
    obtain ⟨k, hk, rfl, rfl⟩ := hrel
    clear hx
    by_cases hk8 : k < 8
    · have hlt := crcN_lt (c := c ^^^ b) (Nat.xor_lt_two_pow (n := 32) (by omega) (by omega)) k
      have hs : crcN (k + 1) (c ^^^ b) = crc1 (crcN k (c ^^^ b)) := rfl
      have HS := Lib.hid hs; clear hs
      generalize crcN k (c ^^^ b) = e at *
      have h1 := and_one e hlt
      have h2 := xor_poly e hlt
      by_cases ho : e % 2 = 1
      · have hc1 : crc1 e = e / 2 ^^^ crcP := by unfold crc1; rw [if_pos ho]
        rw [ho] at h1
        have HC := Lib.hid hc1; clear hc1 ho
        generalize e / 2 ^^^ crcP = e2 at *
        go_wp2
        go_round
        case rel => exact ⟨k + 1, by omega, by go_num, by rw [HS.out, HC.out]⟩
        case measure => simp [intOf]; omega
      · have ho0 : e % 2 = 0 := by omega
        have hc1 : crc1 e = e / 2 := by unfold crc1; rw [if_neg ho]
        rw [ho0] at h1
        have HC := Lib.hid hc1; clear hc1 ho ho0
        go_wp2
        go_round
        case rel => exact ⟨k + 1, by omega, by go_num, by rw [HS.out, HC.out]; first | rfl | simp⟩
        case measure => simp [intOf]; omega
    · obtain rfl : k = 8 := by omega
      go_wp2
      go_ret
      exact ⟨rfl, Below.refl _ _⟩
theorem conv_four (W : World) (a b c d : UInt8) : (convert 98 9 (.slice (some ⟨W.heap.size, 0, none⟩) 4 4)).run Try.prog (W.alloc (.cells #[.int .u8 (a.toNat : Int), .int .u8 (b.toNat : Int), .int .u8 (c.toNat : Int), .int .u8 (d.toNat : Int)] 5)) = .ok (.string (strL [a, b, c, d])) (W.alloc (.cells #[.int .u8 (a.toNat : Int), .int .u8 (b.toNat : Int), .int .u8 (c.toNat : Int), .int .u8 (d.toNat : Int)] 5)) := by
  refine run_convert_bytes_back _ _ _ _ ⟨W.heap.size, 0, none⟩ 4 [a, b, c, d] Try.underlying98 Try.underlying5 Try.underlying9 fun j hj => ?_
  have hadd : (⟨W.heap.size, 0, none⟩ : Addr).add j = ⟨W.heap.size, j, none⟩ := by unfold Addr.add; split <;> simp_all
  rw [hadd, cell_alloc, if_pos rfl]
  match j, hj with
  | 0, _ => rfl
  | 1, _ => rfl
  | 2, _ => rfl
  | 3, _ => rfl
theorem byte_of (n : Nat) : IntKind.u8.wrap (n : Int) = ((UInt8.ofNat n).toNat : Int) := by
  rw [UInt8.toNat_ofNat', IntKind.wrap_u8]; omega
set_option maxHeartbeats 1000000 in
theorem four_any (c : Nat) (hc : c < 4294967296) : Ans Try.prog 107 #[.int .u32 c] (.string (strL (fourB c))) := by
  intro w
  have h0 := byte_of c
  have h1 := byte_of (c / 256)
  have h2 := byte_of (c / 65536)
  have h3 := byte_of (c / 16777216)
  have e1 : ((c / 256 : Nat) : Int) = (c : Int) / 256 := by omega
  have e2 : ((c / 65536 : Nat) : Int) = (c : Int) / 65536 := by omega
  have e3 : ((c / 16777216 : Nat) : Int) = (c : Int) / 16777216 := by omega
  rw [e1] at h1; rw [e2] at h2; rw [e3] at h3
  clear e1 e2 e3
  unfold fourB
  generalize UInt8.ofNat c = x0 at *
  generalize UInt8.ofNat (c / 256) = x1 at *
  generalize UInt8.ofNat (c / 65536) = x2 at *
  generalize UInt8.ofNat (c / 16777216) = x3 at *
  have hcv := conv_four w x0 x1 x2 x3
  generalize strL [x0, x1, x2, x3] = B at *
  go_enter Try.func107, Try.ntmps107
  go_wp2
  go_ret
  exact ⟨rfl, (Below.refl _ _).alloc (Nat.le_refl _) _⟩
/-- texts in a row -/
def textsV (l : List (List UInt8)) : Array Value := (l.map fun t => Value.string (strL t)).toArray
theorem textsV_get (l : List (List UInt8)) (k : Nat) (hk : k < l.length) : (textsV l)[k]? = some (.string (strL l[k])) := by
  simp [textsV, hk]
theorem not_u32 (c : Nat) (h : c < 4294967296) : (4294967295 - (c : Int)) = ((4294967295 - c : Nat) : Int) := by omega
theorem not_bits (c : Nat) (h : c < 4294967296) : bits .xor .u32 IntKind.u32.max (c : Int) = ((4294967295 - c : Nat) : Int) := by
  have e : IntKind.u32.max = ((4294967295 : Nat) : Int) := rfl
  rw [e, u32_xor_nat _ _ (by omega) h]
  congr 1
  have h1 : (BitVec.allOnes 32 ^^^ BitVec.ofNat 32 c).toNat = 4294967295 ^^^ c := by
    rw [BitVec.toNat_xor]; simp [BitVec.toNat_ofNat, Nat.mod_eq_of_lt h]
  rw [← h1, BitVec.allOnes_xor, BitVec.toNat_not]
  simp [Nat.mod_eq_of_lt h]
set_option maxHeartbeats 2000000 in
theorem sumD (h : Nat) (l : List (List UInt8)) (c : Nat) (hl : l.length ≤ 1000) (hz : ∀ t ∈ l, t.length ≤ 1000000000) : Does Try.prog 108 #[.slice (some ⟨h, 0, none⟩) l.length c] [rowR h (textsV l)] (.int .u32 (crc l.flatten)) [rowR h (textsV l)] := by
  intro W G hS
  have T := Sts.start hS
  clear hS
  go_enter Try.func108, Try.ntmps108
  go_wp2
  go_loopw [3, 9] (fun u i wr => ∃ k : Nat, k ≤ l.length ∧ i = .int .i64 k ∧ u = .int .u32 (crcL 4294967295 (l.take k).flatten) ∧ Sts W G wr [rowR h (textsV l)]) (fun _ i _ => l.length - (intOf i).toNat)
  case atStart => exact ⟨0, by omega, rfl, rfl, T⟩
  case round =>
    clear T
    obtain ⟨k, hk, rfl, rfl, T⟩ := hrel
    by_cases hkl : k < l.length
    · have hc := row_cell T.row k
      rw [textsV_get l k hkl] at hc
      have htz := hz l[k] (List.getElem_mem hkl)
      have hsn : (l.take (k + 1)).flatten = (l.take k).flatten ++ l[k] := by rw [List.take_succ_eq_append_getElem hkl, List.flatten_append, List.flatten_cons, List.flatten_nil, List.append_nil]
      have HSN := Lib.hid hsn; clear hsn
      have hc0 : crcL 4294967295 (l.take k).flatten < 4294967296 := crcL_lt (by omega)
      have happ : crcL 4294967295 ((l.take k).flatten ++ l[k]) = crcL (crcL 4294967295 (l.take k).flatten) l[k] := crcL_app _ _ _
      have HAPP := Lib.hid happ; clear happ
      generalize crcL 4294967295 (l.take k).flatten = c0 at *
      generalize l[k] = t at *
      have hsz := strL_size t
      have hget : ∀ j (hj : j < (strL t).size) (hj' : j < t.length), (strL t)[j]'hj = t[j]'hj' := fun j hj _ => rfl
      have HSZ := Lib.hid hsz
      have htz2 : (strL t).size ≤ 1000000000 := by rw [hsz]; exact htz
      clear hsz
      go_wp2
      go_loopw [3, 15] (fun u i wr => ∃ j : Nat, j ≤ t.length ∧ i = .int .i64 j ∧ u = .int .u32 (crcL c0 (t.take j)) ∧ Sts W G wr [rowR h (textsV l)]) (fun _ i _ => t.length - (intOf i).toNat)
      case atStart => exact ⟨0, by omega, rfl, rfl, T⟩
      case round =>
        clear T hc
        obtain ⟨j, hj, rfl, rfl, T⟩ := hrel
        have hc1 : crcL c0 (t.take j) < 4294967296 := crcL_lt hc0
        by_cases hjl : j < t.length
        · have hjl2 : j < (strL t).size := by rw [HSZ.out]; exact hjl
          have hg1 := hget j hjl2 hjl
          have hsn : t.take (j + 1) = t.take j ++ [t[j]'hjl] := List.take_succ_eq_append_getElem hjl
          have hcs : crcL c0 (t.take (j + 1)) = crcB (crcL c0 (t.take j)) (t[j]'hjl).toNat := by rw [hsn, crcL_snoc]
          have HCS := Lib.hid hcs; clear hcs hsn
          have hb := (t[j]'hjl).toNat_lt
          have C := Lib.hid (step_any (crcL c0 (t.take j)) (t[j]'hjl).toNat hc1 hb)
          generalize crcL c0 (t.take j) = c1 at *
          clear hget
          generalize t[j]'hjl = x at *
          generalize strL t = B at *
          go_wp2_with fail
          refine (Ans.at C.out T).mono ?_; clear T; rintro e w1 ⟨rfl, T⟩
          go_wp2
          go_roundw
          case rel => exact ⟨j + 1, by omega, by go_num, by rw [HCS.out], T⟩
          case measure => simp [intOf]; omega
        · obtain rfl : j = t.length := by omega
          have hjl2 : ¬ t.length < (strL t).size := by rw [HSZ.out]; omega
          rw [List.take_length]
          clear hget
          have hsz3 := HSZ.out
          clear hjl2
          go_wp2
          go_roundw
          case rel => exact ⟨k + 1, by omega, by go_num, by rw [HSN.out, HAPP.out], T⟩
          case measure => simp [intOf]; omega
    · obtain rfl : k = l.length := by omega
      rw [List.take_length]
      have hlt : crcL 4294967295 l.flatten < 4294967296 := crcL_lt (by omega)
      have hn := not_bits _ hlt
      have hsg : IntKind.u32.signed = false := rfl
      have hcr : crc l.flatten = 4294967295 - crcL 4294967295 l.flatten := rfl
      have HC := Lib.hid hcr; clear hcr
      generalize crcL 4294967295 l.flatten = c0 at *
      go_wp2
      go_ret
      exact ⟨by rw [HC.out]; first | rfl | exact congrArg Ending.returned (by simp [hn]), T⟩
theorem bit_eq {x e k : Nat} (h : x / 2 ^ k % 2 = e % 2) : (((x : Int) / 2 ^ k % 2) != ((e : Int) % 2)) = false := by
  have : (x : Int) / 2 ^ k % 2 = ((x / 2 ^ k % 2 : Nat) : Int) := by simp
  rw [this, h]; simp
theorem bit_ne {x e k : Nat} (h : ¬ x / 2 ^ k % 2 = e % 2) : (((x : Int) / 2 ^ k % 2) != ((e : Int) % 2)) = true := by
  have h1 : (x : Int) / 2 ^ k % 2 = ((x / 2 ^ k % 2 : Nat) : Int) := by simp
  have h2 : (e : Int) % 2 = ((e % 2 : Nat) : Int) := by simp
  rw [h1, h2, bne_iff_ne]
  omega
theorem xor_poly2 (c : Nat) (h : c < 4294967296) : bits .xor .u32 (c : Int) 3988292384 = ((c ^^^ crcP : Nat) : Int) := by
  have := u32_xor_nat c crcP h (by unfold crcP; omega)
  rw [← this]; rfl
set_option maxHeartbeats 4000000 in
theorem rsum_any (t : List UInt8) (hz : t.length ≤ 1000000000) : Ans Try.prog 98 #[.string (strL t)] (.int .u32 (crc t)) := by
  intro w
  have hsz := strL_size t
  have hget : ∀ j (hj : j < (strL t).size) (hj' : j < t.length), (strL t)[j]'hj = t[j]'hj' := fun j hj _ => rfl
  have HSZ := Lib.hid hsz
  have htz2 : (strL t).size ≤ 1000000000 := by rw [hsz]; exact hz
  clear hsz
  go_enter Try.func98, Try.ntmps98
  go_wp2
  go_loop [3, 4] (fun u i => ∃ j : Nat, j ≤ t.length ∧ i = .int .i64 j ∧ u = .int .u32 (crcL 4294967295 (t.take j))) (fun _ i => t.length - (intOf i).toNat)
  case atStart => exact ⟨0, by omega, rfl, rfl⟩
  case round =>
    obtain ⟨j, hj, rfl, rfl⟩ := hrel
    have hc1 : crcL 4294967295 (t.take j) < 4294967296 := crcL_lt (by omega)
    by_cases hjl : j < t.length
    · have hjl2 : j < (strL t).size := by rw [HSZ.out]; exact hjl
      have hg1 := hget j hjl2 hjl
      have hsn : t.take (j + 1) = t.take j ++ [t[j]'hjl] := List.take_succ_eq_append_getElem hjl
      have hcs : crcL 4294967295 (t.take (j + 1)) = refN (crcL 4294967295 (t.take j)) (t[j]'hjl).toNat 8 := by rw [hsn, crcL_snoc, crcB_ref (t[j]'hjl).toNat_lt]
      have HCS := Lib.hid hcs; clear hcs hsn
      have hb := (t[j]'hjl).toNat_lt
      generalize crcL 4294967295 (t.take j) = c1 at *
      clear hget
      generalize t[j]'hjl = x at *
      generalize strL t = B at *
      go_wp2
      go_loop [3, 5] (fun u i => ∃ k : Nat, k ≤ 8 ∧ i = .int .i64 k ∧ u = .int .u32 (refN c1 x.toNat k)) (fun _ i => 8 - (intOf i).toNat)
      case atStart => exact ⟨0, by omega, rfl, rfl⟩
      case round =>
        obtain ⟨k, hk, rfl, rfl⟩ := hrel
        by_cases hk8 : k < 8
        · have hrl := refN_lt (b := x.toNat) hc1 k
          have hrs : refN c1 x.toNat (k + 1) = ref1 (refN c1 x.toNat k) x.toNat k := rfl
          have HRS := Lib.hid hrs; clear hrs
          generalize refN c1 x.toNat k = e at *
          have hxp := xor_poly e hrl
          have hr1 : ref1 e x.toNat k = if x.toNat / 2 ^ k % 2 ≠ e % 2 then (e / 2) ^^^ crcP else e / 2 := rfl
          by_cases hne : x.toNat / 2 ^ k % 2 = e % 2
          · rw [if_neg (by simp [hne])] at hr1
            have hnx : ∃ k' : Nat, k' ≤ 8 ∧ Value.int .i64 ((k : Int) + 1) = .int .i64 k' ∧ Value.int .u32 ((e : Int) / 2) = .int .u32 (refN c1 x.toNat k') := ⟨k + 1, by omega, by go_num, by rw [HRS.out, hr1]; simp⟩
            have HNX := Lib.hid hnx; clear hnx hr1 HRS
            have hk2 : k = 0 ∨ k = 1 ∨ k = 2 ∨ k = 3 ∨ k = 4 ∨ k = 5 ∨ k = 6 ∨ k = 7 := by omega
            rcases hk2 with rfl | rfl | rfl | rfl | rfl | rfl | rfl | rfl
            all_goals
              have q1 := bit_eq hne
              simp only [Int.reducePow, Int.ediv_one] at q1
              clear hne
              go_wp2
              go_round
              case rel => simpa using HNX.out
              case measure => simp [intOf]
          · rw [if_pos (by simpa using hne)] at hr1
            have hnx : ∃ k' : Nat, k' ≤ 8 ∧ Value.int .i64 ((k : Int) + 1) = .int .i64 k' ∧ Value.int .u32 ((e / 2 ^^^ crcP : Nat) : Int) = .int .u32 (refN c1 x.toNat k') := ⟨k + 1, by omega, by go_num, by rw [HRS.out, hr1]⟩
            have HNX := Lib.hid hnx; clear hnx hr1 HRS
            have q2 : IntKind.u64.wrap (k : Int) = k := IntWalk.u64_in _ (by omega)
            have hk2 : k = 0 ∨ k = 1 ∨ k = 2 ∨ k = 3 ∨ k = 4 ∨ k = 5 ∨ k = 6 ∨ k = 7 := by omega
            generalize e / 2 ^^^ crcP = e2 at *
            rcases hk2 with rfl | rfl | rfl | rfl | rfl | rfl | rfl | rfl
            all_goals
              have q1 := bit_ne hne
              simp only [Int.reducePow, Int.ediv_one] at q1
              clear hne q2
              go_wp2
              go_round
              case rel => simpa using HNX.out
              case measure => simp [intOf]
        · obtain rfl : k = 8 := by omega
          go_wp2
          go_round
          case rel => exact ⟨j + 1, by omega, by go_num, by rw [HCS.out]⟩
          case measure => simp [intOf]; omega
    · obtain rfl : j = t.length := by omega
      rw [List.take_length] at hc1 ⊢
      have hsz3 := HSZ.out
      have hcr : crc t = 4294967295 - crcL 4294967295 t := rfl
      have HC := Lib.hid hcr; clear hcr
      have hn := not_u32 _ hc1
      generalize crcL 4294967295 t = c0 at *
      clear hget HSZ
      generalize strL t = B at *
      go_wp2
      go_ret
      exact ⟨by rw [HC.out]; first | rfl | (congr 2), Below.refl _ _⟩
end Go.Proofs.Ytpganpiidgkofaa
