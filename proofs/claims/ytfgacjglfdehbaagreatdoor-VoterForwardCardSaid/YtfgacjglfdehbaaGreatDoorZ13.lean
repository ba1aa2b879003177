/- Several texts in one. -/
import Derived.Test.YtfgacjglfdehbaaGreatDoorZ2
import Derived.Laws.BitsAllLaws
/- Layer 1, reading: a source in memory, and what each call takes from it. -/
namespace Go.Proofs.YtfgacjglfdehbaaGreatDoor
open Go.RowKit
set_option linter.unusedVariables false
attribute [local go_sem] row_alloc row_drew row_drewN row_ext row_setCell row_setRow size_ext setRow_alloc setRow_drew
attribute [local go_sem high] cell_alloc frozen_alloc setCell_alloc cell_ext frozen_ext
def strL (l : List UInt8) : ByteArray := ⟨l.toArray⟩
theorem strL_size (l : List UInt8) : (strL l).size = l.length := by simp [strL, ByteArray.size]
theorem strL_take (l : List UInt8) (n : Nat) : (strL l).extract 0 n = strL (l.take n) := by
  apply ByteArray.ext; simp [strL, ByteArray.data_extract]
theorem strL_drop (l : List UInt8) (n : Nat) : (strL l).extract n l.length = strL (l.drop n) := by
  apply ByteArray.ext
  simp only [strL, ByteArray.data_extract]
  apply Array.ext'
  simp
  exact List.take_of_length_le (by rw [List.length_drop]; exact Nat.le_refl _)
/-- What a source still has, and whether something was missing. -/
structure Src where
  left : List UInt8
  dry : Bool
def dryS : Src := ⟨[], true⟩
def SV (s : Src) : Array Value := #[.string (strL s.left), .bool s.dry]
/-- So many bytes. -/
def rawS (s : Src) (n : Int) : List UInt8 × Src :=
  if s.dry = true ∨ n < 0 ∨ (s.left.length : Int) < n then ([], dryS) else (s.left.take n.toNat, ⟨s.left.drop n.toNat, false⟩)
section
variable {W : World} {g : Nat} {s : Src}
set_option maxHeartbeats 1000000 in
theorem from_any (W : World) (l : List UInt8) : Calls Tryz.prog 57 #[.string (strL l)] W fun e w' => e = .returned (.pointer (some ⟨W.heap.size, 0, none⟩)) ∧ row? w' W.heap.size = some (SV ⟨l, false⟩) ∧ Below W.heap.size W w' ∧ w'.heap.size = W.heap.size + 1 := by
  go_enter Tryz.func57, Tryz.ntmps57
  go_wp2
  go_ret
  refine ⟨rfl, ?_, (Below.refl _ _).alloc (Nat.le_refl _) _, by simp⟩
  rw [row_alloc, if_pos rfl]; rfl
set_option maxHeartbeats 1000000 in
theorem stop_any (h : row? W g = some (SV s)) : Calls Tryz.prog 84 #[.pointer (some ⟨g, 0, none⟩)] W fun e w' => e = .returned (.tuple #[]) ∧ row? w' g = some (SV dryS) ∧ Touch W w' g none ∧ w'.heap.size = W.heap.size := by
  have hc := row_cell h
  have hf := row_frozen h
  have Hr := Lib.hid h; clear h
  unfold SV at hc
  go_enter Tryz.func84, Tryz.ntmps84
  go_wp2
  go_end0
  refine ⟨rfl, ?_, (grown_cell _ _ _ _).trans (Fresh.refl _ _) (grown_cell _ _ _ _), by simp [World.setCell]⟩
  rw [row_setCell, if_pos rfl, row_setCell, if_pos rfl, Hr.out]; rfl
set_option maxHeartbeats 1000000 in
theorem raw_any (h : row? W g = some (SV s)) (n : Int) (hn : -9223372036854775808 ≤ n ∧ n ≤ 9223372036854775807) :
    Calls Tryz.prog 77 #[.pointer (some ⟨g, 0, none⟩), .int .i64 n] W fun e w' => e = .returned (.string (strL (rawS s n).1)) ∧ row? w' g = some (SV (rawS s n).2) ∧ Touch W w' g none ∧ w'.heap.size = W.heap.size := by
  have hc := row_cell h
  have hf := row_frozen h
  have Hr := Lib.hid h
  have hz := strL_size s.left
  unfold SV at hc
  by_cases hs : s.dry = true ∨ n < 0 ∨ (s.left.length : Int) < n
  · have Hs := Lib.hid hs
    have hra : rawS s n = ([], dryS) := by unfold rawS; rw [if_pos hs]
    rw [hra]
    clear hra
    have hg : (s.dry || decide (n < 0) || decide ((s.left.length : Int) < n)) = true := by
      simp only [Bool.or_eq_true, decide_eq_true_eq, or_assoc]; exact hs
    clear hs
    go_enter Tryz.func77, Tryz.ntmps77
    clear h hn
    cases hsd : s.dry
    · rw [hsd] at hc hg
      rw [Bool.false_or] at hg
      go_wp2_with fail
      all_goals first
        | (refine (stop_any Hr.out).mono ?_; rintro e w' ⟨rfl, hr, hT, hzz⟩
           go_wp2
           go_ret
           exact ⟨rfl, hr, hT, hzz⟩)
        | (exfalso; simp only [Bool.or_eq_true, decide_eq_true_eq] at hg; omega)
    · rw [hsd] at hc
      go_wp2_with fail
      refine (stop_any Hr.out).mono ?_; rintro e w' ⟨rfl, hr, hT, hzz⟩
      go_wp2
      go_ret
      exact ⟨rfl, hr, hT, hzz⟩
  · have hra : rawS s n = (s.left.take n.toNat, ⟨s.left.drop n.toNat, false⟩) := by unfold rawS; rw [if_neg hs]
    rw [hra]
    clear hra h
    obtain ⟨m, rfl⟩ : ∃ m : Nat, n = m := ⟨n.toNat, by omega⟩
    have hd : s.dry = false := by cases hsd : s.dry <;> simp_all
    have hl : m ≤ s.left.length := by omega
    have hl2 : (m : Int) ≤ (s.left.length : Int) := by omega
    clear hs
    rw [hd] at hc
    rw [Int.toNat_natCast]
    have e1 := strL_take s.left m
    have e2 := strL_drop s.left m
    generalize strL s.left = B at *
    generalize strL (s.left.take m) = X at *
    go_enter Tryz.func77, Tryz.ntmps77
    go_wp2
    go_ret
    refine ⟨rfl, ?_, grown_cell _ _ _ _, by simp [World.setCell]⟩
    rw [row_setCell, if_pos rfl, Hr.out]
    show some _ = _
    simp [SV, hd]
end
end Go.Proofs.YtfgacjglfdehbaaGreatDoor
/- Layer 1: the plain law of numbers as bytes, seven bits at a time. No program stands here. -/
namespace Go.Proofs.YtfgacjglfdehbaaGreatDoor
set_option linter.unusedVariables false
/-- A number's bytes. -/
def enc (n : Nat) : List UInt8 :=
  if h : n < 128 then [UInt8.ofNat n] else UInt8.ofNat (128 + n % 128) :: enc (n / 128)
termination_by n
decreasing_by omega
/-- The number with which bytes begin, read from place i on, u being what stands so far; and what follows. -/
def dec (most : Nat) : Nat → Nat → List UInt8 → Option (Nat × List UInt8)
  | _, _, [] => none
  | i, u, x :: s =>
    if 8 < i then none
    else if x.toNat < 128 then
      if x.toNat = 0 ∧ 0 < i ∨ most < u + x.toNat * 128 ^ i then none else some (u + x.toNat * 128 ^ i, s)
    else dec most (i + 1) (u + (x.toNat - 128) * 128 ^ i) s
theorem enc_small {n : Nat} (h : n < 128) : enc n = [UInt8.ofNat n] := by rw [enc, dif_pos h]
theorem enc_great {n : Nat} (h : ¬ n < 128) : enc n = UInt8.ofNat (128 + n % 128) :: enc (n / 128) := by rw [enc, dif_neg h]
theorem enc_pos (n : Nat) : 0 < (enc n).length := by
  by_cases h : n < 128
  · rw [enc_small h]; simp
  · rw [enc_great h]; simp
/-- What was written is read, if it is not too great and fits. -/
theorem dec_enc (most : Nat) : ∀ (k i u n : Nat) (s : List UInt8), n < 128 ^ k → i + k ≤ 9 → (0 < i → 0 < n) → u + n * 128 ^ i ≤ most → dec most i u (enc n ++ s) = some (u + n * 128 ^ i, s)
  | 0, i, u, n, s, hk, hi, hp, hm => by
    have h0 : n = 0 := by simp at hk; exact hk
    have hi0 : i = 0 := by omega
    subst h0; subst hi0
    rw [enc_small (by omega)]
    simp [dec]
    omega
  | k + 1, i, u, n, s, hk, hi, hp, hm => by
    by_cases h : n < 128
    · rw [enc_small h]
      have hx : (UInt8.ofNat n).toNat = n := by rw [UInt8.toNat_ofNat']; omega
      simp only [List.singleton_append, dec, hx]
      rw [if_neg (by omega), if_pos h, if_neg (by omega)]
    · rw [enc_great h]
      have hx : (UInt8.ofNat (128 + n % 128)).toNat = 128 + n % 128 := by rw [UInt8.toNat_ofNat']; omega
      simp only [List.cons_append, dec, hx]
      have hsplit : u + (128 + n % 128 - 128) * 128 ^ i + n / 128 * 128 ^ (i + 1) = u + n * 128 ^ i := by
        have e1 : 128 + n % 128 - 128 = n % 128 := by omega
        have e2 : n / 128 * 128 ^ (i + 1) = (n / 128 * 128) * 128 ^ i := by rw [Nat.pow_succ, Nat.mul_comm (128 ^ i) 128, Nat.mul_assoc]
        have e3 : n % 128 + n / 128 * 128 = n := by omega
        rw [e1, e2, Nat.add_assoc, ← Nat.add_mul, e3]
      rw [if_neg (by omega), if_neg (by omega)]
      have hk2 : n / 128 < 128 ^ k := by rw [Nat.pow_succ] at hk; omega
      have hm2 : u + (128 + n % 128 - 128) * 128 ^ i + n / 128 * 128 ^ (i + 1) ≤ most := by rw [hsplit]; exact hm
      have ih := dec_enc most k (i + 1) _ (n / 128) s hk2 (by omega) (by omega) hm2
      rw [hsplit] at ih
      exact ih
/-- What is read was written so. -/
theorem dec_some (most : Nat) : ∀ (s : List UInt8) (i u v : Nat) (r : List UInt8), dec most i u s = some (v, r) →
    ∃ n, v = u + n * 128 ^ i ∧ v ≤ most ∧ s = enc n ++ r ∧ (0 < i → 0 < n) ∧ n < 128 ^ (9 - i)
  | [], i, u, v, r, h => by simp [dec] at h
  | x :: s, i, u, v, r, h => by
    simp only [dec] at h
    have hxb := x.toNat_lt
    split at h
    · simp at h
    · split at h
      · rename_i h8 hx
        split at h
        · simp at h
        · rename_i hc
          injection h with h
          injection h with h1 h2
          subst h1; subst h2
          refine ⟨x.toNat, rfl, by omega, ?_, by omega, ?_⟩
          · rw [enc_small hx]; simp
          · obtain ⟨j, hj⟩ : ∃ j, 9 - i = j + 1 := ⟨8 - i, by omega⟩
            rw [hj, Nat.pow_succ]
            have : 0 < 128 ^ j := Nat.pow_pos (by omega)
            omega
      · rename_i h8 hx
        obtain ⟨n, hv, hm, hs, hp, hn⟩ := dec_some most s _ _ v r h
        have hn0 := hp (by omega)
        refine ⟨n * 128 + (x.toNat - 128), ?_, hm, ?_, by omega, ?_⟩
        · rw [hv, Nat.pow_succ, Nat.add_mul, Nat.mul_assoc, Nat.mul_comm 128 (128 ^ i)]; omega
        · rw [enc_great (by omega)]
          have e1 : (n * 128 + (x.toNat - 128)) / 128 = n := by omega
          have e2 : 128 + (n * 128 + (x.toNat - 128)) % 128 = x.toNat := by omega
          rw [e1, e2, hs]; simp
        · obtain ⟨j, hj⟩ : ∃ j, 9 - i = j + 1 := ⟨8 - i, by omega⟩
          have hj2 : 9 - (i + 1) = j := by omega
          rw [hj2] at hn
          rw [hj, Nat.pow_succ]; omega
end Go.Proofs.YtfgacjglfdehbaaGreatDoor
/- Layer 1, writing: a sink in memory, and what each call puts there. -/
namespace Go.Proofs.YtfgacjglfdehbaaGreatDoor
open Go.RowKit
set_option linter.unusedVariables false
attribute [local go_sem] row_alloc row_drew row_drewN row_ext row_setCell row_setRow size_ext setRow_alloc setRow_drew
attribute [local go_sem high] cell_alloc frozen_alloc setCell_alloc cell_ext frozen_ext
theorem u8_info' : ∃ i, Tryz.prog.info? 5 = some i ∧ i.zero = some (.int .u8 0) ∧ i.size = 1 ∧ i.bytes = 1 := by
  have h : (Tryz.prog.info? 5).map (fun i => (i.zero, i.size, i.bytes)) = some (some (.int .u8 0), 1, 1) := by kernel_rfl
  cases hi : Tryz.prog.info? 5 with
  | none => rw [hi] at h; simp at h
  | some i => rw [hi] at h; simp at h; exact ⟨i, rfl, h.1, h.2.1, h.2.2⟩
/-- Bytes of the call's own. -/
abbrev byR (v : Value) (l : List UInt8) : Res := vecR 5 1 v l.length (bytesV l)
/-- A sink in memory. -/
def snkR (g : Nat) (l : List UInt8) : Res := exR fun v => starR (rowR g #[v]) (byR v l)
section
variable {w W : World} {F : Nat → Prop} {R : List Res} {g : Nat} {l : List UInt8}
theorem vec_shape {e : TypeId} {size n : Nat} {v : Value} {xs : List Value} (h : Sts w F W (vecR e size v n xs :: R)) : ∃ A c, v = .slice A n c := by
  rcases h.vec.2 with ⟨rfl, rfl⟩ | ⟨g, cap, cur, rfl, _⟩
  · exact ⟨_, _, rfl⟩
  · exact ⟨_, _, rfl⟩
theorem snk_open (h : Sts w F W (snkR g l :: R)) : ∃ A c, Sts w F W (rowR g #[.slice A l.length c] :: byR (.slice A l.length c) l :: R) := by
  obtain ⟨v, h⟩ := h.open
  have h := h.split
  obtain ⟨A, c, rfl⟩ := vec_shape h.swap
  exact ⟨A, c, h⟩
theorem snk_shut {v : Value} (h : Sts w F W (rowR g #[v] :: byR v l :: R)) : Sts w F W (snkR g l :: R) := h.join.close v
theorem by_back {v : Value} (T : Sts w F W (byR v l :: R)) : (convert 66 9 v).run Tryz.prog W = .ok (.string ⟨l.toArray⟩) W := by
  have ho := T.vec
  rcases ho.2 with ⟨rfl, h0⟩ | ⟨g', cap, cur, rfl, hg', _⟩
  · have : l = [] := List.eq_nil_of_length_eq_zero h0
    subst this
    exact run_convert_bytes_nil W _ _ Tryz.underlying66 Tryz.underlying5 0 0 _ Tryz.underlying9
  · refine run_convert_bytes_back W _ _ _ _ _ l Tryz.underlying66 Tryz.underlying5 Tryz.underlying9 fun j hj => ?_
    refine ho.cells (g := g') rfl j _ ?_
    simp [bytesV, byteV, List.getElem?_eq_getElem hj]
end
set_option maxHeartbeats 1000000 in
theorem sinkBytesQ {w W : World} {F : Nat → Prop} {R : List Res} {g : Nat} {l : List UInt8} (T : Sts w F W (snkR g l :: R)) : Calls Tryz.prog 82 #[.pointer (some ⟨g, 0, none⟩)] W fun e W' => e = .returned (.string (strL l)) ∧ W = W' := by
  obtain ⟨A, c, T⟩ := snk_open T
  have hc := row_cell T.row
  have hcv := by_back T.swap
  clear T
  go_enter Tryz.func82, Tryz.ntmps82
  go_wp2
  go_ret
  exact ⟨rfl, rfl⟩
theorem sinkBytesD (g : Nat) (l : List UInt8) : Does Tryz.prog 82 #[.pointer (some ⟨g, 0, none⟩)] [snkR g l] (.string (strL l)) [snkR g l] := fun W G h =>
  (sinkBytesQ (Sts.start h)).mono fun e W' ⟨he, hw⟩ => ⟨he, hw ▸ Sts.start h⟩
set_option maxHeartbeats 1000000 in
theorem sinkRawD (g : Nat) (l : List UInt8) (t : ByteArray) (hb : l.length + t.size ≤ 1000000000000) : Does Tryz.prog 105 #[.pointer (some ⟨g, 0, none⟩), .string t] [snkR g l] (.tuple #[]) [snkR g (l ++ t.data.toList)] := by
  intro W G h
  obtain ⟨A, c, T⟩ := snk_open (Sts.start h)
  have hc := row_cell T.row
  obtain ⟨i0, hi, hz0, hz1, hz2⟩ := u8_info'
  have T1 := T.swap
  clear h
  go_enter Tryz.func105, Tryz.ntmps105
  go_wp2_with (at_builtin; refine wpList_append_vecStr rfl _ _ 66 9 rfl 5 i0 Tryz.underlying66 Tryz.underlying9 hi hz0 hz1 hz2 _ _ _ rfl T1 t rfl ?c3 ?c4 ?_)
  case c3 => unfold maxLen; omega
  case c4 => omega
  intro v' w1 T2
  obtain ⟨A', c', rfl⟩ := vec_shape T2
  have hc1 := row_cell T2.row1
  have hf1 := row_frozen T2.row1
  clear T T1 hc
  go_wp2
  go_end0
  refine ⟨rfl, snk_shut (v := .slice A' (l.length + t.size) c') ?_⟩
  have e : l.length + t.size = (l ++ t.data.toList).length := by rw [List.length_append]; rfl
  have e2 : bytesV l ++ Lib.strCells t = bytesV (l ++ t.data.toList) := by rw [bytesV_str]; simp [bytesV]
  rw [e, e2] at T2
  rw [e]
  exact T2.swap.setCell 0 _
/-- The numbers' bytes, one behind the other. -/
def encs (ns : List Int) : List UInt8 := ns.flatMap fun n => enc n.toNat
theorem encs_snoc (ns : List Int) (n : Int) : encs (ns ++ [n]) = encs ns ++ enc n.toNat := by simp [encs]
theorem enc_len : ∀ (k n : Nat), n < 128 ^ (k + 1) → (enc n).length ≤ k + 1
  | 0, n, h => by rw [enc_small (by omega)]; simp
  | k + 1, n, h => by
    by_cases h' : n < 128
    · rw [enc_small h']; simp
    · rw [enc_great h']
      have := enc_len k (n / 128) (by rw [Nat.pow_succ] at h; omega)
      simp; omega
theorem enc_len9 {n : Nat} (h : n < 9223372036854775808) : (enc n).length ≤ 9 := enc_len 8 n h
theorem encs_len : ∀ {ns : List Int}, (∀ n ∈ ns, n < 9223372036854775808) → (encs ns).length ≤ 9 * ns.length
  | [], _ => by simp [encs]
  | n :: ns, h => by
    have h1 := enc_len9 (n := n.toNat) (by have := h n (by simp); omega)
    have h2 := encs_len (ns := ns) fun m hm => h m (by simp [hm])
    simp only [encs, List.flatMap_cons, List.length_append, List.length_cons] at *
    omega
set_option maxHeartbeats 1000000 in
set_option maxRecDepth 4000 in
theorem sinkNatD (g : Nat) (l : List UInt8) (q off c : Nat) (X : Array Value) (ns : List Int) (hX : ∀ j (hj : j < ns.length), X[off + j]? = some (.int .i64 ns[j])) (hns : ∀ n ∈ ns, -9223372036854775808 ≤ n ∧ n < 9223372036854775808)
    (hb : l.length + 9 * ns.length ≤ 1000000000) :
    Does Tryz.prog 79 #[.pointer (some ⟨g, 0, none⟩), .slice (some ⟨q, off, none⟩) ns.length c] [snkR g l, rowR q X] (.tuple #[]) [snkR g (l ++ encs ns), rowR q X] := by
  intro W G hS
  obtain ⟨i0, hi, hz0, hz1, hz2⟩ := u8_info'
  have T := Sts.start hS
  clear hS
  go_enter Tryz.func79, Tryz.ntmps79
  go_wp2
  go_loopw [9] (fun i wr => ∃ k : Nat, k ≤ ns.length ∧ i = .int .i64 k ∧ Sts W G wr [snkR g (l ++ encs (ns.take k)), rowR q X]) (fun i _ => ns.length - (intOf i).toNat)
  case atStart => exact ⟨0, by omega, rfl, by simpa [encs] using T⟩
  case round =>
    clear T
    obtain ⟨k, hk, rfl, T⟩ := hrel
    by_cases hlt : k < ns.length
    · have hc := row_cell T.row1 (off + k)
      rw [hX k hlt] at hc
      have hn := hns ns[k] (List.getElem_mem hlt)
      have hsn : ns.take (k + 1) = ns.take k ++ [ns[k]] := by rw [List.take_succ_eq_append_getElem hlt]
      have he := encs_snoc (ns.take k) ns[k]
      rw [← hsn] at he
      have hlen := encs_len (ns := ns.take k) fun n hn => (hns n (List.mem_of_mem_take hn)).2
      have hl9 := enc_len9 (n := ns[k].toNat) (by omega)
      rw [List.length_take, Nat.min_eq_left hk] at hlen
      have HE := Lib.hid he; clear he hsn
      generalize ns[k] = n at *
      have hcur : (l ++ encs (ns.take k)).length + 9 ≤ 1000000000 := by rw [List.length_append]; omega
      generalize hcu : l ++ encs (ns.take k) = cur at *
      have HC := Lib.hid hcu; clear hcu hlen
      go_wp2
      all_goals
        go_loopw [6] (fun u wr => ∃ (v : Nat) (cu : List UInt8), u = .int .u64 v ∧ v < 9223372036854775808 ∧ cu ++ enc v = cur ++ enc n.toNat ∧ Sts W G wr [snkR g cu, rowR q X]) (fun u _ => (intOf u).toNat)
        case atStart => exact ⟨n.toNat, cur, by first | (congr 1; omega) | (congr 1; simp; omega), by omega, rfl, T⟩
        case round =>
          clear T hc
          obtain ⟨v, cu, rfl, hv, hcu, T⟩ := hrel
          have hlen : cu.length + (enc v).length = cur.length + (enc n.toNat).length := by rw [← List.length_append, hcu, List.length_append]
          have hp := enc_pos v
          have HCU := Lib.hid hcu; clear hcu
          obtain ⟨A, c1, T⟩ := snk_open T
          have hc1 := row_cell T.row
          by_cases hv128 : v < 128
          · have hs := enc_small hv128
            have hx : IntKind.u8.wrap (v : Int) = ((UInt8.ofNat v).toNat : Int) := by
              rw [UInt8.toNat_ofNat', IntKind.wrap_u8]; omega
            have T1 := T.swap.keep (.cells #[.int .u8 ((UInt8.ofNat v).toNat : Int)] 5)
            have Hs := Lib.hid hs; clear hs
            generalize UInt8.ofNat v = x at *
            go_wp2_with (at_builtin; refine wpList_append_vec rfl _ _ 66 rfl 5 i0 (.int .u8 0) 1 1 Tryz.underlying66 hi hz0 hz1 hz2 rfl (by decide) _ _ _ rfl T1 ⟨wr.heap.size, 0, none⟩ 1 1 [.int .u8 (x.toNat : Int)] rfl rfl (cell_one_new _ _ _) (by simp [Value.oneCell']) (by unfold maxLen; omega) (by omega) ?_)
            intro v' w1 T2
            obtain ⟨A', c', rfl⟩ := vec_shape T2
            have hc2 := row_cell T2.row1
            have hf2 := row_frozen T2.row1
            clear T T1 hc1
            have HS : ∀ {w2}, Sts W G w2 [snkR g (cu ++ [x]), rowR q X] → Sts W G w2 [snkR g (l ++ encs (ns.take (k + 1))), rowR q X] := by
              intro w2 h; rw [HE.out, ← List.append_assoc, HC.out, ← HCU.out, Hs.out]; exact h
            have T3 : Sts W G (w1.setCell ⟨g, 0, none⟩ (.slice A' (cu.length + 1) c')) [snkR g (cu ++ [x]), rowR q X] := by
              refine snk_shut (v := .slice A' (cu.length + 1) c') ?_
              have e : cu.length + 1 = (cu ++ [x]).length := by simp
              have e2 : bytesV cu ++ [Value.int .u8 (x.toNat : Int)] = bytesV (cu ++ [x]) := by simp [bytesV, byteV]
              rw [e, e2] at T2
              rw [e]
              exact T2.swap.setCell 0 _
            have T4 := HS T3
            clear T2 T3 HS
            go_wp2
            go_roundw
            case rel => exact ⟨k + 1, by omega, by go_num, T4⟩
            case measure => simp [intOf]; omega
          · have hs := enc_great hv128
            have hx0 : IntKind.u8.wrap (v : Int) = ((v % 256 : Nat) : Int) := by rw [IntKind.wrap_u8]; omega
            have hx : bits .or .u8 ((v % 256 : Nat) : Int) 128 = ((UInt8.ofNat (128 + v % 128)).toNat : Int) := by
              have h1 := u8_or_nat (v % 256) 128 (by omega) (by omega)
              rw [show ((128 : Nat) : Int) = 128 from rfl] at h1
              rw [h1, UInt8.toNat_ofNat']
              have h2 : ∀ b : Nat, b < 256 → b ||| 128 = 128 + b % 128 := by decide
              rw [h2 _ (by omega)]; omega
            have T1 := T.swap.keep (.cells #[.int .u8 ((UInt8.ofNat (128 + v % 128)).toNat : Int)] 5)
            have Hs := Lib.hid hs; clear hs
            generalize UInt8.ofNat (128 + v % 128) = x at *
            generalize v % 256 = v256 at *
            go_wp2_with (at_builtin; refine wpList_append_vec rfl _ _ 66 rfl 5 i0 (.int .u8 0) 1 1 Tryz.underlying66 hi hz0 hz1 hz2 rfl (by decide) _ _ _ rfl T1 ⟨wr.heap.size, 0, none⟩ 1 1 [.int .u8 (x.toNat : Int)] rfl rfl (cell_one_new _ _ _) (by simp [Value.oneCell']) (by unfold maxLen; omega) (by omega) ?_)
            intro v' w1 T2
            obtain ⟨A', c', rfl⟩ := vec_shape T2
            have hc2 := row_cell T2.row1
            have hf2 := row_frozen T2.row1
            clear T T1 hc1
            have T3 : Sts W G (w1.setCell ⟨g, 0, none⟩ (.slice A' (cu.length + 1) c')) [snkR g (cu ++ [x]), rowR q X] := by
              refine snk_shut (v := .slice A' (cu.length + 1) c') ?_
              have e : cu.length + 1 = (cu ++ [x]).length := by simp
              have e2 : bytesV cu ++ [Value.int .u8 (x.toNat : Int)] = bytesV (cu ++ [x]) := by simp [bytesV, byteV]
              rw [e, e2] at T2
              rw [e]
              exact T2.swap.setCell 0 _
            clear T2
            go_wp2
            go_roundw
            case rel => exact ⟨v / 128, cu ++ [x], by first | rfl | go_num | (congr 1; simp), by omega, by rw [List.append_assoc, ← HCU.out, Hs.out]; rfl, T3⟩
            case measure => simp [intOf]; omega
    · obtain rfl : k = ns.length := by omega
      rw [List.take_length] at T
      go_wp2
      go_end0
      exact ⟨rfl, T⟩
set_option maxHeartbeats 1000000 in
theorem sinkTextD (g : Nat) (l : List UInt8) (t : ByteArray) (hb : l.length + t.size ≤ 900000000) :
    Does Tryz.prog 106 #[.pointer (some ⟨g, 0, none⟩), .string t] [snkR g l] (.tuple #[]) [snkR g (l ++ enc t.size ++ t.data.toList)] := by
  intro W G hS
  have T := (Sts.start hS).new #[.int .i64 t.size] 3
  clear hS
  have h9 := enc_len9 (n := t.size) (by omega)
  go_enter Tryz.func106, Tryz.ntmps106
  go_wp2_with fail
  refine (Does.at2 (sinkNatD g l W.heap.size 0 1 _ [(t.size : Int)] (by intro j hj; simp at hj; subst hj; rfl) (by simp; omega) (by simp; omega)) T.swap).mono ?_; clear T; rintro e w1 ⟨rfl, T⟩
  go_wp2_with fail
  refine (Does.at1 (sinkRawD g _ t ?_) T).mono ?_
  · simp [encs]; omega
  rintro e w2 ⟨rfl, T2⟩
  clear T
  go_wp2
  go_end0
  refine ⟨rfl, ?_⟩
  have := T2.swap.drop
  simpa [encs] using this
end Go.Proofs.YtfgacjglfdehbaaGreatDoor
/- The document's bytes of numbers and texts. -/
namespace Go.Proofs.YtfgacjglfdehbaaGreatDoor
open Go.RowKit
set_option linter.unusedVariables false
set_option maxRecDepth 20000
attribute [local go_sem] row_alloc row_drew row_drewN row_ext row_setCell row_setRow size_ext setRow_alloc setRow_drew
attribute [local go_sem high] cell_alloc frozen_alloc setCell_alloc cell_ext frozen_ext
end Go.Proofs.YtfgacjglfdehbaaGreatDoor
/- Layer 1, reading: numbers. -/
namespace Go.Proofs.YtfgacjglfdehbaaGreatDoor
open Go.RowKit
set_option linter.unusedVariables false
attribute [local go_sem] row_alloc row_drew row_drewN row_ext row_setCell row_setRow size_ext setRow_alloc setRow_drew
attribute [local go_sem high] cell_alloc frozen_alloc setCell_alloc cell_ext frozen_ext
/-- A number, at most so great. -/
def natS (s : Src) (most : Nat) : Nat × Src :=
  if s.dry = true then (0, dryS) else match dec most 0 0 s.left with
    | none => (0, dryS)
    | some (v, r) => (v, ⟨r, false⟩)
theorem rawS_one_nil {s : Src} (h : s.dry = true ∨ s.left = []) : rawS s 1 = ([], dryS) := by
  unfold rawS; rw [if_pos]; rcases h with h | h
  · exact .inl h
  · right; right; rw [h]; simp
theorem rawS_one {x : UInt8} {r : List UInt8} : rawS ⟨x :: r, false⟩ 1 = ([x], ⟨r, false⟩) := by
  unfold rawS; rw [if_neg (by simp; omega)]; rfl
theorem strL_one (x : UInt8) : ∀ h : 0 < (strL [x]).size, (strL [x])[0]'h = x := fun _ => rfl
theorem and_127 (x : UInt8) : bits .and .u8 (x.toNat : Int) 127 = ((x.toNat % 128 : Nat) : Int) := by
  have := u8_and_nat x.toNat 127 x.toNat_lt (by omega)
  rw [show ((127 : Nat) : Int) = 127 from rfl] at this
  rw [this, show (127 : Nat) = 2 ^ 7 - 1 from rfl, Nat.and_two_pow_sub_one_eq_mod]
theorem or_shift (un y q : Nat) (hu : un < 2 ^ q) (hy : y < 128) (hq : q ≤ 56) : bits .or .u64 (un : Int) ((y * 2 ^ q : Nat) : Int) = ((un + y * 2 ^ q : Nat) : Int) ∧ un + y * 2 ^ q < 9223372036854775808 := by
  have h2 : 2 ^ q ≤ 2 ^ 56 := Nat.pow_le_pow_right (by omega) hq
  have h3 : y * 2 ^ q ≤ 127 * 2 ^ q := Nat.mul_le_mul_right _ (by omega)
  have h4 : un + y * 2 ^ q < 9223372036854775808 := by omega
  refine ⟨?_, h4⟩
  rw [u64_or_nat _ _ (by omega) (by omega)]
  congr 1
  rw [Nat.or_comm, Nat.mul_comm, Nat.add_comm, Nat.two_pow_add_eq_or_of_lt hu]
theorem wrap_shift (y q : Nat) (hy : y < 128) (hq : q ≤ 56) : IntKind.u64.wrap ((y : Int) * 2 ^ q) = ((y * 2 ^ q : Nat) : Int) := by
  have h2 : 2 ^ q ≤ 2 ^ 56 := Nat.pow_le_pow_right (by omega) hq
  have h3 : y * 2 ^ q ≤ 127 * 2 ^ q := Nat.mul_le_mul_right _ (by omega)
  have e : (y : Int) * 2 ^ q = ((y * 2 ^ q : Nat) : Int) := by rw [Int.natCast_mul, Int.natCast_pow]; rfl
  rw [e, IntKind.wrap_u64]; omega
section
variable {W : World} {g : Nat} {s : Src}
theorem raw_none (h : row? W g = some (SV s)) (hs : s.dry = true ∨ s.left = []) :
    Calls Tryz.prog 77 #[.pointer (some ⟨g, 0, none⟩), .int .i64 1] W fun e w' => e = .returned (.string ⟨#[]⟩) ∧ row? w' g = some (SV dryS) ∧ Touch W w' g none ∧ w'.heap.size = W.heap.size := by
  have := raw_any h 1 (by omega)
  rw [rawS_one_nil hs] at this
  exact this
theorem raw_one {x : UInt8} {r : List UInt8} (h : row? W g = some (SV ⟨x :: r, false⟩)) :
    Calls Tryz.prog 77 #[.pointer (some ⟨g, 0, none⟩), .int .i64 1] W fun e w' => e = .returned (.string (strL [x])) ∧ row? w' g = some (SV ⟨r, false⟩) ∧ Touch W w' g none ∧ w'.heap.size = W.heap.size := by
  have := raw_any h 1 (by omega)
  rw [rawS_one] at this
  exact this
set_option maxRecDepth 4000 in
set_option maxHeartbeats 1000000 in
theorem nat_any (h : row? W g = some (SV s)) (most : Nat) (hm : most ≤ 1099511627776) :
    Calls Tryz.prog 60 #[.pointer (some ⟨g, 0, none⟩), .int .i64 most] W fun e w' => e = .returned (.int .i64 (natS s most).1) ∧ row? w' g = some (SV (natS s most).2) ∧ Touch W w' g none ∧ w'.heap.size = W.heap.size := by
  by_cases hd : s.dry = true
  · have hn : natS s most = (0, dryS) := by unfold natS; rw [if_pos hd]
    rw [hn]
    go_enter Tryz.func60, Tryz.ntmps60
    go_wp2
    go_loopw [5, 6] (fun u sh wr => wr = W ∧ u = .int .u64 0 ∧ sh = .int .i64 0) (fun _ _ _ => 0)
    case atStart => exact ⟨rfl, rfl, rfl⟩
    case round =>
      obtain ⟨rfl, rfl, rfl⟩ := hrel
      go_wp2_with fail
      refine (raw_none h (.inl hd)).mono ?_; rintro e w1 ⟨rfl, hr, hT, hz⟩
      go_wp2_with fail
      refine (stop_any hr).mono ?_; rintro e w2 ⟨rfl, hr2, hT2, hz2⟩
      go_wp2
      go_ret
      exact ⟨rfl, hr2, hT.trans (Fresh.refl _ _) hT2, hz2.trans hz⟩
  · have hd' : s.dry = false := by simpa using hd
    obtain ⟨left, dry⟩ := s
    obtain rfl : dry = false := hd'
    go_enter Tryz.func60, Tryz.ntmps60
    go_wp2
    go_loopw [5, 6] (fun u sh wr => ∃ (i q un : Nat) (cur : List UInt8), q = 7 * i ∧ i ≤ 9 ∧ sh = .int .i64 (q : Int) ∧ u = .int .u64 un ∧ row? wr g = some (SV ⟨cur, false⟩) ∧ Touch W wr g none ∧ wr.heap.size = W.heap.size ∧ un < 128 ^ i ∧ dec most i un cur = dec most 0 0 left) (fun _ sh _ => 70 - (intOf sh).toNat)
    case atStart => exact ⟨0, 0, 0, left, rfl, by omega, rfl, rfl, h, Touch.refl _ _ _, rfl, by simp, rfl⟩
    case round =>
      obtain ⟨i, q, un, cur, hq, hi, rfl, rfl, hrow, hT, hz, hun, hdec⟩ := hrel
      have Hq := Lib.hid hq; clear hq
      have Hdec := Lib.hid hdec; clear hdec
      have Hun := Lib.hid hun; clear hun
      match cur, hrow, Hdec with
      | [], hrow, Hdec =>
        have hn : natS ⟨left, false⟩ most = (0, dryS) := by
          unfold natS; rw [if_neg hd, ← Hdec.out]; rfl
        go_wp2_with fail
        refine (raw_none hrow (.inr rfl)).mono ?_; rintro e w1 ⟨rfl, hr, hT1, hz1⟩
        go_wp2_with fail
        refine (stop_any hr).mono ?_; rintro e w2 ⟨rfl, hr2, hT2, hz2⟩
        go_wp2
        go_ret
        rw [hn]
        exact ⟨rfl, hr2, (hT.trans (Fresh.refl _ _) hT1).trans (Fresh.refl _ _) hT2, (hz2.trans hz1).trans hz⟩
      | x :: rest, hrow, Hdec =>
        go_wp2_with fail
        refine (raw_one hrow).mono ?_; rintro e w1 ⟨rfl, hr, hT1, hz1⟩
        have hx1 := strL_one x
        have hx2 : (strL [x]).size = 1 := rfl
        have hx3 : ((strL [x]).toList == []) = false := by
          rw [show (strL [x]).toList = [x] from ByteArray.toList_mk [x]]; rfl
        generalize strL [x] = B at *
        by_cases h8 : 8 < i
        · have hn : natS ⟨left, false⟩ most = (0, dryS) := by
            unfold natS; rw [if_neg hd, ← Hdec.out]; simp [dec, h8]
          have h8' : (56 : Int) < (q : Int) := by have := Hq.out; omega
          clear h8
          go_wp2_with fail
          refine (stop_any hr).mono ?_; rintro e w2 ⟨rfl, hr2, hT2, hz2⟩
          go_wp2
          go_ret
          rw [hn]
          exact ⟨rfl, hr2, (hT.trans (Fresh.refl _ _) hT1).trans (Fresh.refl _ _) hT2, (hz2.trans hz1).trans hz⟩
        · have h8' : (q : Int) ≤ (56 : Int) := by have := Hq.out; omega
          have Hh8 := Lib.hid h8; clear h8
          have hqe : 2 ^ q = 128 ^ i := by rw [Hq.out, Nat.pow_mul]
          have hun2 : un < 2 ^ q := by rw [hqe]; exact Hun.out
          have hA := and_127 x
          have hy : x.toNat % 128 < 128 := by omega
          have hq56 : q ≤ 56 := by omega
          have hW1 : IntKind.u64.wrap ((x.toNat % 128 : Nat) : Int) = ((x.toNat % 128 : Nat) : Int) := IntWalk.u64_in _ (by omega)
          have hW2 := wrap_shift (x.toNat % 128) q hy hq56
          obtain ⟨hO, hv63⟩ := or_shift un (x.toNat % 128) q hun2 hy hq56
          obtain ⟨v, hv⟩ : ∃ v, v = un + x.toNat % 128 * 2 ^ q := ⟨_, rfl⟩
          rw [← hv] at hO hv63
          rw [hqe] at hv
          have Hv := Lib.hid hv; clear hv
          have hC : wrap64 (v : Int) = (v : Int) := by rw [← IntWalk.i64_left]; exact IntWalk.i64_in _ (by omega)
          have hxb := x.toNat_lt
          obtain ⟨z, hz9⟩ : ∃ z, z = x.toNat % 128 := ⟨_, rfl⟩
          rw [← hz9] at hA hW1 hW2 hO
          have Hz9 := Lib.hid hz9; clear hz9
          generalize hpw : z * 2 ^ q = pw at *
          clear hpw hun2 hqe hy
          clear hxb
          by_cases hx : x.toNat < 128
          · have hxi : (x.toNat : Int) < 128 := by omega
            have hz2 : z = x.toNat := by have := Hz9.out; omega
            by_cases hbad : x.toNat = 0 ∧ 0 < i ∨ most < v
            · have hn : natS ⟨left, false⟩ most = (0, dryS) := by
                unfold natS; rw [if_neg hd, ← Hdec.out]
                simp only [dec]
                rw [if_neg Hh8.out, if_pos hx, if_pos (by rw [← hz2, Hz9.out, ← Hv.out]; rw [← hz2, Hz9.out] at hbad; exact hbad)]
              have Hn := Lib.hid hn; clear hn
              have Hz2 := Lib.hid hz2; clear hz2
              have Hb := Lib.hid hbad; clear hbad
              have fin : ∀ {e w2}, (e = Ending.returned (.tuple #[]) ∧ row? w2 g = some (SV dryS) ∧ Touch w1 w2 g none ∧ w2.heap.size = w1.heap.size) → row? w2 g = some (SV (natS ⟨left, false⟩ most).2) ∧ Touch W w2 g none ∧ w2.heap.size = W.heap.size := by
                rintro e w2 ⟨-, hr2, hT2, hz2⟩
                rw [Hn.out]
                exact ⟨hr2, (hT.trans (Fresh.refl _ _) hT1).trans (Fresh.refl _ _) hT2, (hz2.trans hz1).trans hz⟩
              go_wp2_with fail
              all_goals first
                | (refine (stop_any hr).mono ?_; rintro e w2 ⟨rfl, hh⟩
                   go_wp2
                   go_ret
                   exact ⟨by rw [Hn.out]; rfl, fin ⟨rfl, hh⟩⟩)
                | (exfalso; have := Hb.out; have := Hq.out; omega)
            · have hn : natS ⟨left, false⟩ most = (v, ⟨rest, false⟩) := by
                unfold natS; rw [if_neg hd, ← Hdec.out]
                simp only [dec]
                rw [if_neg Hh8.out, if_pos hx, if_neg (by rw [← hz2, Hz9.out, ← Hv.out]; rw [← hz2, Hz9.out] at hbad; exact hbad)]
                rw [show un + x.toNat * 128 ^ i = v by rw [← hz2, Hz9.out, ← Hv.out]]
              have Hn := Lib.hid hn; clear hn
              have Hz2 := Lib.hid hz2; clear hz2
              have Hb := Lib.hid hbad; clear hbad
              have Hr := Lib.hid hr
              clear h hrow
              go_wp2_with fail
              all_goals first
                | (go_ret
                   rw [Hn.out]
                   exact ⟨rfl, Hr.out, hT.trans (Fresh.refl _ _) hT1, hz1.trans hz⟩)
                | (exfalso; have := Hb.out; have := Hq.out; omega)
          · have hxi : (128 : Int) ≤ (x.toNat : Int) := by omega
            have hrel2 : v < 128 ^ (i + 1) ∧ dec most (i + 1) v rest = dec most 0 0 left := by
              have hu := Hun.out
              have e1 := Hv.out
              constructor
              · rw [e1, Nat.pow_succ]
                have : x.toNat % 128 * 128 ^ i ≤ 127 * 128 ^ i := Nat.mul_le_mul_right _ (by omega)
                omega
              · rw [← Hdec.out]
                simp only [dec]
                rw [if_neg Hh8.out, if_neg hx, e1]
                have hxl := x.toNat_lt
                rw [show x.toNat % 128 = x.toNat - 128 by omega]
            have Hrel2 := Lib.hid hrel2; clear hrel2
            have Hr := Lib.hid hr; clear hr
            clear h hrow
            go_wp2
            go_roundw
            case rel => exact ⟨i + 1, q + 7, v, rest, by have := Hq.out; omega, by have := Hh8.out; omega, by go_num, rfl, Hr.out, hT.trans (Fresh.refl _ _) hT1, hz1.trans hz, Hrel2.out.1, Hrel2.out.2⟩
            case measure => simp [intOf]; omega
end
end Go.Proofs.YtfgacjglfdehbaaGreatDoor
/- Layer 1, reading: texts; whether something was missing; how much is left. -/
namespace Go.Proofs.YtfgacjglfdehbaaGreatDoor
open Go.RowKit
set_option linter.unusedVariables false
attribute [local go_sem] row_alloc row_drew row_drewN row_ext row_setCell row_setRow size_ext setRow_alloc setRow_drew
attribute [local go_sem high] cell_alloc frozen_alloc setCell_alloc cell_ext frozen_ext
/-- A text of at most so many bytes. -/
def textS (s : Src) (most : Nat) : List UInt8 × Src := rawS (natS s most).2 (natS s most).1
theorem natS_le (s : Src) (most : Nat) : (natS s most).1 ≤ most := by
  unfold natS; split
  · exact Nat.zero_le _
  · split
    · exact Nat.zero_le _
    · rename_i v r h
      obtain ⟨n, _, hm, _⟩ := dec_some most _ _ _ _ _ h
      exact hm
section
variable {W : World} {g : Nat} {s : Src}
set_option maxHeartbeats 1000000 in
theorem text_any (h : row? W g = some (SV s)) (most : Nat) (hm : most ≤ 1099511627776) :
    Calls Tryz.prog 96 #[.pointer (some ⟨g, 0, none⟩), .int .i64 most] W fun e w' => e = .returned (.string (strL (textS s most).1)) ∧ row? w' g = some (SV (textS s most).2) ∧ Touch W w' g none ∧ w'.heap.size = W.heap.size := by
  go_enter Tryz.func96, Tryz.ntmps96
  go_wp2_with fail
  refine (nat_any h most hm).mono ?_; rintro e w1 ⟨rfl, h1, T1, z1⟩
  have hl := natS_le s most
  go_wp2_with fail
  refine (raw_any h1 _ (by omega)).mono ?_; rintro e w2 ⟨rfl, h2, T2, z2⟩
  have H2 := Lib.hid h2; clear h2 h1 h
  go_wp2
  go_ret
  exact ⟨rfl, H2.out, T1.trans (Fresh.refl _ _) T2, z2.trans z1⟩
set_option maxHeartbeats 1000000 in
theorem dry_any (h : row? W g = some (SV s)) : Calls Tryz.prog 78 #[.pointer (some ⟨g, 0, none⟩)] W fun e w' => e = .returned (.bool s.dry) ∧ W = w' := by
  have hc := row_cell h
  unfold SV at hc
  clear h
  go_enter Tryz.func78, Tryz.ntmps78
  go_wp2
  go_ret
  exact ⟨rfl, rfl⟩
set_option maxHeartbeats 1000000 in
theorem left_any (h : row? W g = some (SV s)) : Calls Tryz.prog 83 #[.pointer (some ⟨g, 0, none⟩)] W fun e w' => e = .returned (.int .i64 s.left.length) ∧ W = w' := by
  have hc := row_cell h
  have hz := strL_size s.left
  unfold SV at hc
  clear h
  go_enter Tryz.func83, Tryz.ntmps83
  go_wp2
  go_ret
  exact ⟨rfl, rfl⟩
end
end Go.Proofs.YtfgacjglfdehbaaGreatDoor
