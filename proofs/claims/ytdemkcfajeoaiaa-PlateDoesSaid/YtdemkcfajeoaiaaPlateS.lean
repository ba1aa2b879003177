/- Layer 8: the document's plate: what each of its calls does. -/
import Derived.Test.YtdemkcfajeoaiaaPlateR
import Derived.Test.YtdemkcfajeoaiaaPlateG
import Derived.Test.YtdemkcfajeoaiaaTRPlate
namespace Go.Proofs.Ytdemkcfajeoaiaa
open Go.RowKit
set_option linter.unusedVariables false
attribute [local go_sem] row_alloc row_drew row_drewN row_ext row_setCell row_setRow size_ext setRow_alloc setRow_drew loadOf storeOf piece_lit loadVal_at storeVal_at allOne_lit buildOf buildRes_some
attribute [local go_sem high] cell_alloc frozen_alloc setCell_alloc cell_ext frozen_ext cell_setRow frozen_setRow
attribute [local go_sem ↓] TRPlate_ld0 TRPlate_st0 TRPlate_fd0 TRPlate_bd0
attribute [local go_sem] TRPlate_size TRPlate_one TRPlate_piece TRPlate_c0 TRPlate_c1 TRPlate_set_safe TRPlate_set_soft TRPlate_ld TRPlate_st TRPlate_f_safe TRPlate_f_soft TRPlate_bd TRPlate_fl TRPlate_fl_safe TRPlate_fl_soft
attribute [local go_sem high] TRPlate_eql TRPlate_neq
def rpR (h : Nat) (S F : List UInt8) : Res := rowR h (RPV ⟨strL S, strL F⟩)
theorem strL_cat (a b : List UInt8) : strL a ++ strL b = strL (a ++ b) := by rw [strL_add]; rfl
set_option maxHeartbeats 1000000 in
theorem rsyncD (h : Nat) (S F : List UInt8) (hz : S.length + F.length ≤ 65536) : Does Try.prog 17 #[.pointer (some ⟨h, 0, none⟩)] [rpR h S F] (.tuple #[]) [rpR h (S ++ F) []] := by
  intro W G hS
  have T := Sts.start hS
  clear hS
  unfold rpR at *
  have hr := T.row
  have hc := row_cell hr
  have hf := row_frozen hr
  have hlt := row_lt hr
  have happ := strL_cat S F
  have z1 := strL_size S
  have z2 := strL_size F
  have hzz : (strL S).size + (strL F).size ≤ 9223372036854775807 := by omega
  have T := (T.setCell 0 (.string (strL S ++ strL F))).drew.setCell 1 (.string ⟨#[]⟩)
  rw [TRPlate_set_safe, TRPlate_set_soft] at T
  have HT := Lib.hid T; clear T
  have HA := Lib.hid happ; clear happ
  generalize strL S = B1 at *
  generalize strL F = B2 at *
  go_enter Try.func17, Try.ntmps17
  go_wp2
  go_region
  simp only [Exit.then]
  go_wp2
  go_end0
  exact ⟨rfl, by rw [← HA.out]; exact HT.out⟩
set_option maxHeartbeats 1000000 in
theorem rappendD (h : Nat) (S F : List UInt8) (hz : S.length + F.length ≤ 65536) (s : ByteArray) (hs : s.size ≤ 1000000) :
    Does Try.prog 16 #[.pointer (some ⟨h, 0, none⟩), .string s] [rpR h S F] (.int .i64 (if S.length + F.length + s.size ≤ 65536 then 0 else 6)) [rpR h S (if S.length + F.length + s.size ≤ 65536 then F ++ s.data.toList else F)] := by
  intro W G hS
  have T := Sts.start hS
  clear hS
  unfold rpR at *
  have hr := T.row
  have hc := row_cell hr
  have hf := row_frozen hr
  have hlt := row_lt hr
  have happ := strL_add F s
  have z1 := strL_size S
  have z2 := strL_size F
  have hzz : (strL F).size + s.size ≤ 9223372036854775807 := by omega
  by_cases hle : S.length + F.length + s.size ≤ 65536
  · rw [if_pos hle, if_pos hle]
    have T := T.drew.setCell 1 (.string (strL F ++ s))
    rw [TRPlate_set_soft] at T
    have HT := Lib.hid T; clear T
    have HA := Lib.hid happ; clear happ
    generalize strL S = B1 at *
    generalize strL F = B2 at *
    go_enter Try.func16, Try.ntmps16
    go_wp2
    go_region
    simp only [Exit.then]
    go_wp2
    go_ret
    exact ⟨rfl, by rw [← HA.out]; exact HT.out⟩
  · rw [if_neg hle, if_neg hle]
    clear happ
    generalize strL S = B1 at *
    generalize strL F = B2 at *
    go_enter Try.func16, Try.ntmps16
    go_wp2
    go_region
    simp only [Exit.then]
    go_wp2
    go_ret
    exact ⟨rfl, T.drew⟩
def spoilt (F : List UInt8) (k : Nat) (x : UInt8) : List UInt8 := if k = 0 then [] else F.take (k - 1) ++ [F.getD (k - 1) 0 ^^^ x]
def kLose (F : List UInt8) (keep : Int) : Nat := (min (max keep 0) (F.length : Int)).toNat
theorem lost_split (S F : List UInt8) (keep : Int) (x : UInt8) : lost (S ++ F) S.length keep x = S ++ spoilt F (kLose F keep) x := by
  have hk : keptN (S ++ F).length S.length keep = kLose F keep := by unfold keptN kLose; rw [List.length_append]; congr 2; omega
  unfold lost
  rw [hk]
  have hle : kLose F keep ≤ F.length := by unfold kLose; omega
  generalize kLose F keep = k at *
  simp only []
  by_cases h0 : k = 0
  · subst h0; rw [if_pos rfl]; simp [spoilt]
  · rw [if_neg h0]
    unfold spoilt
    rw [if_neg h0]
    obtain ⟨q, rfl⟩ : ∃ q, k = q + 1 := ⟨k - 1, by omega⟩
    have e1 : (S ++ F).take (S.length + (q + 1)) = S ++ F.take (q + 1) := by
      rw [List.take_append, List.take_of_length_le (by omega)]; congr 2; omega
    rw [e1, show S.length + (q + 1) - 1 = S.length + q by omega, Nat.add_sub_cancel, List.set_append_right _ _ (by omega), Nat.add_sub_cancel_left]
    congr 1
    have e2 : F.take (q + 1) = F.take q ++ [F[q]'(by omega)] := List.take_succ_eq_append_getElem (by omega)
    have e3 : (S ++ F.take (q + 1)).getD (S.length + q) 0 = F.getD q 0 := by
      simp only [List.getD]
      rw [List.getElem?_append_right (by omega), Nat.add_sub_cancel_left, List.getElem?_take, if_pos (by omega)]
    first
      | rw [e3, e2, List.set_append_right _ _ (by rw [List.length_take]; omega)]; simp [List.length_take, Nat.min_eq_left (show q ≤ F.length by omega)]
      | (rw [e2, List.set_append_right _ _ (by rw [List.length_take]; omega)]; simp [List.length_take, Nat.min_eq_left (show q ≤ F.length by omega)])
theorem conv_at {W : World} {g : Nat} {x : UInt8} (hr : row? W g = some #[.int .u8 (x.toNat : Int)]) : (convert 25 9 (.slice (some ⟨g, 0, none⟩) 1 1)).run Try.prog W = .ok (.string (strL [x])) W := by
  refine run_convert_bytes_back W _ _ _ ⟨g, 0, none⟩ 1 [x] Try.underlying25 Try.underlying5 Try.underlying9 fun j hj => ?_
  obtain rfl : j = 0 := by simp at hj; exact hj
  exact row_cell hr 0
def mx2 (x y : Int) : Int := if y > x then y else x
def mn2 (x y : Int) : Int := if y < x then y else x
theorem run_mx2 {P : Program} (w : World) (ts : Array TypeId) (t : TypeId) (k k' : IntKind) (x y : Int) : (Builtin.max_ ts t #[.int k x, .int k' y]).run P w = .ok (.int k (mx2 x y)) w := by simp [Builtin.max_, Builtin.max2, mx2]
theorem run_mn2 {P : Program} (w : World) (ts : Array TypeId) (t : TypeId) (k k' : IntKind) (x y : Int) : (Builtin.min_ ts t #[.int k x, .int k' y]).run P w = .ok (.int k (mn2 x y)) w := by simp [Builtin.min_, Builtin.min2, mn2]
attribute [local go_sem high] run_mx2 run_mn2
set_option maxHeartbeats 2000000 in
theorem rloseD (h : Nat) (S F : List UInt8) (hz : S.length + F.length ≤ 65536) (keep : Int) (x : UInt8) :
    Does Try.prog 19 #[.pointer (some ⟨h, 0, none⟩), .int .i64 keep, .int .u8 x.toNat] [rpR h S F] (.tuple #[]) [rpR h (S ++ spoilt F (kLose F keep) x) []] := by
  intro W G hS
  have T := Sts.start hS
  clear hS
  unfold rpR at *
  have hr := T.row
  have hc := row_cell hr
  have hf := row_frozen hr
  have hlt := row_lt hr
  have happ := strL_cat S (spoilt F (kLose F keep) x)
  have z1 := strL_size S
  have z2 := strL_size F
  have hki : mn2 (mx2 keep 0) (F.length : Int) = (kLose F keep : Int) := by unfold kLose mn2 mx2; omega
  have hkl : kLose F keep ≤ F.length := by unfold kLose; omega
  have hcut := strL_take F (kLose F keep)
  by_cases h0 : kLose F keep = 0
  · rw [h0] at hki hcut happ ⊢
    have hsp : spoilt F 0 x = [] := if_pos rfl
    rw [hsp, List.append_nil]
    clear happ hcut
    have T := (T.setCell 0 (.string (strL S))).setCell 1 (.string ⟨#[]⟩)
    rw [TRPlate_set_safe, TRPlate_set_soft] at T
    have HT := Lib.hid T; clear T
    generalize strL S = B1 at *
    generalize strL F = B2 at *
    simp only [Int.natCast_zero] at hki
    go_enter Try.func19, Try.ntmps19
    go_wp2
    go_end0
    exact ⟨rfl, HT.out⟩
  · obtain ⟨q, hq⟩ : ∃ q, kLose F keep = q + 1 := ⟨kLose F keep - 1, by omega⟩
    rw [hq] at hki hcut happ hkl ⊢
    have hcut2 : (strL (F.take (q + 1))).extract 0 q = strL (F.take q) := by rw [strL_take, List.take_take, Nat.min_eq_left (by omega)]
    have hidx : ∀ h : q < (strL (F.take (q + 1))).size, (strL (F.take (q + 1)))[q]'h = F.getD q 0 := fun h => by
      show (strL (F.take (q + 1))).data[q] = _
      simp [strL, List.getD, List.getElem?_eq_getElem (show q < F.length by omega)]
    have hsp : spoilt F (q + 1) x = F.take q ++ [F.getD q 0 ^^^ x] := by unfold spoilt; rw [if_neg (by omega), Nat.add_sub_cancel]
    rw [hsp] at happ ⊢
    have h1 := strL_cat (F.take q) [F.getD q 0 ^^^ x]
    rw [← h1] at happ
    have hbx : bits .xor .u8 ((F.getD q 0).toNat : Int) (x.toNat : Int) = ((F.getD q 0 ^^^ x).toNat : Int) := by
      rw [u8_xor_nat _ _ (F.getD q 0).toNat_lt x.toNat_lt]; simp
    have z3 : (strL (F.take (q + 1))).size = q + 1 := by rw [strL_size, List.length_take]; omega
    have z4 : (strL (F.take q)).size = q := by rw [strL_size, List.length_take]; omega
    have z5 : (strL [F.getD q 0 ^^^ x]).size = 1 := rfl
    generalize F.getD q 0 = y at *
    have hcv := fun (W : World) (g : Nat) (hr : row? W g = some #[.int .u8 ((y ^^^ x).toNat : Int)]) => conv_at hr
    generalize y ^^^ x = v at *
    have T := (T.setCell 0 (.string (strL S ++ (strL (F.take q) ++ strL [v])))).setCell 1 (.string ⟨#[]⟩)
    rw [TRPlate_set_safe, TRPlate_set_soft] at T
    have T := (T.keep (.cells #[.int .u8 (v.toNat : Int)] 5)).drew
    have HT := Lib.hid T; clear T
    have HA := Lib.hid happ; clear happ h1 hsp hq h0
    generalize strL (F.take (q + 1)) = B3 at *
    generalize strL (F.take q) = B4 at *
    generalize strL [v] = B5 at *
    generalize strL S = B1 at *
    generalize strL F = B2 at *
    have hcv1 := hcv (W.alloc (.cells #[.int .u8 (v.toNat : Int)] 5)) W.heap.size (by rw [row_alloc, if_pos rfl])
    go_enter Try.func19, Try.ntmps19
    go_wp2
    go_region
    simp only [Exit.then]
    go_wp2
    go_end0
    exact ⟨rfl, by rw [← HA.out]; exact HT.out⟩
end Go.Proofs.Ytdemkcfajeoaiaa
