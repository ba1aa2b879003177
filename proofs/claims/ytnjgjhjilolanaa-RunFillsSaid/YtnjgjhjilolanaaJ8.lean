/- Several texts in one. -/
import Derived.Test.YtnjgjhjilolanaaJ3
import Derived.Test.YtnjgjhjilolanaaJ4
import Derived.Test.YtnjgjhjilolanaaJ5
import Derived.BigQuiet
import Derived.Deep.RegionHeld3
import Derived.Deep.DeepCutAuto
/- Layer 3: what is known of items, by their places, as a thing in memory. -/
namespace Go.Proofs.Ytnjgjhjilolanaa
open Go.RowKit
set_option linter.unusedVariables false
/-- Rows: of so many replicas; each replica's, by numbers. -/
structure RowsML where
  n : Int
  f : Nat → List (Option Bool)
section
variable (n : Int) (v h : Nat → Value) (k : Nat) (x : Value)
end
def BVo (o : Option Bool) : Array Value := #[.bool (o.getD false)]
def HVoL (o : Option Bool) : Array Value := #[.bool o.isSome]
theorem BVo_sizeL (o : Option Bool) : (BVo o).size = 1 := rfl
theorem HVo_sizeL (o : Option Bool) : (HVoL o).size = 1 := rfl
def instsRL (v : Value) (l : List (Option Bool)) : Res := vecR 4 1 v l.length (vl BVo l)
def bitsRL (h : Value) (l : List (Option Bool)) : Res := vecR 4 1 h l.length (vl HVoL l)
def pairRL (f : Nat → List (Option Bool)) (v h : Nat → Value) (i : Nat) : Res := starR (instsRL (v i) (f i)) (bitsRL (h i) (f i))
/-- The other replicas' rows. -/
def othersRL (f : Nat → List (Option Bool)) (v h : Nat → Value) (k : Nat) : Res := packR (((List.range 7).erase k).map (pairRL f v h))
/-- The rows in block g. -/
def rowsIRL (g : Nat) (m : RowsML) : Res := exR fun q : (Nat → Value) × (Nat → Value) => packR (rowR g (rcells m.n q.1 q.2) :: (List.range 7).map (pairRL m.f q.1 q.2))
section
variable {w W : World} {F : Nat → Prop} {R : List Res} {g : Nat} {m : RowsML}
theorem Sts.rowsOpenL (T : Sts w F W (rowsIRL g m :: R)) {k : Nat} (hk : k < 7) : ∃ v h, Sts w F W (rowR g (rcells m.n v h) :: instsRL (v k) (m.f k) :: bitsRL (h k) (m.f k) :: othersRL m.f v h k :: R) := by
  obtain ⟨⟨v, h⟩, T⟩ := T.open
  have T := T.unpack
  have T : Sts w F W (((pairRL m.f v h k :: ((List.range 7).erase k).map (pairRL m.f v h)) ++ (rowR g (rcells m.n v h) :: R))) :=
    T.perm (((row_take (pairRL m.f v h) hk).append_right R).cons (rowR g (rcells m.n v h)) |>.trans (List.perm_middle.symm))
  have T : Sts w F W ((((List.range 7).erase k).map (pairRL m.f v h)) ++ (pairRL m.f v h k :: rowR g (rcells m.n v h) :: R)) := T.perm (List.perm_middle.symm)
  have T := T.pack
  have T := T.swap.split
  exact ⟨v, h, T.perm (by
    show (instsRL (v k) (m.f k) :: bitsRL (h k) (m.f k) :: packR _ :: rowR g _ :: R).Perm _
    exact ((List.Perm.cons _ ((List.Perm.cons _ (.swap ..)).trans (.swap ..))).trans (.swap ..)))⟩
theorem Sts.rowsShutL {v h : Nat → Value} {k : Nat} (hk : k < 7) (T : Sts w F W (rowR g (rcells m.n v h) :: instsRL (v k) (m.f k) :: bitsRL (h k) (m.f k) :: othersRL m.f v h k :: R)) : Sts w F W (rowsIRL g m :: R) := by
  have T := T.perm ((List.Perm.swap ..).trans (List.Perm.cons _ ((List.Perm.swap ..).trans (List.Perm.cons _ (.swap ..)))))
  -- insts, bits, others, row
  have T := T.join.swap
  have T := T.unpack
  have T : Sts w F W (pairRL m.f v h k :: rowR g (rcells m.n v h) :: (((List.range 7).erase k).map (pairRL m.f v h) ++ R)) :=
    T.perm (List.perm_middle.trans (List.Perm.cons _ List.perm_middle))
  have T : Sts w F W ((rowR g (rcells m.n v h) :: (List.range 7).map (pairRL m.f v h)) ++ R) :=
    T.perm ((List.Perm.swap ..).trans (List.Perm.cons _ ((row_take (pairRL m.f v h) hk).symm.append_right R)))
  exact T.pack.close (v, h)
end
/-- What is known of an item. -/
noncomputable def getML (m : RowsML) (x : Item) : Option Bool := if goodI x m.n = true then ((m.f x.rep.toNat)[x.num.toNat - 1]?).join else none
/-- A row with something at a place. -/
def putLL (l : List (Option Bool)) (i : Nat) (t : Bool) : List (Option Bool) := (l ++ List.replicate (i + 1 - l.length) none).set i (some t)
/-- So much is added as is wanted. -/
theorem putL_ofL {l0 l : List (Option Bool)} {j p : Nat} (t : Bool) (h : l = l0 ++ List.replicate p none) (hp : p = 0 ∨ l.length ≤ j + 1) (hj : j + 1 ≤ l.length) : putLL l0 j t = l.set j (some t) := by
  unfold putLL
  have hl : l.length = l0.length + p := by rw [h, List.length_append, List.length_replicate]
  have e : j + 1 - l0.length = p := by omega
  rw [e, h]
noncomputable def setML (m : RowsML) (x : Item) (t : Bool) : RowsML := if goodI x m.n = true then { m with f := updF m.f x.rep.toNat (putLL (m.f x.rep.toNat) (x.num.toNat - 1) t) } else m
end Go.Proofs.Ytnjgjhjilolanaa
/- Layer 3: rows of bits by items: what stands at a place. -/
namespace Go.Proofs.Ytnjgjhjilolanaa
open Go.RowKit
set_option linter.unusedVariables false
set_option maxRecDepth 20000
attribute [local go_sem] row_alloc row_drew row_drewN row_ext row_setCell row_setRow size_ext setRow_alloc setRow_drew loadOf storeOf piece_lit loadVal_at storeVal_at allOne_lit buildOf buildRes_some
attribute [local go_sem high] cell_alloc frozen_alloc setCell_alloc cell_ext frozen_ext cell_setRow frozen_setRow
attribute [local go_sem ↓] TItem_ld0 TItem_st0 TItem_fd0 TItem_bd0
attribute [local go_sem] TItem_size TItem_one TItem_piece TItem_c0 TItem_c1 TItem_set_rep TItem_set_num TItem_ld TItem_st TItem_f_rep TItem_f_num TItem_bd TItem_fl TItem_fl_rep TItem_fl_num
attribute [local go_sem high] TItem_eql TItem_neq
attribute [local go_sem] rcells_n
theorem rows_factsL {W : World} {G : Nat → Prop} {g : Nat} {m : RowsML} (hS : Sat W [rowsIRL g m] G) {k : Nat} (hk : k < 7) : ∃ v h A c B d, v k = .slice A (m.f k).length c ∧ h k = .slice B (m.f k).length d ∧
    row? W g = some (rcells m.n v h) ∧ RowsIn W A 1 BVo (m.f k) ∧ RowsIn W B 1 HVoL (m.f k) ∧ (∀ a, A = some a → ∃ gv, a = ⟨gv, 0, none⟩) ∧ ∀ a, B = some a → ∃ gv, a = ⟨gv, 0, none⟩ := by
  obtain ⟨v, h, T⟩ := (Sts.start hS).rowsOpenL hk
  have hml : (m.f k).length ≤ 9223372036854775807 := by
    rcases T.drop.vec.2 with ⟨-, h⟩ | ⟨g, cap, cur, -, _, hg, hn, hm, _⟩
    · omega
    · unfold maxLen at hm; omega
  obtain ⟨A, c, hv, hA, _, hAa⟩ := vec_rows BVo_sizeL T.drop (by omega) hml
  obtain ⟨B, d, hh, hB, _, hBa⟩ := vec_rows HVo_sizeL T.drop.drop (by omega) hml
  exact ⟨v, h, A, c, B, d, hv, hh, T.row, hA, hB, hAa, hBa⟩
set_option maxHeartbeats 4000000 in
theorem irAtRL (g : Nat) (m : RowsML) (hn : 0 ≤ m.n ∧ m.n ≤ 7) (x : Item) :
    Reads Try.prog 45 #[.pointer (some ⟨g, 0, none⟩), .agg (IV x)] [rowsIRL g m] (.tuple #[.bool ((getML m x).getD false), .bool (getML m x).isSome]) := by
  intro W G hS
  have T := (Sts.start0 W).new (IV x) 35
  have cg := itemGood_any x m.n
  have hB := T.below
  cases hg : goodI x m.n
  case false =>
    obtain ⟨v, h, A, c, B, d, -, -, hr, -⟩ := rows_factsL hS (k := 0) (by omega)
    have r0 := (row_below hB (row_lt hr)).trans hr
    have c0 := row_cell r0 0
    have hm : getML m x = none := by unfold getML; rw [hg, if_neg (by simp)]
    rw [hm]
    rw [hg] at cg
    clear hS hr hB hm hg
    go_enter Try.func45, Try.ntmps45
    go_wp2_with fail
    generalize hw3 : W.alloc _ = w3 at *
    clear hw3
    generalize hg1 : W.heap.size = g1 at *
    have r6 := T.row
    have l6 := row_lt r6
    have c6 := row_cell r6
    have l0 : g < w3.heap.size := row_lt r0
    refine wp_region_ext (by kernel_rfl) (by kernel_rfl) ?_
    repeat (go_big_quiet_step (first | (go_at_call 66; exact cg.quiet)))
    refine wpQuiet_nil ?_
    rintro _ ⟨x9, rfl⟩
    have T := T.ext x9
    clear r6 l6 c6 c0 l0 r0
    generalize ext _ x9 = w4 at *
    have HT := Lib.hid T; clear T
    go_wp2
    go_ret2
    exact ⟨rfl, hg1 ▸ HT.out.below⟩
  case true =>
    rw [hg] at cg
    have hg2 := hg
    unfold goodI at hg2
    rw [decide_eq_true_iff] at hg2
    obtain ⟨xr, xn⟩ := x
    dsimp only at hg2
    obtain ⟨k, rfl⟩ := Int.eq_ofNat_of_zero_le hg2.1
    obtain ⟨j, rfl⟩ : ∃ j : Nat, xn = (j : Int) + 1 := ⟨(xn - 1).toNat, by omega⟩
    have hk : k < 7 := by omega
    have hgm : getML m ⟨(k : Int), (j : Int) + 1⟩ = ((m.f k)[j]?).join := by
      unfold getML
      rw [hg, if_pos rfl]
      have e1 : ((k : Int)).toNat = k := by omega
      have e2 : ((j : Int) + 1).toNat - 1 = j := by omega
      dsimp only
      rw [e1, e2]
    rw [hgm]
    clear hgm hg
    obtain ⟨v, h, A, c, B, d, hv, hh, hr, hA, hBB, hAa, hBa⟩ := rows_factsL hS hk
    have r0 := (row_below hB (row_lt hr)).trans hr
    have c0 := row_cell r0 0
    have hcv := row_cell r0 (1 + k)
    rw [rcells_v _ _ _ _ hk, hv] at hcv
    have hch := row_cell r0 (8 + k)
    rw [rcells_h _ _ _ _ hk, hh] at hch
    have hj64 : j < 64 := by omega
    clear hS
    cases hoj : (m.f k)[j]? with
    | none =>
      have hjl : ¬ j < (m.f k).length := fun h => by rw [List.getElem?_eq_getElem h] at hoj; cases hoj
      have hdl : decide (((m.f k).length : Int) < (j : Int) + 1) = true := by rw [decide_eq_true_iff]; omega
      clear hr hB hA hBB hAa hBa
      go_enter Try.func45, Try.ntmps45
      go_wp2_with fail
      generalize hw3 : W.alloc _ = w3 at *
      clear hw3
      generalize hg1 : W.heap.size = g1 at *
      have r6 := T.row
      have l6 := row_lt r6
      have c6 := row_cell r6
      have l0 : g < w3.heap.size := row_lt r0
      refine wp_region_ext (by kernel_rfl) (by kernel_rfl) ?_
      repeat (go_big_quiet_step (first | (go_at_call 66; exact cg.quiet)))
      refine wpQuiet_nil ?_
      rintro _ ⟨x9, rfl⟩
      have T := T.ext x9
      clear r6 l6 c6 c0 l0 r0 hcv hch
      generalize ext _ x9 = w4 at *
      have HT := Lib.hid T; clear T
      go_wp2
      go_ret2
      exact ⟨rfl, hg1 ▸ HT.out.below⟩
    | some o =>
      have hjl : j < (m.f k).length := (List.getElem?_eq_some_iff.1 hoj).1
      have hdl : decide (((m.f k).length : Int) < (j : Int) + 1) = false := by rw [decide_eq_false_iff_not]; omega
      have hlj : (m.f k)[j] = o := (List.getElem?_eq_some_iff.1 hoj).2
      cases B with
      | none => rw [hBB.nil rfl] at hjl; simp at hjl
      | some b =>
      cases A with
      | none => rw [hA.nil rfl] at hjl; simp at hjl
      | some a =>
      obtain ⟨gb, rfl⟩ := hBa b rfl
      obtain ⟨gv, rfl⟩ := hAa a rfl
      have hcb := hBB.one hB hjl 0 (.bool o.isSome) (by rw [hlj]; rfl)
      rw [Nat.mul_one, Nat.add_zero] at hcb
      have hca := hA.one hB hjl 0 (.bool (o.getD false)) (by rw [hlj]; rfl)
      rw [Nat.mul_one, Nat.add_zero] at hca
      have hgb := World.block_lt_of_cell? _ _ hcb
      have hga := World.block_lt_of_cell? _ _ hca
      cases o with
      | none =>
        clear hr hB hA hBB hAa hBa hca hga
        simp only [Option.isSome] at hcb
        go_enter Try.func45, Try.ntmps45
        go_wp2_with fail
        generalize hw3 : W.alloc _ = w3 at *
        clear hw3
        generalize hg1 : W.heap.size = g1 at *
        have r6 := T.row
        have l6 := row_lt r6
        have c6 := row_cell r6
        have l0 : g < w3.heap.size := row_lt r0
        refine wp_region_ext (by kernel_rfl) (by kernel_rfl) ?_
        repeat (go_big_quiet_step (first | (go_at_call 66; exact cg.quiet)))
        refine wpQuiet_nil ?_
        rintro _ ⟨x9, rfl⟩
        have T := T.ext x9
        clear r6 l6 c6 c0 l0 r0 hcv hch hcb hgb
        generalize ext _ x9 = w4 at *
        have HT := Lib.hid T; clear T
        go_wp2
        go_ret2
        exact ⟨rfl, hg1 ▸ HT.out.below⟩
      | some t =>
        simp only [Option.isSome] at hcb
        simp only [Option.getD] at hca
        clear hr hB hA hBB hAa hBa
        go_enter Try.func45, Try.ntmps45
        go_wp2_with fail
        generalize hw3 : W.alloc _ = w3 at *
        clear hw3
        generalize hg1 : W.heap.size = g1 at *
        have r6 := T.row
        have l6 := row_lt r6
        have c6 := row_cell r6
        have l0 : g < w3.heap.size := row_lt r0
        refine wp_region_ext (by kernel_rfl) (by kernel_rfl) ?_
        repeat (go_big_quiet_step (first | (go_at_call 66; exact cg.quiet)))
        refine wpQuiet_nil ?_
        rintro _ ⟨x9, rfl⟩
        have T := T.ext x9
        have hk7 : (k : Int) < 7 := by omega
        have hk0 : ¬ (k : Int) < 0 := by omega
        have hj7 : (j : Int) < ((m.f k).length : Int) := by omega
        have hj0 : (0 : Int) ≤ (j : Int) := by omega
        have hw1 : IntKind.i64.wrap ((j : Int) + 1 - 1) = j := by rw [IntKind.wrap_i64]; omega
        have hw2 : IntKind.i64.wrap (j : Int) = j := by rw [IntKind.wrap_i64]; omega
        go_upto_region 4 with fail
        refine wp_region_ext (by kernel_rfl) (by kernel_rfl) ?_
        repeat (go_big_quiet_step (fail))
        refine wpQuiet_nil ?_
        rintro _ ⟨x8, rfl⟩
        have T := T.ext x8
        have HT := Lib.hid T; clear T
        go_wp2
        go_ret2
        exact ⟨rfl, hg1 ▸ HT.out.below⟩
end Go.Proofs.Ytnjgjhjilolanaa
/- Layer 3: rows of items: none as yet; the greatest number. -/
namespace Go.Proofs.Ytnjgjhjilolanaa
open Go.RowKit
set_option linter.unusedVariables false
set_option maxRecDepth 20000
attribute [local go_sem] row_alloc row_drew row_drewN row_ext row_setCell row_setRow size_ext setRow_alloc setRow_drew loadOf storeOf piece_lit loadVal_at storeVal_at allOne_lit buildOf buildRes_some
attribute [local go_sem high] cell_alloc frozen_alloc setCell_alloc cell_ext frozen_ext cell_setRow frozen_setRow
attribute [local go_sem ↓] TItem_ld0 TItem_st0 TItem_fd0 TItem_bd0
attribute [local go_sem] TItem_size TItem_one TItem_piece TItem_c0 TItem_c1 TItem_set_rep TItem_set_num TItem_ld TItem_st TItem_f_rep TItem_f_num TItem_bd TItem_fl TItem_fl_rep TItem_fl_num
attribute [local go_sem high] TItem_eql TItem_neq
attribute [local go_sem] rcells_n
theorem pairs_nilL {w W : World} {F : Nat → Prop} : ∀ (ks : List Nat) {R : List Res}, Sts w F W R → Sts w F W (ks.map (pairRL (fun _ => []) (fun _ => .slice none 0 0) (fun _ => .slice none 0 0)) ++ R)
  | [], R, T => T
  | k :: ks, R, T => ((pairs_nilL ks T).vecNil 4 1 |>.vecNil 4 1).join
set_option maxHeartbeats 4000000 in
theorem irNewTL (n : Int) (hn : -9223372036854775808 ≤ n ∧ n ≤ 9223372036854775807) {w W : World} {F : Nat → Prop} {R : List Res} (T : Sts w F W R) :
    Calls Try.prog 63 #[.int .i64 n] W fun e W' => e = .returned (.pointer (some ⟨W.heap.size, 0, none⟩)) ∧ Sts w F W' (rowsIRL W.heap.size ⟨newN n, fun _ => []⟩ :: R) := by
  have TN := T.new (rcells (newN n) (fun _ => .slice none 0 0) (fun _ => .slice none 0 0)) 110
  have TR : Sts w F (W.alloc (.cells (rcells (newN n) (fun _ => .slice none 0 0) (fun _ => .slice none 0 0)) 110)) (rowsIRL W.heap.size ⟨newN n, fun _ => []⟩ :: R) := by
    have T1 := pairs_nilL (List.range 7) TN
    have T2 := T1.perm List.perm_middle
    exact (Sts.pack (L := rowR W.heap.size (rcells (newN n) (fun _ => .slice none 0 0) (fun _ => .slice none 0 0)) :: (List.range 7).map (pairRL (fun _ => []) (fun _ => .slice none 0 0) (fun _ => .slice none 0 0))) T2).close ((fun _ => .slice none 0 0), (fun _ => .slice none 0 0))
  have HR := Lib.hid TR; clear TN TR T
  by_cases h0 : n < 0
  · have e : newN n = 0 := by unfold newN; rw [if_pos h0]
    rw [e] at HR ⊢
    go_enter Try.func63, Try.ntmps63
    go_wp2
    go_ret
    exact ⟨rfl, HR.out⟩
  · by_cases h7 : 7 < n
    · have e : newN n = 7 := by unfold newN; rw [if_neg h0, if_pos h7]
      rw [e] at HR ⊢
      go_enter Try.func63, Try.ntmps63
      go_wp2
      go_ret
      exact ⟨rfl, HR.out⟩
    · have e : newN n = n := by unfold newN; rw [if_neg h0, if_neg h7]
      rw [e] at HR ⊢
      go_enter Try.func63, Try.ntmps63
      go_wp2
      go_ret
      exact ⟨rfl, HR.out⟩
end Go.Proofs.Ytnjgjhjilolanaa
