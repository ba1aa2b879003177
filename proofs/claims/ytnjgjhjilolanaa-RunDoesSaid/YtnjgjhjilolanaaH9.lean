/- Several texts in one. -/
import Derived.Test.YtnjgjhjilolanaaH7
import Derived.Test.YtnjgjhjilolanaaH8
import Derived.Test.YtnjgjhjilolanaaH2
import Derived.Test.YtnjgjhjilolanaaH4
import Derived.Test.YtnjgjhjilolanaaH5
/- Layer 18: a graph in memory: what is committed, what is done. -/
namespace Go.Proofs.Ytnjgjhjilolanaa
open Go.RowKit
set_option linter.unusedVariables false
set_option maxRecDepth 20000
attribute [local go_sem] row_alloc row_drew row_drewN row_ext row_setCell row_setRow size_ext setRow_alloc setRow_drew loadOf storeOf piece_lit loadVal_at storeVal_at allOne_lit buildOf buildRes_some
attribute [local go_sem high] cell_alloc frozen_alloc setCell_alloc cell_ext frozen_ext cell_setRow frozen_setRow
attribute [local go_sem ↓] TDeed_ld0 TDeed_st0 TDeed_fd0 TDeed_bd0
attribute [local go_sem] TDeed_size TDeed_one TDeed_piece TDeed_c0 TDeed_c1 TDeed_c2 TDeed_c3 TDeed_c4 TDeed_c5 TDeed_set_kind TDeed_set_key TDeed_set_val TDeed_set_ver TDeed_set_ses TDeed_set_num TDeed_ld TDeed_st TDeed_f_kind TDeed_f_key TDeed_f_val TDeed_f_ver TDeed_f_ses TDeed_f_num TDeed_bd TDeed_fl TDeed_fl_kind TDeed_fl_key TDeed_fl_val TDeed_fl_ver TDeed_fl_ses TDeed_fl_num
attribute [local go_sem high] TDeed_eql TDeed_neq
attribute [local go_sem ↓] index_deps0 load_deps0 store_deps0
attribute [local go_sem] DV_piece DV_size DV_one index_deps load_deps store_deps
attribute [local go_sem high] TDeps_eql TDeps_neq
attribute [local go_sem ↓] TCall_ld0 TCall_st0 TCall_fd0 TCall_bd0
attribute [local go_sem] TCall_size TCall_one TCall_piece TCall_c0 TCall_c1 TCall_c2 TCall_c3 TCall_c4 TCall_c5 TCall_c6 TCall_c7 TCall_c8 TCall_c9 TCall_c10 TCall_c11 TCall_c12 TCall_c13 TCall_p_deed TCall_put_deed TCall_p_deps TCall_put_deps TCall_set_seq TCall_ld TCall_st TCall_f_deed TCall_f_deps TCall_f_seq TCall_bd TCall_fl TCall_fl_deed TCall_fl_deps TCall_fl_seq
attribute [local go_sem high] TCall_eql TCall_neq
attribute [local go_sem ↓] TItem_ld0 TItem_st0 TItem_fd0 TItem_bd0
attribute [local go_sem] TItem_size TItem_one TItem_piece TItem_c0 TItem_c1 TItem_set_rep TItem_set_num TItem_ld TItem_st TItem_f_rep TItem_f_num TItem_bd TItem_fl TItem_fl_rep TItem_fl_num
attribute [local go_sem high] TItem_eql TItem_neq
/-- A graph's things: its block, its calls, its done ones. -/
def grL (b gc gd : Nat) (m : RowsMK) (q : RowsML) : List Res := [rowR b #[.pointer (some ⟨gc, 0, none⟩), .pointer (some ⟨gd, 0, none⟩)], rowsIRK gc m, rowsIRL gd q]
section
variable {w W : World} {F : Nat → Prop} {R : List Res} {b gc gd : Nat} {m : RowsMK} {q : RowsML}
set_option maxHeartbeats 4000000 in
theorem grNewT (n : Int) (hn : -9223372036854775808 ≤ n ∧ n ≤ 9223372036854775807) (T : Sts w F W R) :
    Calls Try.prog 42 #[.int .i64 n] W fun e W' => ∃ b gc gd, e = .returned (.pointer (some ⟨b, 0, none⟩)) ∧ Sts w F W' (grL b gc gd ⟨newN n, fun _ => []⟩ ⟨newN n, fun _ => []⟩ ++ R) := by
  have HN := Lib.hid (irNewTK n hn T)
  go_enter Try.func42, Try.ntmps42
  go_wp2_with fail
  refine HN.out.mono ?_
  clear HN T
  rintro e w1 ⟨rfl, T⟩
  have HN := Lib.hid (irNewTL n hn T); clear T
  go_wp2_with fail
  refine HN.out.mono ?_
  clear HN
  rintro e w2 ⟨rfl, T⟩
  have T2 := T.new #[.pointer (some ⟨W.heap.size, 0, none⟩), .pointer (some ⟨w1.heap.size, 0, none⟩)] 88
  have T3 := T2.ord [0, 2, 1]
  have HT := Lib.hid (show Sts w F _ (grL w2.heap.size W.heap.size w1.heap.size ⟨newN n, fun _ => []⟩ ⟨newN n, fun _ => []⟩ ++ R) from T3); clear T T2 T3
  go_wp2
  go_ret
  exact ⟨w2.heap.size, W.heap.size, w1.heap.size, rfl, HT.out⟩
set_option maxHeartbeats 4000000 in
theorem grOverR (b gc gd : Nat) (m : RowsMK) (q : RowsML) (hq : 0 ≤ q.n ∧ q.n ≤ 7) (x : Item) : Reads Try.prog 14 #[.pointer (some ⟨b, 0, none⟩), .agg (IV x)] (grL b gc gd m q) (.bool (getML q x).isSome) := by
  intro W G hS
  have T := (Sts.start0 W).new (IV x) 35
  have TS : Sts W G W [rowR b #[.pointer (some ⟨gc, 0, none⟩), .pointer (some ⟨gd, 0, none⟩)], rowsIRK gc m, rowsIRL gd q] := Sts.start hS
  have hbW := row_lt TS.row
  have hrl : ∀ W' R', Sts W (fun _ => False) W' R' → (W'.cell? ⟨b, 1, none⟩ = some (.pointer (some ⟨gd, 0, none⟩)) ∧ b < W'.heap.size) := fun W' R' T => by
    have r := (row_below T.below hbW).trans TS.row
    exact ⟨row_cell r 1, row_lt r⟩
  have hat := fun (W' : World) (R' : List Res) (T : Sts W (fun _ => False) W' R') => (irAtRL gd q hq x).at (R := [rowR b #[.pointer (some ⟨gc, 0, none⟩), .pointer (some ⟨gd, 0, none⟩)], rowsIRK gc m]) ((TS.pure T.below).ord [2, 0, 1])
  have HRL := Lib.hid hrl; have HAT := Lib.hid hat
  clear hrl hat TS hS hbW
  go_enter Try.func14, Try.ntmps14
  go_upto_region 3 with fail
  generalize hw3 : W.alloc _ = w3 at *
  clear hw3
  generalize hg1 : W.heap.size = g1 at *
  have FS : ∀ W' R', Sts W (fun _ => False) W' (rowR g1 (IV x) :: R') → (W'.cell? ⟨b, 1, none⟩ = some (.pointer (some ⟨gd, 0, none⟩)) ∧ row? W' g1 = some (IV x)) := fun W' R' T => ⟨(HRL.out W' _ T).1, T.row⟩
  have S0 := FS _ _ T.drew
  have HFS := Lib.hid FS; have HT := Lib.hid T.drew
  clear FS T HRL
  refine wp_region_held_drew (S := fun W' => (W'.cell? ⟨b, 1, none⟩ = some (.pointer (some ⟨gd, 0, none⟩)) ∧ row? W' g1 = some (IV x))) (by kernel_rfl) S0 (fun hHeld => ?_)
  clear S0
  refine tkH 0 rfl ?_
  simp only [Act.put, List.setIfInBounds_toArray, List.set_cons_zero, List.set_cons_succ]
  refine tkH 1 rfl ?_
  go_frame
  refine tkH 2 rfl ?_
  go_frame
  refine tkH 3 rfl ?_
  go_frame
  refine tkH 4 rfl ?_
  go_frame
  refine wpAnyH_ready (rs := [5]) (by kernel_rfl) (by simp) ?_
  refine AllReadyH.cons (o := _) rfl (fun K hK => ?_) AllReadyH.nil
  go_simp
  refine (HAT.out _ _ HT.out).mono ?_
  rintro e w4 ⟨rfl, hb⟩
  have T1 := HT.out.pure hb
  clear hb HT HAT
  refine hK.out _ _ (HFS.out _ _ T1) (fun hHeld => ?_)
  clear hK K
  refine tkH 6 rfl ?_
  simp only [Act.put, List.setIfInBounds_toArray, List.set_cons_zero, List.set_cons_succ]
  refine tkH 7 rfl ?_
  go_frame
  refine tkH 8 rfl ?_
  go_frame
  refine tkH 9 rfl ?_
  go_frame
  refine tkH 10 rfl ?_
  go_frame
  refine wpAnyH_done (by kernel_rfl) ?_ _
  simp only [Exit.then]
  have HT := Lib.hid T1; clear T1
  go_wp2
  go_ret
  exact ⟨rfl, by first | exact HT.out.below | (rw [hg1]; exact HT.out.below) | (rw [← hg1]; exact HT.out.below)⟩
set_option maxHeartbeats 8000000 in
theorem grIsR (b gc gd : Nat) (m : RowsMK) (q : RowsML) (hm : 0 ≤ m.n ∧ m.n ≤ 7) (x : Item) : Reads Try.prog 18 #[.pointer (some ⟨b, 0, none⟩), .agg (IV x)] (grL b gc gd m q) (.bool (getMK m x).isSome) := by
  intro W G hS
  have T := (Sts.start0 W).new (IV x) 35
  have TS : Sts W G W [rowR b #[.pointer (some ⟨gc, 0, none⟩), .pointer (some ⟨gd, 0, none⟩)], rowsIRK gc m, rowsIRL gd q] := Sts.start hS
  have hbW := row_lt TS.row
  have hrl : ∀ W' R', Sts W (fun _ => False) W' R' → (W'.cell? ⟨b, 0, none⟩ = some (.pointer (some ⟨gc, 0, none⟩)) ∧ b < W'.heap.size) := fun W' R' T => by
    have r := (row_below T.below hbW).trans TS.row
    exact ⟨row_cell r 0, row_lt r⟩
  have hat := fun (W' : World) (R' : List Res) (T : Sts W (fun _ => False) W' R') => (irAtRK gc m hm x).at (R := [rowR b #[.pointer (some ⟨gc, 0, none⟩), .pointer (some ⟨gd, 0, none⟩)], rowsIRL gd q]) ((TS.pure T.below).ord [1, 0, 2])
  have HRL := Lib.hid hrl; have HAT := Lib.hid hat
  clear hrl hat TS hS hbW
  go_enter Try.func18, Try.ntmps18
  go_upto_region 3 with fail
  generalize hw3 : W.alloc _ = w3 at *
  clear hw3
  generalize hg1 : W.heap.size = g1 at *
  have FS : ∀ W' R', Sts W (fun _ => False) W' (rowR g1 (IV x) :: R') → (W'.cell? ⟨b, 0, none⟩ = some (.pointer (some ⟨gc, 0, none⟩)) ∧ row? W' g1 = some (IV x)) := fun W' R' T => ⟨(HRL.out W' _ T).1, T.row⟩
  have S0 := FS _ _ T.drew
  have HFS := Lib.hid FS; have HT := Lib.hid T.drew
  clear FS T HRL
  generalize hres : (getMK m x).getD noCall = res at *
  generalize hbs : (getMK m x).isSome = bs at *
  have HBS := Lib.hid hbs; have HRS := Lib.hid hres; clear hbs hres
  refine wp_region_held_drew (S := fun W' => (W'.cell? ⟨b, 0, none⟩ = some (.pointer (some ⟨gc, 0, none⟩)) ∧ row? W' g1 = some (IV x))) (by kernel_rfl) S0 (fun hHeld => ?_)
  clear S0
  refine tkH 0 rfl ?_
  simp only [Act.put, List.setIfInBounds_toArray, List.set_cons_zero, List.set_cons_succ]
  refine tkH 1 rfl ?_
  go_frame
  refine tkH 2 rfl ?_
  go_frame
  refine tkH 3 rfl ?_
  go_frame
  refine tkH 4 rfl ?_
  go_frame
  refine wpAnyH_ready (rs := [5, 9]) (by kernel_rfl) (by simp) ?_
  refine AllReadyH.cons (o := _) rfl (fun K hK => ?_) ?_
  · go_simp
    refine (HAT.out _ _ HT.out).mono ?_
    rintro e w4 ⟨rfl, hb⟩
    have T1 := HT.out.pure hb
    clear hb HT HAT
    refine hK.out _ _ (HFS.out _ _ T1) (fun hHeld => ?_)
    clear hK K
    refine tkH 6 rfl ?_
    simp only [Act.put, List.setIfInBounds_toArray, List.set_cons_zero, List.set_cons_succ]
    refine tkH 7 rfl ?_
    go_frame
    refine tkH 8 rfl ?_
    go_frame
    have T2 := T1.new (CV res) 47
    have T2a := T1.new (CV noCall) 47
    have r2 := T2a.row; have l2 := row_lt r2
    have HT2 := Lib.hid T2; have HT2a := Lib.hid T2a
    clear T1 T2 T2a
    rw [noInst_litK] at r2 l2
    refine wpAnyH_ready (rs := [9]) (by kernel_rfl) (by simp) ?_
    refine AllReadyH.cons (o := _) rfl (fun K hK => ?_) AllReadyH.nil
    go_simp
    refine hK.out _ _ ?_ (fun hHeld => ?_)
    · have := HFS.out _ _ (HT2a.out.swap)
      rw [noInst_litK] at this
      exact this
    clear hK K
    refine wpAnyH_ready (rs := [10]) (by kernel_rfl) (by simp) ?_
    refine AllReadyH.cons (o := _) rfl (fun K hK => ?_) AllReadyH.nil
    go_simp
    refine hK.out _ _ ?_ (fun hHeld => ?_)
    · exact HFS.out _ _ (HT2.out.swap)
    clear hK K r2 l2 HT2a
    refine tkH 11 rfl ?_
    simp only [Act.put, List.setIfInBounds_toArray, List.set_cons_zero, List.set_cons_succ]
    refine wpAnyH_done (by kernel_rfl) ?_ _
    simp only [Exit.then]
    have HT := Lib.hid (HT2.out.drop); clear HT2
    go_wp2
    go_ret
    exact ⟨by rw [HBS.out]; rfl, by first | exact HT.out.below | (rw [hg1]; exact HT.out.below) | (rw [← hg1]; exact HT.out.below)⟩
  · have T1 := HT.out.new (CV noCall) 47
    have r1 := T1.row; have l1 := row_lt r1
    rw [noInst_litK] at r1 l1
    have HT1 := Lib.hid T1; clear T1 HT
    refine AllReadyH.cons (o := _) rfl (fun K hK => ?_) AllReadyH.nil
    go_simp
    refine hK.out _ _ ?_ (fun hHeld => ?_)
    · have := HFS.out _ _ HT1.out.swap
      rw [noInst_litK] at this
      exact this
    clear hK K r1 l1
    refine wpAnyH_ready (rs := [5]) (by kernel_rfl) (by simp) ?_
    refine AllReadyH.cons (o := _) rfl (fun K hK => ?_) AllReadyH.nil
    go_simp
    have hbb := HT1.out
    rw [noInst_litK] at hbb
    refine (HAT.out _ _ hbb).mono ?_
    rintro e w4 ⟨rfl, hb⟩
    have T1 := HT1.out
    rw [noInst_litK] at T1
    have T2 := T1.pure hb
    clear hb HT1 HAT hbb T1
    refine hK.out _ _ ?_ (fun hHeld => ?_)
    · exact HFS.out _ _ T2.swap
    clear hK K
    refine tkH 6 rfl ?_
    simp only [Act.put, List.setIfInBounds_toArray, List.set_cons_zero, List.set_cons_succ]
    refine tkH 7 rfl ?_
    go_frame
    refine tkH 8 rfl ?_
    go_frame
    have T3 := T2.setRow (CV res)
    have r2 := T2.row; have l2 := row_lt r2
    have HT3 := Lib.hid T3; clear T2 T3
    simp only [size_drew] at r2 l2 HT3
    generalize w3.heap.size = g5 at *
    refine wpAnyH_ready (rs := [10]) (by kernel_rfl) (by simp) ?_
    refine AllReadyH.cons (o := _) rfl (fun K hK => ?_) AllReadyH.nil
    go_simp
    refine hK.out _ _ ?_ (fun hHeld => ?_)
    · exact HFS.out _ _ HT3.out.swap
    clear hK K r2 l2
    refine tkH 11 rfl ?_
    simp only [Act.put, List.setIfInBounds_toArray, List.set_cons_zero, List.set_cons_succ]
    refine wpAnyH_done (by kernel_rfl) ?_ _
    simp only [Exit.then]
    have HT := Lib.hid (HT3.out.drop); clear HT3
    go_wp2
    go_ret
    exact ⟨by rw [HBS.out]; rfl, by first | exact HT.out.below | (rw [hg1]; exact HT.out.below) | (rw [← hg1]; exact HT.out.below)⟩
end
end Go.Proofs.Ytnjgjhjilolanaa
/- Endings with a row and a slot. Nothing of the program stands here. -/
namespace Go.Proofs.Ytnjgjhjilolanaa
open Go.RowKit
theorem ret_row_tmp {P : Program} {fn : Func} {R : Ending → World → Prop} {a : Act} {w : World} {p q : Tmp} {T : TypeId} {n : Nat} {d : TypeDesc} (X : Array Value) (v : Value) {g : Nat} (hu : P.underlying T = some d) (hd : d.isRow = true)
    (hi : (P.info? T).map (·.size) = some n) (hr : fn.results = #[.cell p T, .tmp q]) (hp : a.tmps.getD p undef = .pointer (some ⟨g, 0, none⟩)) (hv : a.tmps.getD q undef = v) (hdf : a.defers = []) (hX : X.size = n) (hrow : row? w g = some X) (hR : R (.returned (.tuple #[.agg X, v])) w) : bodyPost P fn R .ret a w := by
  obtain ⟨t, ht⟩ := row_some hrow
  refine bodyPost_ret ?_ hdf hR
  have hp' : a.tmps[p]?.getD undef = .pointer (some ⟨g, 0, none⟩) := by simpa using hp
  have hv' : a.tmps[q]?.getD undef = v := by simpa using hv
  have hl := run_loadVar_row w g t T X (0, 0) d ht hu (by cases d <;> first | rfl | exact hd) (by rw [hi, hX])
  simp [results, hr, hp', hv', asAddr, hl]
end Go.Proofs.Ytnjgjhjilolanaa
/- Layer 18: a committed call; an item is committed; items are done. -/
namespace Go.Proofs.Ytnjgjhjilolanaa
open Go.RowKit
set_option linter.unusedVariables false
set_option maxRecDepth 20000
attribute [local go_sem] row_alloc row_drew row_drewN row_ext row_setCell row_setRow size_ext setRow_alloc setRow_drew loadOf storeOf piece_lit loadVal_at storeVal_at allOne_lit buildOf buildRes_some
attribute [local go_sem high] cell_alloc frozen_alloc setCell_alloc cell_ext frozen_ext cell_setRow frozen_setRow
attribute [local go_sem ↓] TDeed_ld0 TDeed_st0 TDeed_fd0 TDeed_bd0
attribute [local go_sem] TDeed_size TDeed_one TDeed_piece TDeed_c0 TDeed_c1 TDeed_c2 TDeed_c3 TDeed_c4 TDeed_c5 TDeed_set_kind TDeed_set_key TDeed_set_val TDeed_set_ver TDeed_set_ses TDeed_set_num TDeed_ld TDeed_st TDeed_f_kind TDeed_f_key TDeed_f_val TDeed_f_ver TDeed_f_ses TDeed_f_num TDeed_bd TDeed_fl TDeed_fl_kind TDeed_fl_key TDeed_fl_val TDeed_fl_ver TDeed_fl_ses TDeed_fl_num
attribute [local go_sem high] TDeed_eql TDeed_neq
attribute [local go_sem ↓] index_deps0 load_deps0 store_deps0
attribute [local go_sem] DV_piece DV_size DV_one index_deps load_deps store_deps
attribute [local go_sem high] TDeps_eql TDeps_neq
attribute [local go_sem ↓] TCall_ld0 TCall_st0 TCall_fd0 TCall_bd0
attribute [local go_sem] TCall_size TCall_one TCall_piece TCall_c0 TCall_c1 TCall_c2 TCall_c3 TCall_c4 TCall_c5 TCall_c6 TCall_c7 TCall_c8 TCall_c9 TCall_c10 TCall_c11 TCall_c12 TCall_c13 TCall_p_deed TCall_put_deed TCall_p_deps TCall_put_deps TCall_set_seq TCall_ld TCall_st TCall_f_deed TCall_f_deps TCall_f_seq TCall_bd TCall_fl TCall_fl_deed TCall_fl_deps TCall_fl_seq
attribute [local go_sem high] TCall_eql TCall_neq
attribute [local go_sem ↓] TItem_ld0 TItem_st0 TItem_fd0 TItem_bd0
attribute [local go_sem] TItem_size TItem_one TItem_piece TItem_c0 TItem_c1 TItem_set_rep TItem_set_num TItem_ld TItem_st TItem_f_rep TItem_f_num TItem_bd TItem_fl TItem_fl_rep TItem_fl_num
attribute [local go_sem high] TItem_eql TItem_neq
section
variable {w W : World} {F : Nat → Prop} {R : List Res} {b gc gd : Nat} {m : RowsMK} {q : RowsML}
set_option maxHeartbeats 8000000 in
theorem grCallR (b gc gd : Nat) (m : RowsMK) (q : RowsML) (hm : 0 ≤ m.n ∧ m.n ≤ 7) (x : Item) : Reads Try.prog 17 #[.pointer (some ⟨b, 0, none⟩), .agg (IV x)] (grL b gc gd m q) (.tuple #[.agg (CV ((getMK m x).getD noCall)), .bool (getMK m x).isSome]) := by
  intro W G hS
  obtain ⟨w3, hw3⟩ : ∃ w3, w3 = (W.alloc (.cells (IV x) 35)).alloc (.cells (CV noCall) 47) := ⟨_, rfl⟩
  have T := ((Sts.start0 W).new (IV x) 35).new (CV noCall) 47
  simp only [World.size_alloc] at T
  rw [← hw3] at T
  rw [noInst_litK] at hw3
  have TS : Sts W G W [rowR b #[.pointer (some ⟨gc, 0, none⟩), .pointer (some ⟨gd, 0, none⟩)], rowsIRK gc m, rowsIRL gd q] := Sts.start hS
  have hbW := row_lt TS.row
  have hrl : ∀ W' R', Sts W (fun _ => False) W' R' → (W'.cell? ⟨b, 0, none⟩ = some (.pointer (some ⟨gc, 0, none⟩)) ∧ b < W'.heap.size) := fun W' R' T => by
    have r := (row_below T.below hbW).trans TS.row
    exact ⟨row_cell r 0, row_lt r⟩
  have hat := fun (W' : World) (R' : List Res) (T : Sts W (fun _ => False) W' R') => (irAtRK gc m hm x).at (R := [rowR b #[.pointer (some ⟨gc, 0, none⟩), .pointer (some ⟨gd, 0, none⟩)], rowsIRL gd q]) ((TS.pure T.below).ord [1, 0, 2])
  have HRL := Lib.hid hrl; have HAT := Lib.hid hat
  clear hrl hat TS hS hbW
  go_enter Try.func17, Try.ntmps17
  go_upto_region 3 with fail
  rw [← hw3]
  clear hw3
  generalize hg2 : W.heap.size + 1 = g2 at *
  generalize hg1 : W.heap.size = g1 at *
  have FS : ∀ W' R', Sts W (fun _ => False) W' (rowR g1 (IV x) :: R') → (W'.cell? ⟨b, 0, none⟩ = some (.pointer (some ⟨gc, 0, none⟩)) ∧ row? W' g1 = some (IV x)) := fun W' R' T => ⟨(HRL.out W' _ T).1, T.row⟩
  have S0 := FS _ _ T.drew.swap
  have HFS := Lib.hid FS; have HT := Lib.hid T.drew
  clear FS T HRL
  generalize hres : (getMK m x).getD noCall = res at *
  generalize hbs : (getMK m x).isSome = bs at *
  have HBS := Lib.hid hbs; have HRS := Lib.hid hres; clear hbs hres
  refine wp_region_stage (fun W' => (W'.cell? ⟨b, 0, none⟩ = some (.pointer (some ⟨gc, 0, none⟩)) ∧ row? W' g1 = some (IV x))) (fun W' => True) 8 (by kernel_rfl) S0 (fun hHeld => ?_)
  clear S0
  have hm0 : ∀ W' : World, (W'.cell? ⟨b, 0, none⟩ = some (.pointer (some ⟨gc, 0, none⟩)) ∧ row? W' g1 = some (IV x)) → True := fun _ _ => trivial
  have HM := Lib.hid hm0; clear hm0
  refine tk0 0 rfl ?_
  simp only [Act.put, List.setIfInBounds_toArray, List.set_cons_zero, List.set_cons_succ]
  refine tk0 1 rfl ?_
  go_frame
  refine tk0 2 rfl ?_
  go_frame
  refine tk0 3 rfl ?_
  go_frame
  refine tk0 4 rfl ?_
  go_frame
  refine wpAnyL_ready (rs := [5]) (by kernel_rfl) (by simp) ?_
  refine AllReadyL.cons0 (o := _) rfl (by kernel_rfl) (fun K hK => ?_) AllReadyL.nil
  go_simp
  refine (HAT.out _ _ HT.out).mono ?_
  rintro e w4 ⟨rfl, hb⟩
  have T1 := HT.out.pure hb
  clear hb HT HAT
  refine hK.out _ _ (HFS.out _ _ T1.swap) (fun hHeld => ?_)
  clear hK K
  refine tk0 6 rfl ?_
  simp only [Act.put, List.setIfInBounds_toArray, List.set_cons_zero, List.set_cons_succ]
  refine tk0 7 rfl ?_
  go_frame
  refine wpAnyL_ready (rs := [8]) (by kernel_rfl) (by simp) ?_
  refine AllReadyL.cons1 (o := _) rfl (by kernel_rfl) (fun K hK => ?_) AllReadyL.nil
  have r2 := T1.row; have l2 := row_lt r2
  rw [noInst_litK] at r2
  have T2 := T1.setRow (CV res)
  have HT2 := Lib.hid T2; clear T1 T2
  go_simp
  refine hK.out _ _ trivial (fun hHeld => ?_)
  clear hK K r2 l2
  refine tk2 9 HM.out rfl ?_
  simp only [Act.put, List.setIfInBounds_toArray, List.set_cons_zero, List.set_cons_succ]
  refine wpAnyL_done (by kernel_rfl) ?_ _
  try simp only [Exit.then]
  generalize w4.setRow _ _ = w5 at *
  go_wp2
  refine ret_row_tmp (CV res) (.bool bs) TCall_und rfl (by kernel_rfl) rfl rfl rfl rfl (TCall_size _) HT2.out.row ?_
  exact ⟨by rw [HBS.out, HRS.out], by first | exact HT2.out.below | (rw [hg1]; exact HT2.out.below) | (rw [← hg1]; exact HT2.out.below)⟩
noncomputable def canC (m : RowsMK) (x : Item) (c : Call) : Bool := goodD c.deps 7 && (!(getMK m x).isSome) && goodI x m.n
noncomputable def comC (m : RowsMK) (x : Item) (c : Call) : RowsMK := if goodD c.deps 7 = true ∧ (getMK m x).isSome = false then setMK m x c else m
set_option maxHeartbeats 8000000 in
theorem grCommitD (b gc gd : Nat) (m : RowsMK) (q : RowsML) (hm : 0 ≤ m.n ∧ m.n ≤ 7) (x : Item) (c : Call) : Does Try.prog 24 #[.pointer (some ⟨b, 0, none⟩), .agg (IV x), .agg (CV c)] (grL b gc gd m q) (.bool (canC m x c)) (grL b gc gd (comC m x c) q) := by
  intro W G hS
  have T := ((Sts.start hS).new (IV x) 35).new (CV c) 47
  simp only [World.size_alloc] at T
  have T : Sts W G _ (rowR (W.heap.size + 1) (CV c) :: rowR W.heap.size (IV x) :: rowR b #[.pointer (some ⟨gc, 0, none⟩), .pointer (some ⟨gd, 0, none⟩)] :: rowsIRK gc m :: rowsIRL gd q :: []) := T
  have T := T.ord [2, 1, 0, 3, 4]
  have hg := good_any c.deps 7
  cases hgd : goodD c.deps 7
  case false =>
    rw [hgd] at hg
    have HG := Lib.hid hg
    have hv : canC m x c = false := by unfold canC; rw [hgd]; simp
    have hc : comC m x c = m := by unfold comC; rw [if_neg (by rw [hgd]; simp)]
    rw [hv, hc]
    have r2 := T.row2; have l2 := row_lt r2
    have HT := Lib.hid T
    clear hS hg hv hc T
    go_enter Try.func24, Try.ntmps24
    go_wp2_with fail
    refine (Ans.at HG.out HT.out).mono ?_
    clear HG HT r2 l2
    rintro e w1 ⟨rfl, T⟩
    have HT := Lib.hid T; clear T
    go_wp2
    go_ret
    have T9 := (HT.out.ord [1, 2, 0, 3, 4]).drop.drop
    exact ⟨rfl, T9⟩
  case true =>
    rw [hgd] at hg
    have HG := Lib.hid hg
    have r2 := T.row2; have l2 := row_lt r2
    have HT := Lib.hid T
    clear hS hg T
    go_enter Try.func24, Try.ntmps24
    go_wp2_with fail
    refine (Ans.at HG.out HT.out).mono ?_
    clear HG HT r2 l2
    rintro e w3 ⟨rfl, T⟩
    generalize W.heap.size + 1 = g2 at *
    generalize W.heap.size = g1 at *
    have HT := Lib.hid T; clear T
    go_upto_region 3 with fail
    have T := HT.out; clear HT
    have FS : ∀ W' R', Sts W G W' (rowR b #[.pointer (some ⟨gc, 0, none⟩), .pointer (some ⟨gd, 0, none⟩)] :: rowR g1 (IV x) :: R') → (W'.cell? ⟨b, 0, none⟩ = some (.pointer (some ⟨gc, 0, none⟩)) ∧ row? W' g1 = some (IV x)) := fun W' R' T => ⟨row_cell T.row 0, T.row1⟩
    have S0 := FS _ _ T.drew
    have HFS := Lib.hid FS; have HT := Lib.hid T.drew
    have hat : ∀ W' R', Sts W G W' (rowsIRK gc m :: R') → Calls Try.prog 47 #[.pointer (some ⟨gc, 0, none⟩), .agg (IV x)] W' fun e W'' => e = .returned (.tuple #[.agg (CV ((getMK m x).getD noCall)), .bool (getMK m x).isSome]) ∧ Below W'.heap.size W' W'' := fun W' R' T =>
      (irAtRK gc m hm x).at (R := R') T
    have HAT := Lib.hid hat
    clear FS T hat
    generalize hres : (getMK m x).getD noCall = res at *
    generalize hbs : (getMK m x).isSome = bs at *
    have HBS := Lib.hid hbs; have HRS := Lib.hid hres; clear hbs hres
    refine wp_region_held_drew (S := fun W' => (W'.cell? ⟨b, 0, none⟩ = some (.pointer (some ⟨gc, 0, none⟩)) ∧ row? W' g1 = some (IV x))) (by kernel_rfl) S0 (fun hHeld => ?_)
    clear S0
    refine tkH 0 rfl ?_
    simp only [Act.put, List.setIfInBounds_toArray, List.set_cons_zero, List.set_cons_succ]
    refine tkH 1 rfl ?_
    go_frame
    refine tkH 2 rfl ?_
    go_frame
    refine tkH 3 rfl ?_
    go_frame
    refine tkH 4 rfl ?_
    go_frame
    refine wpAnyH_ready (rs := [5, 9]) (by kernel_rfl) (by simp) ?_
    refine AllReadyH.cons (o := _) rfl (fun K hK => ?_) ?_
    · go_simp
      refine (HAT.out _ _ (HT.out.ord [3, 0, 1, 2, 4])).mono ?_
      rintro e w4 ⟨rfl, hb⟩
      have T1 := HT.out.pure hb
      clear hb HT HAT
      refine hK.out _ _ (HFS.out _ _ T1) (fun hHeld => ?_)
      clear hK K
      refine tkH 6 rfl ?_
      simp only [Act.put, List.setIfInBounds_toArray, List.set_cons_zero, List.set_cons_succ]
      refine tkH 7 rfl ?_
      go_frame
      refine tkH 8 rfl ?_
      go_frame
      have T2 := T1.new (CV res) 47
      have T2a := T1.new (CV noCall) 47
      have r2 := T2a.row; have l2 := row_lt r2
      have HT2 := Lib.hid T2; have HT2a := Lib.hid T2a
      clear T1 T2 T2a
      rw [noInst_litK] at r2 l2
      refine wpAnyH_ready (rs := [9]) (by kernel_rfl) (by simp) ?_
      refine AllReadyH.cons (o := _) rfl (fun K hK => ?_) AllReadyH.nil
      go_simp
      refine hK.out _ _ ?_ (fun hHeld => ?_)
      · have := HFS.out _ _ (HT2a.out.ord [1, 2, 0])
        rw [noInst_litK] at this
        exact this
      clear hK K
      refine wpAnyH_ready (rs := [10]) (by kernel_rfl) (by simp) ?_
      refine AllReadyH.cons (o := _) rfl (fun K hK => ?_) AllReadyH.nil
      go_simp
      refine hK.out _ _ ?_ (fun hHeld => ?_)
      · exact HFS.out _ _ (HT2.out.ord [1, 2, 0])
      clear hK K r2 l2 HT2a
      refine tkH 11 rfl ?_
      simp only [Act.put, List.setIfInBounds_toArray, List.set_cons_zero, List.set_cons_succ]
      refine wpAnyH_done (by kernel_rfl) ?_ _
      simp only [Exit.then]
      have HT := Lib.hid (HT2.out.drop); clear HT2
      cases bs
      case true =>
        go_wp2
        go_ret
        have hv : canC m x c = false := by unfold canC; rw [HBS.out]; simp
        have hc : comC m x c = m := by unfold comC; rw [if_neg (by rw [HBS.out]; simp)]
        rw [hv, hc]
        have T9 := (HT.out.ord [1, 2, 0, 3, 4]).drop.drop
        exact ⟨rfl, T9⟩
      case false =>
        have HBS := HBS
        have hv : canC m x c = goodI x m.n := by unfold canC; rw [HBS.out, hgd]; simp
        have hc : comC m x c = setMK m x c := by unfold comC; rw [if_pos ⟨hgd, HBS.out⟩]
        have HV := Lib.hid hv; have HC := Lib.hid hc; clear hv hc
        have HS := Lib.hid (irSetDK gc m hm x c)
        go_upto_region 6 with fail
        have FS : ∀ W' R', Sts W G W' (rowR b #[.pointer (some ⟨gc, 0, none⟩), .pointer (some ⟨gd, 0, none⟩)] :: rowR g1 (IV x) :: rowR g2 (CV c) :: R') → (W'.cell? ⟨b, 0, none⟩ = some (.pointer (some ⟨gc, 0, none⟩)) ∧ row? W' g1 = some (IV x) ∧ row? W' g2 = some (CV c)) := fun W' R' T => ⟨row_cell T.row 0, T.row1, T.row2⟩
        have HT0 := Lib.hid HT.out.drew
        have S0 := FS _ _ HT0.out
        have HFS := Lib.hid FS
        clear FS HT
        refine wp_region_held_drew (S := fun W' => (W'.cell? ⟨b, 0, none⟩ = some (.pointer (some ⟨gc, 0, none⟩)) ∧ row? W' g1 = some (IV x) ∧ row? W' g2 = some (CV c))) (by kernel_rfl) S0 (fun hHeld => ?_)
        clear S0
        refine tkH 0 rfl ?_
        simp only [Act.put, List.setIfInBounds_toArray, List.set_cons_zero, List.set_cons_succ]
        refine tkH 1 rfl ?_
        go_frame
        refine tkH 2 rfl ?_
        go_frame
        refine tkH 3 rfl ?_
        go_frame
        refine tkH 4 rfl ?_
        go_frame
        refine tkH 5 rfl ?_
        go_frame
        refine wpAnyH_ready (rs := [6]) (by kernel_rfl) (by simp) ?_
        refine AllReadyH.cons (o := _) rfl (fun K hK => ?_) AllReadyH.nil
        go_simp
        refine (Does.at1 HS.out (HT0.out.ord [3, 0, 1, 2, 4])).mono ?_
        clear HT0 HS
        rintro e w6 ⟨rfl, T⟩
        have T2 := T.ord [1, 2, 3, 0, 4]
        refine hK.out _ _ (HFS.out _ _ T2) (fun hHeld => ?_)
        clear hK K
        have HT := Lib.hid T2; clear T T2
        refine tkH 7 rfl ?_
        simp only [Act.put, List.setIfInBounds_toArray, List.set_cons_zero, List.set_cons_succ]
        refine wpAnyH_done (by kernel_rfl) ?_ _
        simp only [Exit.then]
        go_wp2
        go_ret
        have T9 := (HT.out.ord [1, 2, 0, 3, 4]).drop.drop
        rw [HV.out, HC.out]
        exact ⟨rfl, T9⟩
    · have T1 := HT.out.new (CV noCall) 47
      have r1 := T1.row; have l1 := row_lt r1
      rw [noInst_litK] at r1 l1
      have HT1 := Lib.hid T1; clear T1 HT
      refine AllReadyH.cons (o := _) rfl (fun K hK => ?_) AllReadyH.nil
      go_simp
      refine hK.out _ _ ?_ (fun hHeld => ?_)
      · have := HFS.out _ _ (HT1.out.ord [1, 2, 0])
        rw [noInst_litK] at this
        exact this
      clear hK K r1 l1
      refine wpAnyH_ready (rs := [5]) (by kernel_rfl) (by simp) ?_
      refine AllReadyH.cons (o := _) rfl (fun K hK => ?_) AllReadyH.nil
      go_simp
      have hbb := HT1.out
      rw [noInst_litK] at hbb
      refine (HAT.out _ _ (hbb.ord [4, 0, 1, 2, 3, 5])).mono ?_
      rintro e w4 ⟨rfl, hb⟩
      have T1 := HT1.out
      rw [noInst_litK] at T1
      have T2 := T1.pure hb
      clear hb HT1 HAT hbb T1
      refine hK.out _ _ ?_ (fun hHeld => ?_)
      · exact HFS.out _ _ (T2.ord [1, 2, 0])
      clear hK K
      refine tkH 6 rfl ?_
      simp only [Act.put, List.setIfInBounds_toArray, List.set_cons_zero, List.set_cons_succ]
      refine tkH 7 rfl ?_
      go_frame
      refine tkH 8 rfl ?_
      go_frame
      have T3 := T2.setRow (CV res)
      have r2 := T2.row; have l2 := row_lt r2
      have HT3 := Lib.hid T3; clear T2 T3
      simp only [size_drew] at r2 l2 HT3
      generalize w3.heap.size = g5 at *
      refine wpAnyH_ready (rs := [10]) (by kernel_rfl) (by simp) ?_
      refine AllReadyH.cons (o := _) rfl (fun K hK => ?_) AllReadyH.nil
      go_simp
      refine hK.out _ _ ?_ (fun hHeld => ?_)
      · exact HFS.out _ _ (HT3.out.ord [1, 2, 0])
      clear hK K r2 l2
      refine tkH 11 rfl ?_
      simp only [Act.put, List.setIfInBounds_toArray, List.set_cons_zero, List.set_cons_succ]
      refine wpAnyH_done (by kernel_rfl) ?_ _
      simp only [Exit.then]
      have HT := Lib.hid (HT3.out.drop); clear HT3
      cases bs
      case true =>
        go_wp2
        go_ret
        have hv : canC m x c = false := by unfold canC; rw [HBS.out]; simp
        have hc : comC m x c = m := by unfold comC; rw [if_neg (by rw [HBS.out]; simp)]
        rw [hv, hc]
        have T9 := (HT.out.ord [1, 2, 0, 3, 4]).drop.drop
        exact ⟨rfl, T9⟩
      case false =>
        have HBS := HBS
        have hv : canC m x c = goodI x m.n := by unfold canC; rw [HBS.out, hgd]; simp
        have hc : comC m x c = setMK m x c := by unfold comC; rw [if_pos ⟨hgd, HBS.out⟩]
        have HV := Lib.hid hv; have HC := Lib.hid hc; clear hv hc
        have HS := Lib.hid (irSetDK gc m hm x c)
        go_upto_region 6 with fail
        have FS : ∀ W' R', Sts W G W' (rowR b #[.pointer (some ⟨gc, 0, none⟩), .pointer (some ⟨gd, 0, none⟩)] :: rowR g1 (IV x) :: rowR g2 (CV c) :: R') → (W'.cell? ⟨b, 0, none⟩ = some (.pointer (some ⟨gc, 0, none⟩)) ∧ row? W' g1 = some (IV x) ∧ row? W' g2 = some (CV c)) := fun W' R' T => ⟨row_cell T.row 0, T.row1, T.row2⟩
        have HT0 := Lib.hid HT.out.drew
        have S0 := FS _ _ HT0.out
        have HFS := Lib.hid FS
        clear FS HT
        refine wp_region_held_drew (S := fun W' => (W'.cell? ⟨b, 0, none⟩ = some (.pointer (some ⟨gc, 0, none⟩)) ∧ row? W' g1 = some (IV x) ∧ row? W' g2 = some (CV c))) (by kernel_rfl) S0 (fun hHeld => ?_)
        clear S0
        refine tkH 0 rfl ?_
        simp only [Act.put, List.setIfInBounds_toArray, List.set_cons_zero, List.set_cons_succ]
        refine tkH 1 rfl ?_
        go_frame
        refine tkH 2 rfl ?_
        go_frame
        refine tkH 3 rfl ?_
        go_frame
        refine tkH 4 rfl ?_
        go_frame
        refine tkH 5 rfl ?_
        go_frame
        refine wpAnyH_ready (rs := [6]) (by kernel_rfl) (by simp) ?_
        refine AllReadyH.cons (o := _) rfl (fun K hK => ?_) AllReadyH.nil
        go_simp
        refine (Does.at1 HS.out (HT0.out.ord [3, 0, 1, 2, 4])).mono ?_
        clear HT0 HS
        rintro e w6 ⟨rfl, T⟩
        have T2 := T.ord [1, 2, 3, 0, 4]
        refine hK.out _ _ (HFS.out _ _ T2) (fun hHeld => ?_)
        clear hK K
        have HT := Lib.hid T2; clear T T2
        refine tkH 7 rfl ?_
        simp only [Act.put, List.setIfInBounds_toArray, List.set_cons_zero, List.set_cons_succ]
        refine wpAnyH_done (by kernel_rfl) ?_ _
        simp only [Exit.then]
        go_wp2
        go_ret
        have T9 := (HT.out.ord [1, 2, 0, 3, 4]).drop.drop
        rw [HV.out, HC.out]
        exact ⟨rfl, T9⟩
end
end Go.Proofs.Ytnjgjhjilolanaa
/- Layer 18: items are done. -/
namespace Go.Proofs.Ytnjgjhjilolanaa
open Go.RowKit
set_option linter.unusedVariables false
set_option maxRecDepth 20000
attribute [local go_sem] row_alloc row_drew row_drewN row_ext row_setCell row_setRow size_ext setRow_alloc setRow_drew loadOf storeOf piece_lit loadVal_at storeVal_at allOne_lit buildOf buildRes_some
attribute [local go_sem high] cell_alloc frozen_alloc setCell_alloc cell_ext frozen_ext cell_setRow frozen_setRow
attribute [local go_sem ↓] TDeed_ld0 TDeed_st0 TDeed_fd0 TDeed_bd0
attribute [local go_sem] TDeed_size TDeed_one TDeed_piece TDeed_c0 TDeed_c1 TDeed_c2 TDeed_c3 TDeed_c4 TDeed_c5 TDeed_set_kind TDeed_set_key TDeed_set_val TDeed_set_ver TDeed_set_ses TDeed_set_num TDeed_ld TDeed_st TDeed_f_kind TDeed_f_key TDeed_f_val TDeed_f_ver TDeed_f_ses TDeed_f_num TDeed_bd TDeed_fl TDeed_fl_kind TDeed_fl_key TDeed_fl_val TDeed_fl_ver TDeed_fl_ses TDeed_fl_num
attribute [local go_sem high] TDeed_eql TDeed_neq
attribute [local go_sem ↓] index_deps0 load_deps0 store_deps0
attribute [local go_sem] DV_piece DV_size DV_one index_deps load_deps store_deps
attribute [local go_sem high] TDeps_eql TDeps_neq
attribute [local go_sem ↓] TCall_ld0 TCall_st0 TCall_fd0 TCall_bd0
attribute [local go_sem] TCall_size TCall_one TCall_piece TCall_c0 TCall_c1 TCall_c2 TCall_c3 TCall_c4 TCall_c5 TCall_c6 TCall_c7 TCall_c8 TCall_c9 TCall_c10 TCall_c11 TCall_c12 TCall_c13 TCall_p_deed TCall_put_deed TCall_p_deps TCall_put_deps TCall_set_seq TCall_ld TCall_st TCall_f_deed TCall_f_deps TCall_f_seq TCall_bd TCall_fl TCall_fl_deed TCall_fl_deps TCall_fl_seq
attribute [local go_sem high] TCall_eql TCall_neq
attribute [local go_sem ↓] TItem_ld0 TItem_st0 TItem_fd0 TItem_bd0
attribute [local go_sem] TItem_size TItem_one TItem_piece TItem_c0 TItem_c1 TItem_set_rep TItem_set_num TItem_ld TItem_st TItem_f_rep TItem_f_num TItem_bd TItem_fl TItem_fl_rep TItem_fl_num
attribute [local go_sem high] TItem_eql TItem_neq
noncomputable def doneM (q : RowsML) (l : List Item) : RowsML := l.foldl (fun q x => setML q x true) q
theorem setML_n (q : RowsML) (x : Item) (t : Bool) : (setML q x t).n = q.n := by unfold setML; split <;> rfl
theorem doneM_snoc (q : RowsML) (l : List Item) (x : Item) : doneM q (l ++ [x]) = setML (doneM q l) x true := by unfold doneM; rw [List.foldl_append]; rfl
theorem doneM_n (l : List Item) : ∀ q, (doneM q l).n = q.n := by
  induction l with
  | nil => intro q; rfl
  | cons x l ih => intro q; show (doneM (setML q x true) l).n = _; rw [ih, setML_n]
section
variable {w W : World} {F : Nat → Prop} {R : List Res} {b gc gd : Nat} {m : RowsMK} {q : RowsML}
set_option maxHeartbeats 8000000 in
theorem grDoneT (hq : 0 ≤ q.n ∧ q.n ≤ 7) (l : List Item) (hl : l.length ≤ 1000000) {v : Value} (T : Sts w F W (vecR 35 2 v l.length (vl IV l) :: (grL b gc gd m q ++ R))) :
    Calls Try.prog 15 #[.pointer (some ⟨b, 0, none⟩), v] W fun e W' => e = .returned (.tuple #[]) ∧ Sts w F W' (vecR 35 2 v l.length (vl IV l) :: (grL b gc gd m (doneM q l) ++ R)) := by
  obtain ⟨A, c, rfl, -, -, -⟩ := vec_rows TItem_size T (by omega) (by omega)
  have HT := Lib.hid T; clear T
  go_enter Try.func15, Try.ntmps15
  go_wp2_with fail
  go_loopw [8] (fun i wr => ∃ k : Nat, k ≤ l.length ∧ i = .int .i64 k ∧ Sts w F wr (vecR 35 2 (.slice A l.length c) l.length (vl IV l) :: (grL b gc gd m (doneM q (l.take k)) ++ R))) (fun i _ => l.length - (intOf i).toNat)
  case atStart => exact ⟨0, Nat.zero_le _, rfl, HT.out⟩
  case round =>
    clear HT
    obtain ⟨k, hk, rfl, T⟩ := hrel
    by_cases hk2 : k < l.length
    · obtain ⟨_, _, hv, hA, -, hAa⟩ := vec_rows TItem_size T (by omega) (by omega)
      obtain ⟨rfl, -, rfl⟩ := Value.slice.inj hv; clear hv
      cases A with
      | none => rw [hA.nil rfl] at hk2; simp at hk2
      | some a1 =>
        obtain ⟨ga, rfl⟩ := hAa a1 rfl
        have hld := hA.load (P := Try.prog) (T := 35) TItem_size TItem_und rfl (by kernel_rfl) (Below.refl _ _) rfl hk2
        rw [add_none, Nat.zero_add] at hld
        replace hld : loadVal Try.prog 35 2 wr (.pointer (some ⟨ga, k * 2, none⟩)) = .ok (.agg (IV l[k])) wr := hld
        have hk3 : (k : Int) < (l.length : Int) := by omega
        have hk0 : (0 : Int) ≤ (k : Int) := by omega
        have hsn := doneM_snoc q (l.take k) l[k]
        rw [← List.take_succ_eq_append_getElem hk2] at hsn
        have hsd := irSetDL gd (doneM q (l.take k)) (by rw [doneM_n]; exact hq) l[k] true
        rw [← hsn] at hsd
        have HSD := Lib.hid hsd
        clear hsd hsn
        generalize l[k] = x at *
        have T : Sts w F wr (vecR 35 2 (.slice (some ⟨ga, 0, none⟩) l.length c) l.length (vl IV l) :: rowR b #[.pointer (some ⟨gc, 0, none⟩), .pointer (some ⟨gd, 0, none⟩)] :: rowsIRK gc m :: rowsIRL gd (doneM q (l.take k)) :: R) := T
        have T2 := (T.new (IV x) 35).ord [2, 0, 4, 1, 3]
        have HT := Lib.hid T2; clear T T2 hA hAa
        go_upto_region 4 with fail
        generalize wr.alloc _ = w2 at *
        generalize wr.heap.size = g1 at *
        clear hld
        have FS : ∀ W' R', Sts w F W' (rowR b #[.pointer (some ⟨gc, 0, none⟩), .pointer (some ⟨gd, 0, none⟩)] :: rowR g1 (IV x) :: R') → (W'.cell? ⟨b, 1, none⟩ = some (.pointer (some ⟨gd, 0, none⟩)) ∧ row? W' g1 = some (IV x)) := fun W' R' T => ⟨row_cell T.row 1, T.row1⟩
        have HT0 := Lib.hid HT.out.drew
        have S0 := FS _ _ HT0.out
        have HFS := Lib.hid FS
        clear FS HT
        refine wp_region_held_drew (S := fun W' => (W'.cell? ⟨b, 1, none⟩ = some (.pointer (some ⟨gd, 0, none⟩)) ∧ row? W' g1 = some (IV x))) (by kernel_rfl) S0 (fun hHeld => ?_)
        clear S0
        refine tkH 0 rfl ?_
        simp only [Act.put, List.setIfInBounds_toArray, List.set_cons_zero, List.set_cons_succ]
        refine tkH 1 rfl ?_
        go_frame
        refine tkH 2 rfl ?_
        go_frame
        refine tkH 3 rfl ?_
        go_frame
        refine tkH 4 rfl ?_
        go_frame
        refine wpAnyH_ready (rs := [5]) (by kernel_rfl) (by simp) ?_
        refine AllReadyH.cons (o := _) rfl (fun K hK => ?_) AllReadyH.nil
        go_simp
        refine (Does.at1 HSD.out (HT0.out.ord [2, 0, 1, 3, 4])).mono ?_
        clear HT0 HSD
        rintro e w6 ⟨rfl, T⟩
        have T2 := T.ord [1, 2, 0, 3, 4]
        refine hK.out _ _ (HFS.out _ _ T2) (fun hHeld => ?_)
        clear hK K
        have T3 := (T2.ord [1, 3, 0, 4, 2]).drop
        have HT := Lib.hid T3; clear T T2 T3
        refine wpAnyH_done (by kernel_rfl) ?_ _
        try simp only [Exit.then]
        go_wp2
        go_roundw
        case rel => exact ⟨k + 1, by omega, by go_num, HT.out⟩
        case measure => simp [intOf]; omega
    · obtain rfl : k = l.length := by omega
      rw [List.take_length] at T
      have HT := Lib.hid T; clear T
      go_wp2
      go_end0
      exact ⟨rfl, HT.out⟩
end
end Go.Proofs.Ytnjgjhjilolanaa
