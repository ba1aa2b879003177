/- Several texts in one. -/
import Derived.Test.YtnjgjhjilolanaaV36
import Derived.Test.YtnjgjhjilolanaaV37
import Derived.Test.YtnjgjhjilolanaaV5
import Derived.Test.YtnjgjhjilolanaaV17
/- Layer 18: the document's search. -/
namespace Go.Proofs.Ytnjgjhjilolanaa
open Go.RowKit Go.Shelf
set_option linter.unusedVariables false
set_option maxRecDepth 20000
attribute [local go_sem] row_alloc row_drew row_drewN row_ext row_setCell row_setRow size_ext setRow_alloc setRow_drew loadOf storeOf piece_lit loadVal_at storeVal_at allOne_lit buildOf buildRes_some
attribute [local go_sem high] cell_alloc frozen_alloc setCell_alloc cell_ext frozen_ext cell_setRow frozen_setRow
attribute [local go_sem ↓] TDeed_ld0 TDeed_st0 TDeed_fd0 TDeed_bd0
attribute [local go_sem] TDeed_size TDeed_one TDeed_piece TDeed_c0 TDeed_c1 TDeed_c2 TDeed_c3 TDeed_c4 TDeed_c5 TDeed_set_kind TDeed_set_key TDeed_set_val TDeed_set_ver TDeed_set_ses TDeed_set_num TDeed_ld TDeed_st TDeed_f_kind TDeed_f_key TDeed_f_val TDeed_f_ver TDeed_f_ses TDeed_f_num TDeed_bd TDeed_fl TDeed_fl_kind TDeed_fl_key TDeed_fl_val TDeed_fl_ver TDeed_fl_ses TDeed_fl_num
attribute [local go_sem high] TDeed_eql TDeed_neq
attribute [local go_sem ↓] index_deps0 load_deps0 store_deps0
attribute [local go_sem] DV_piece DV_size DV_one index_deps load_deps store_deps
attribute [local go_sem high] TDeps_eql TDeps_neq
attribute [local go_sem ↓] TCall_ld0 TCall_st0 TCall_fd0 TCall_bd0
attribute [local go_sem] TCall_size TCall_one TCall_piece TCall_c0 TCall_c1 TCall_c2 TCall_c3 TCall_c4 TCall_c5 TCall_c6 TCall_c7 TCall_c8 TCall_c9 TCall_c10 TCall_c11 TCall_c12 TCall_c13 TCall_p_deed TCall_put_deed TCall_p_deps TCall_put_deps TCall_set_seq TCall_ld TCall_st TCall_f_deed TCall_f_deps TCall_f_seq TCall_bd TCall_fl TCall_fl_deed TCall_fl_deps TCall_fl_seq
attribute [local go_sem high] TCall_eql TCall_neq
attribute [local go_sem ↓] TItem_ld0 TItem_st0 TItem_fd0 TItem_bd0
attribute [local go_sem] TItem_size TItem_one TItem_piece TItem_c0 TItem_c1 TItem_set_rep TItem_set_num TItem_ld TItem_st TItem_f_rep TItem_f_num TItem_bd TItem_fl TItem_fl_rep TItem_fl_num
attribute [local go_sem high] TItem_eql TItem_neq
attribute [local go_sem ↓] itm_slice0
attribute [local go_sem] itm_slice1 pit_slice1
/-- A search: the graph's address, what was seen, and told. -/
def wkR (wk g : Nat) (s : OvS) : Res := exR fun p : Value × Value => packR [rowR wk #[.pointer (some ⟨g, 0, none⟩), p.1, p.2], vecR 35 2 p.1 s.1.length (vl IV s.1), paR p.2 s.2]
noncomputable def farO (m : RowsMK) (q : RowsML) (n : Nat) (x : Item) (d : Nat → Int) (r j : Nat) (s : OvS) : OvS := ovL (ovF m q (partL m q) n) ((itemsTo d r ++ repL d r j).filter (waitB q x)) s
theorem farO_zero (m : RowsMK) (q : RowsML) (n : Nat) (x : Item) (d : Nat → Int) (s : OvS) : farO m q n x d 0 0 s = s := rfl
theorem farO_next (m : RowsMK) (q : RowsML) (n : Nat) (x : Item) (d : Nat → Int) (r j : Nat) (s : OvS) : farO m q n x d r (j + 1) s = if waitB q x ⟨(r : Int), (j : Int) + 1⟩ = true then (if inB ⟨(r : Int), (j : Int) + 1⟩ (farO m q n x d r j s).1 = true then farO m q n x d r j s else ovF m q (partL m q) n ⟨(r : Int), (j : Int) + 1⟩ (farO m q n x d r j s)) else farO m q n x d r j s := by
  unfold farO
  rw [repL_succ, ← List.append_assoc, List.filter_append]
  by_cases h : waitB q x ⟨(r : Int), (j : Int) + 1⟩ = true
  · rw [if_pos h, List.filter_cons_of_pos h, List.filter_nil, ovL_snoc]
  · rw [if_neg h, List.filter_cons_of_neg h, List.filter_nil, List.append_nil]
theorem farO_row (m : RowsMK) (q : RowsML) (n : Nat) (x : Item) (d : Nat → Int) (r j : Nat) (s : OvS) (h : j = (d r).toNat) : farO m q n x d (r + 1) 0 s = farO m q n x d r j s := by
  subst h
  unfold farO
  rw [itemsTo, show repL d (r + 1) 0 = [] from rfl, List.append_nil]
theorem farO_end (m : RowsMK) (q : RowsML) (n : Nat) (x : Item) {c : Call} (h : getMK m x = some c) (s : OvS) : farO m q n x c.deps 7 0 s = ovL (ovF m q (partL m q) n) (waitsM m q x) s := by
  unfold farO waitsM
  rw [h, Option.getD_some, show repL c.deps 7 0 = [] from rfl, List.append_nil]
  rfl
theorem waits_far {m : RowsMK} {q : RowsML} {x : Item} {c : Call} (h : getMK m x = some c) {r j : Nat} (hr : r < 7) (hj : j ≤ (c.deps r).toNat) : ∀ y ∈ (itemsTo c.deps r ++ repL c.deps r j).filter (waitB q x), y ∈ waitsM m q x := by
  intro y hy
  obtain ⟨h1, h2⟩ := List.mem_filter.1 hy
  unfold waitsM
  rw [h, Option.getD_some]
  exact List.mem_filter.2 ⟨(items_pre c.deps hr hj).subset h1, h2⟩
theorem srt_nodup {m : RowsMK} : ∀ {l : List Item}, Srt m l → l.Nodup
  | [], _ => List.nodup_nil
  | a :: l, h => by
    have h := List.pairwise_cons.1 h
    exact List.nodup_cons.2 ⟨fun hc => ltM_ne (h.1 a hc) rfl, srt_nodup h.2⟩
theorem partL_len {m : RowsMK} {q : RowsML} {its : List Item} (G : GInv m its) {x : Item} (HC : ∀ z, Rch m q x z → (getMK m z).isSome = true) : (partL m q x).length ≤ its.length := by
  obtain ⟨h1, h2⟩ := partL_spec (q := q) G x
  exact nodup_len _ _ (srt_nodup h1) fun y hy => G.mem y (HC y ((h2 y).1 hy).1)
theorem any_next {f : Item → Bool} {l : List Item} {k : Nat} {y : Item} (h : l[k]? = some y) : (l.take (k + 1)).any f = ((l.take k).any f || f y) := by
  rw [List.take_add_one, h, List.any_append]
  simp
section
variable {w W : World} {F : Nat → Prop} {R : List Res}
theorem Sts.wkOpen {wk g : Nat} {s : OvS} (T : Sts w F W (wkR wk g s :: R)) : ∃ vs vo, Sts w F W (rowR wk #[.pointer (some ⟨g, 0, none⟩), vs, vo] :: vecR 35 2 vs s.1.length (vl IV s.1) :: paR vo s.2 :: R) := by
  obtain ⟨⟨vs, vo⟩, T⟩ := T.open
  exact ⟨vs, vo, T.unpack⟩
theorem Sts.wkShut {wk g : Nat} {vs vo : Value} {s : OvS} (T : Sts w F W (rowR wk #[.pointer (some ⟨g, 0, none⟩), vs, vo] :: vecR 35 2 vs s.1.length (vl IV s.1) :: paR vo s.2 :: R)) : Sts w F W (wkR wk g s :: R) := (Sts.pack (L := [_, _, _]) T).close (vs, vo)
set_option maxHeartbeats 32000000 in
theorem docOverT {m : RowsMK} {q : RowsML} {its : List Item} (G : GInv m its) (hits : its.length ≤ 1000) {x0 : Item} (HC : ∀ z, Rch m q x0 z → (getMK m z).isSome = true) (wk g : Nat) (vi vc vd : Value) (items : List Item) (calls : List Call) (dn : List Item) (hD : DocOk m q items calls dn) :
    ∀ (n : Nat) (x : Item) (s : OvS), OvOk its s → s.2.length ≤ s.1.length → x ∉ s.1 → Rch m q x0 x → its.length ≤ s.1.length + n → ∀ {W : World} {R : List Res}, Sts w F W (wkR wk g s :: (docL g vi vc vd items calls dn ++ R)) →
    Calls Try.prog 50 #[.pointer (some ⟨wk, 0, none⟩), .agg (IV x)] W fun e W' => e = .returned (.tuple #[]) ∧ Sts w F W' (wkR wk g (ovF m q (partL m q) n x s) :: (docL g vi vc vd items calls dn ++ R)) := by
  intro n
  induction n with
  | zero =>
    intro x s hs ho hx hr hn W R T
    have hA := (hs.add hx (G.mem x (HC x hr))).len
    simp only [List.length_append, List.length_singleton] at hA
    omega
  | succ n ihn =>
    intro x s hs ho hx hr hn W R T
    have HIH := Lib.hid ihn; have HG := Lib.hid G; have HCC := Lib.hid HC; have HD := Lib.hid hD; have HS := Lib.hid hs; have HXN := Lib.hid hx; have HR0 := Lib.hid hr; have HN := Lib.hid hn; have HO := Lib.hid ho
    clear ihn G HC hD hs hx hr hn ho
    obtain ⟨se, ou⟩ := s
    dsimp only at HXN HN HO
    have hsl : se.length ≤ 1000 := Nat.le_trans (HS.out.len) hits
    have hol : ou.length ≤ 1000 := Nat.le_trans HO.out hsl
    have T0 : Sts w F W (wkR wk g (se, ou) :: rowR g (docC vi vc vd) :: vecR 35 2 vi items.length (vl IV items) :: vecR 47 14 vc calls.length (vl CV calls) :: vecR 35 2 vd dn.length (vl IV dn) :: R) := T
    obtain ⟨vs, vo, T1⟩ := T0.wkOpen
    dsimp only at T1
    have T2 := T1.new (IV x) 35
    have HT := Lib.hid (T2.ord [1, 0, 2, 3])
    clear T T0 T1 T2
    go_enter Try.func50, Try.ntmps50
    go_upto_region 1 with fail
    generalize W.alloc _ = w1 at *
    generalize W.heap.size = gx at *
    have FS : ∀ W' R', Sts w F W' (rowR wk #[.pointer (some ⟨g, 0, none⟩), vs, vo] :: rowR gx (IV x) :: R') → (row? W' gx = some (IV x) ∧ W'.cell? ⟨wk, 0, none⟩ = some (.pointer (some ⟨g, 0, none⟩)) ∧ W'.cell? ⟨wk, 1, none⟩ = some vs) := fun W' R' T => ⟨T.row1, row_cell T.row 0, row_cell T.row 1⟩
    have HFS := Lib.hid FS
    have S0 := FS _ _ HT.out.drew
    have hxc := HCC.out x HR0.out
    have HPT := Lib.hid (docPartT HG.out g vi vc vd items calls dn HD.out x hxc (W := w1.drew) (w := w) (F := F) (R := rowR wk #[.pointer (some ⟨g, 0, none⟩), vs, vo] :: rowR gx (IV x) :: vecR 35 2 vs se.length (vl IV se) :: paR vo ou :: R) (by have T0 := HT.out.drew.ord [4, 5, 6, 7, 0, 1, 2, 3]; exact T0))
    clear HT FS hxc
    refine wp_region_held_drew (S := fun W' => (row? W' gx = some (IV x) ∧ W'.cell? ⟨wk, 0, none⟩ = some (.pointer (some ⟨g, 0, none⟩)) ∧ W'.cell? ⟨wk, 1, none⟩ = some vs)) (by kernel_rfl) S0 (fun hHeld => ?_)
    clear S0
    refine tkH 0 rfl (v := ?_) ?_ ?_
    rotate_left
    · intro w h; (try dsimp only at h); go_simp; try with_reducible rfl
    simp only [Act.put, List.getElem_toArray, List.getElem_cons_zero, List.setIfInBounds_toArray, List.set_cons_zero, List.set_cons_succ]
    refine tkH 1 rfl (v := ?_) ?_ ?_
    rotate_left
    · intro w h; (try dsimp only at h); go_simp; try with_reducible rfl
    go_frame
    refine tkH 2 rfl (v := ?_) ?_ ?_
    rotate_left
    · intro w h; (try dsimp only at h); go_simp; try with_reducible rfl
    go_frame
    refine tkH 3 rfl (v := ?_) ?_ ?_
    rotate_left
    · intro w h; (try dsimp only at h); go_simp; try with_reducible rfl
    go_frame
    refine tkH 4 rfl (v := ?_) ?_ ?_
    rotate_left
    · intro w h; (try dsimp only at h); go_simp; try with_reducible rfl
    go_frame
    refine wpAnyH_ready (rs := [5]) (by kernel_rfl) (by simp) ?_
    refine AllReadyH.cons (o := _) rfl (fun K hK => ?_) AllReadyH.nil
    go_simp
    refine HPT.out.mono ?_
    clear HPT
    rintro e3 w3 ⟨vp, rfl, T⟩
    have T : Sts w F w3 (vecR 35 2 vp (partL m q x).length (vl IV (partL m q x)) :: rowR g (docC vi vc vd) :: vecR 35 2 vi items.length (vl IV items) :: vecR 47 14 vc calls.length (vl CV calls) :: vecR 35 2 vd dn.length (vl IV dn) :: rowR wk #[.pointer (some ⟨g, 0, none⟩), vs, vo] :: rowR gx (IV x) :: vecR 35 2 vs se.length (vl IV se) :: paR vo ou :: R) := T
    have T2 := T.ord [5, 6, 7, 8, 0, 1, 2, 3, 4]
    refine hK.out _ _ (HFS.out _ _ T2) (fun hHeld => ?_)
    clear hK K T
    have HT := Lib.hid T2; clear T2
    refine tkH 6 rfl (v := ?_) ?_ ?_
    rotate_left
    · intro w h; (try dsimp only at h); go_simp; try with_reducible rfl
    simp only [Act.put, List.getElem_toArray, List.getElem_cons_succ, List.getElem_cons_zero, List.setIfInBounds_toArray, List.set_cons_zero, List.set_cons_succ]
    refine wpAnyH_done (by kernel_rfl) ?_ _
    try simp only [Exit.then]
    obtain ⟨pl, hpl⟩ : ∃ v, v = partL m q x := ⟨_, rfl⟩
    have hplen : pl.length ≤ 1000 := by
      rw [hpl]
      exact Nat.le_trans (partL_len HG.out fun z hz => HCC.out z (HR0.out.trans hz)) hits
    rw [← hpl] at HT
    obtain ⟨np, hnp⟩ : ∃ v, v = pl.length := ⟨_, rfl⟩
    rw [← hnp] at hplen HT
    obtain ⟨Ap, cp, rfl⟩ := vec_shape2 (HT.out.ord [4, 0, 1, 2, 3])
    have HPL := Lib.hid hpl; have HNP := Lib.hid hnp
    clear hpl hnp
    go_wp2_with fail
    go_loopw [5, 20] (fun u5 u20 wr => ∃ k : Nat, u20 = .int .i64 k ∧ k ≤ np ∧ u5 = .bool (!((pl.take k).any fun y => inB y se)) ∧ Sts w F wr (rowR wk #[.pointer (some ⟨g, 0, none⟩), vs, vo] :: rowR gx (IV x) :: vecR 35 2 vs se.length (vl IV se) :: paR vo ou :: vecR 35 2 (.slice Ap np cp) np (vl IV pl) :: rowR g (docC vi vc vd) :: vecR 35 2 vi items.length (vl IV items) :: vecR 47 14 vc calls.length (vl CV calls) :: vecR 35 2 vd dn.length (vl IV dn) :: R)) (fun _ u20 _ => np - (intOf u20).toNat)
    case atStart => exact ⟨0, rfl, by omega, by simp, HT.out⟩
    case round =>
      clear HT
      obtain ⟨k, hrel⟩ := hrel
      obtain ⟨rfl, hk, rfl, T⟩ := hrel
      obtain ⟨fb, hfb⟩ : ∃ v, v = !((pl.take k).any fun y => inB y se) := ⟨_, rfl⟩
      rw [← hfb]
      have HFB := Lib.hid hfb; clear hfb
      by_cases hkn : k < np
      · have hk1 : (k : Int) < (np : Int) := by omega
        have hk0 : (0 : Int) ≤ (k : Int) := by omega
        obtain ⟨y, hy⟩ : ∃ y, pl[k]? = some y := ⟨pl[k]'(by rw [← HNP.out]; exact hkn), List.getElem?_eq_getElem _⟩
        obtain ⟨gL, rfl, hld⟩ := vec_load (P := Try.prog) (e := 35) TItem_size (by omega) TItem_und rfl (by kernel_rfl) (T.ord [4, 0, 1, 2, 3]) HNP.out hy (by omega)
        have hnx : ((pl.take (k + 1)).any fun y => inB y se) = (((pl.take k).any fun y => inB y se) || inB y se) := any_next hy
        have T2 := T.new (IV y) 35
        have HT := Lib.hid T2; have HNX := Lib.hid hnx
        clear T T2 hy hnx
        go_upto_region 6 with fail
        generalize wr.alloc _ = w4 at *
        generalize wr.heap.size = gy at *
        clear hld
        have FS : ∀ W' R', Sts w F W' (rowR gy (IV y) :: rowR wk #[.pointer (some ⟨g, 0, none⟩), vs, vo] :: R') → (row? W' gy = some (IV y) ∧ W'.cell? ⟨wk, 1, none⟩ = some vs) := fun W' R' T => ⟨T.row, row_cell T.row1 1⟩
        have HFS2 := Lib.hid FS
        have S0 := FS _ _ HT.out.drew
        have HHS := Lib.hid ((docHasR vs se (by omega) y).at1 (R := rowR gy (IV y) :: rowR wk #[.pointer (some ⟨g, 0, none⟩), vs, vo] :: rowR gx (IV x) :: _) (by have T0 := HT.out.drew.ord [3, 0, 1, 2]; exact T0))
        generalize inB y se = hb at *
        have HT2 := Lib.hid HT.out.drew
        clear FS HT
        refine wp_region_held_drew (S := fun W' => (row? W' gy = some (IV y) ∧ W'.cell? ⟨wk, 1, none⟩ = some vs)) (by kernel_rfl) S0 (fun hHeld => ?_)
        clear S0
        refine tkH 0 rfl (v := ?_) ?_ ?_
        rotate_left
        · intro w h; (try dsimp only at h); go_simp; try with_reducible rfl
        simp only [Act.put, List.getElem_toArray, List.getElem_cons_zero, List.setIfInBounds_toArray, List.set_cons_zero, List.set_cons_succ]
        refine tkH 1 rfl (v := ?_) ?_ ?_
        rotate_left
        · intro w h; (try dsimp only at h); go_simp; try with_reducible rfl
        go_frame
        refine tkH 2 rfl (v := ?_) ?_ ?_
        rotate_left
        · intro w h; (try dsimp only at h); go_simp; try with_reducible rfl
        go_frame
        refine tkH 3 rfl (v := ?_) ?_ ?_
        rotate_left
        · intro w h; (try dsimp only at h); go_simp; try with_reducible rfl
        go_frame
        refine tkH 4 rfl (v := ?_) ?_ ?_
        rotate_left
        · intro w h; (try dsimp only at h); go_simp; try with_reducible rfl
        go_frame
        refine wpAnyH_ready (rs := [5]) (by kernel_rfl) (by simp) ?_
        refine AllReadyH.cons (o := _) rfl (fun K hK => ?_) AllReadyH.nil
        go_simp
        refine HHS.out.mono ?_
        clear HHS
        rintro e5 w5 ⟨rfl, hbw⟩
        have T := HT2.out.pure hbw
        refine hK.out _ _ (HFS2.out _ _ T) (fun hHeld => ?_)
        clear hK K hbw HT2 HFS2
        have HT := Lib.hid T.drop; clear T
        refine wpAnyH_done (by kernel_rfl) ?_ _
        try simp only [Exit.then]
        cases hb
        case true =>
          go_wp2_with fail
          go_roundw
          case rel => exact ⟨k + 1, by go_num, by omega, by rw [HNX.out, Bool.or_true]; rfl, HT.out⟩
          case measure => simp [intOf]; omega
        case false =>
          go_wp2_with fail
          go_roundw
          case rel => exact ⟨k + 1, by go_num, by omega, by rw [HNX.out, Bool.or_false, ← HFB.out], HT.out⟩
          case measure => simp [intOf]; omega
      · have hk1 : ¬ (k : Int) < (np : Int) := by omega
        have hfb := HFB.out
        rw [List.take_of_length_le (by rw [← HNP.out]; omega)] at hfb
        have HFB2 := Lib.hid hfb
        clear hfb HFB
        have HT := Lib.hid T.drew; clear T
        obtain ⟨i0, hi, hz0, hz1, hz2⟩ := itm_i
        go_upto_region 9 with fail
        have FS : ∀ W' X R', Sts w F W' (rowR wk X :: rowR gx (IV x) :: R') → X[1]? = some vs → (W'.cell? ⟨wk, 1, none⟩ = some vs ∧ row? W' gx = some (IV x)) := fun W' X R' T h1 => ⟨by rw [row_cell T.row 1, h1], T.row1⟩
        have HFS2 := Lib.hid FS
        have S0 := FS _ _ _ HT.out rfl
        have HM := Lib.hid (show ∀ W' : World, (W'.cell? ⟨wk, 1, none⟩ = some vs ∧ row? W' gx = some (IV x)) → True from fun _ _ => trivial)
        clear FS
        refine wp_region_stage (fun W' => (W'.cell? ⟨wk, 1, none⟩ = some vs ∧ row? W' gx = some (IV x))) (fun _ => True) 10 (by kernel_rfl) S0 (fun hHeld => ?_)
        clear S0
        refine tk0 0 rfl (v := ?_) ?_ ?_
        rotate_left
        · intro w h; (try dsimp only at h); go_simp; try with_reducible rfl
        simp only [Act.put, List.getElem_toArray, List.getElem_cons_zero, List.setIfInBounds_toArray, List.set_cons_zero, List.set_cons_succ]
        refine tk0 1 rfl (v := ?_) ?_ ?_
        rotate_left
        · intro w h; (try dsimp only at h); go_simp; try with_reducible rfl
        go_frame
        refine tk0 2 rfl (v := ?_) ?_ ?_
        rotate_left
        · intro w h; (try dsimp only at h); go_simp; try with_reducible rfl
        go_frame
        refine tk0 3 rfl (v := ?_) ?_ ?_
        rotate_left
        · intro w h; (try dsimp only at h); go_simp; try with_reducible rfl
        go_frame
        refine tk0 4 rfl (v := ?_) ?_ ?_
        rotate_left
        · intro w h; (try dsimp only at h); go_simp; try with_reducible rfl
        go_frame
        refine tk0 5 rfl (v := ?_) ?_ ?_
        rotate_left
        · intro w h; (try dsimp only at h); go_simp; try with_reducible rfl
        go_frame
        generalize wr.drew = w7 at *
        refine wpAnyL_ready (rs := [6]) (by kernel_rfl) (by simp) ?_
        refine AllReadyL.cons0 (o := _) rfl (by kernel_rfl) (fun K hK => ?_) AllReadyL.nil
        have Ta := HT.out.new (IV x) 35
        have HTa := Lib.hid Ta; clear Ta HT
        go_simp
        refine hK.out _ _ ?_ (fun hHeld => ?_)
        · exact HFS2.out _ _ _ HTa.out.drop rfl
        clear hK K
        refine wpAnyL_ready (rs := [7]) (by kernel_rfl) (by simp) ?_
        refine AllReadyL.cons0 (o := _) rfl (by kernel_rfl) (fun K hK => ?_) AllReadyL.nil
        have Tb := HTa.out.ord [3, 0, 1, 2]
        clear HTa
        have HOK := Lib.hid (itm_one x)
        refine step_append_vec (by rfl) _ _ _ (by rfl) 35 i0 _ 2 16 Try.underlying30 hi hz0 hz1 hz2 rfl (by omega) vs se.length (vl IV se) (by rfl) Tb ⟨w7.heap.size, 0, none⟩ 1 1 (IV x).toList (by rfl) (by rfl) (news_row Tb.row1) HOK.out (by omega) (by unfold maxLen; omega) (by omega) ?_
        intro gv' cap1 w12 T1
        have T1 := T1.ord [2, 3, 0, 1]
        refine hK.out _ _ ?_ (fun hHeld => ?_)
        · exact HFS2.out _ _ _ T1 rfl
        clear hK K Tb HOK
        refine tk1 8 HM.out rfl (v := ?_) ?_ ?_
        rotate_left
        · intro w h; (try dsimp only at h); go_simp; try with_reducible rfl
        simp only [Act.put, List.getElem_toArray, List.getElem_cons_succ, List.getElem_cons_zero, List.setIfInBounds_toArray, List.set_cons_zero, List.set_cons_succ]
        refine tk0 9 rfl (v := ?_) ?_ ?_
        rotate_left
        · intro w h; (try dsimp only at h); go_simp; try with_reducible rfl
        simp only [Act.put, List.getElem_toArray, List.getElem_cons_succ, List.getElem_cons_zero, List.setIfInBounds_toArray, List.set_cons_zero, List.set_cons_succ]
        have hf := row_frozen T1.row 1
        have T2 := T1.setCell 1 (.slice (some ⟨gv', 0, none⟩) (se.length + 1) cap1)
        have HT2 := Lib.hid T2; clear T1 T2
        refine wpAnyL_ready (rs := [10]) (by kernel_rfl) (by simp) ?_
        refine AllReadyL.cons1 (o := _) rfl (by kernel_rfl) (fun K hK => ?_) AllReadyL.nil
        go_simp
        refine hK.out _ _ trivial (fun hHeld => ?_)
        clear hK K hf HFS2 HM hi hz0 hz1 hz2
        refine wpAnyL_done (by kernel_rfl) ?_ _
        try simp only [Exit.then]
        generalize w12.setCell _ _ = w13 at *
        have T3 : Sts w F w13 (rowR wk #[.pointer (some ⟨g, 0, none⟩), .slice (some ⟨gv', 0, none⟩) (se.length + 1) cap1, vo] :: rowR gx (IV x) :: vecR 35 2 (.slice (some ⟨gv', 0, none⟩) (se.length + 1) cap1) (se.length + 1) (vl IV se ++ (IV x).toList) :: rowR w7.heap.size (IV x) :: _) := HT2.out
        rw [show se.length + 1 = (se ++ [x]).length by simp, show vl IV se ++ (IV x).toList = vl IV (se ++ [x]) from (vl_snoc IV se x).symm] at T3
        have T4 := (T3.ord [3, 0, 2, 4, 1]).drop
        generalize hv1 : Value.slice (some ⟨gv', 0, none⟩) (se ++ [x]).length cap1 = v1 at *
        clear hv1
        have hcx := HCC.out x HR0.out
        obtain ⟨c, hc⟩ : ∃ c, getMK m x = some c := by
          cases h : getMK m x with
          | none => rw [h] at hcx; cases hcx
          | some c => exact ⟨c, rfl⟩
        have hxi := com_mem HD.out hcx
        have hki := idxN_lt.2 hxi
        obtain ⟨ki, hkie⟩ : ∃ v, v = idxN x items := ⟨_, rfl⟩
        rw [← hkie] at hki
        have hcc : calls[ki]? = some c := by rw [hkie, ← HD.out.get, hc]
        have hkc : ki < calls.length := (List.getElem?_eq_some_iff.1 hcc).1
        obtain ⟨gcs, cc, rfl, -⟩ := deps_at (gcs := 0) (cc := 0) (T4.ord [7, 0, 1, 2, 3, 4, 5, 6]) (by rw [HD.out.lc]; exact HD.out.len) hcc
        have T5 : Sts w F w13 (rowR wk #[.pointer (some ⟨g, 0, none⟩), v1, vo] :: rowR gx (IV x) :: vecR 35 2 v1 (se ++ [x]).length (vl IV (se ++ [x])) :: paR vo ou :: vecR 35 2 (.slice Ap np cp) np (vl IV pl) :: rowR g (docC vi (.slice (some ⟨gcs, 0, none⟩) calls.length cc) vd) :: vecR 35 2 vi items.length (vl IV items) :: vecR 47 14 (.slice (some ⟨gcs, 0, none⟩) calls.length cc) calls.length (vl CV calls) :: vecR 35 2 vd dn.length (vl IV dn) :: R) := T4.ord [0, 3, 1, 2]
        have FS : ∀ W' R', Sts w F W' (rowR wk #[.pointer (some ⟨g, 0, none⟩), v1, vo] :: rowR gx (IV x) :: rowR g (docC vi (.slice (some ⟨gcs, 0, none⟩) calls.length cc) vd) :: vecR 47 14 (.slice (some ⟨gcs, 0, none⟩) calls.length cc) calls.length (vl CV calls) :: R') → (row? W' gx = some (IV x) ∧ W'.cell? ⟨wk, 0, none⟩ = some (.pointer (some ⟨g, 0, none⟩)) ∧ W'.cell? ⟨g, 1, none⟩ = some (.slice (some ⟨gcs, 0, none⟩) calls.length cc) ∧ loadVal Try.prog 45 7 W' (.pointer (some ⟨gcs, ki * 14 + 6, none⟩)) = .ok (.agg (DV c.deps)) W') := fun W' R' T => by
          refine ⟨T.row1, row_cell T.row 0, by rw [row_cell T.row2 1]; rfl, ?_⟩
          obtain ⟨g2, c2, e, h⟩ := deps_at (gcs := 0) (cc := 0) (T.ord [3, 0, 1, 2]) (by rw [HD.out.lc]; exact HD.out.len) hcc
          injection e with e
          injection e with e
          injection e with e
          subst e
          exact h
        have HAT := Lib.hid (docAtR g vi (.slice (some ⟨gcs, 0, none⟩) calls.length cc) vd items calls dn HD.out.len x)
        rw [show idxI x items = ((ki : Nat) : Int) from by unfold idxI; rw [← hkie, if_pos hki]] at HAT
        have HFS3 := Lib.hid FS; have HT := Lib.hid T5.drew; have HC1 := Lib.hid hc; have HKC := Lib.hid hkc
        clear HT2 T3 T4 T5 FS hcx hc hxi hki hkie hcc hkc
        go_upto_region 10 with fail
        go_cut [8] from 41 to 56 (fun u8 wx => Sts w F wx [] ∧ ∃ gd, u8 = .pointer (some ⟨gd, 0, none⟩) ∧ Sts w F wx (rowR gd (DV c.deps) :: rowR wk #[.pointer (some ⟨g, 0, none⟩), v1, vo] :: rowR gx (IV x) :: vecR 35 2 v1 (se ++ [x]).length (vl IV (se ++ [x])) :: paR vo ou :: vecR 35 2 (.slice Ap np cp) np (vl IV pl) :: rowR g (docC vi (.slice (some ⟨gcs, 0, none⟩) calls.length cc) vd) :: vecR 35 2 vi items.length (vl IV items) :: vecR 47 14 (.slice (some ⟨gcs, 0, none⟩) calls.length cc) calls.length (vl CV calls) :: vecR 35 2 vd dn.length (vl IV dn) :: R))
        case first =>
          have S0 := HFS3.out _ _ (HT.out.ord [0, 1, 5, 7, 2, 3, 4, 6])
          refine wp_region_held_drew (S := fun W' => (row? W' gx = some (IV x) ∧ W'.cell? ⟨wk, 0, none⟩ = some (.pointer (some ⟨g, 0, none⟩)) ∧ W'.cell? ⟨g, 1, none⟩ = some (.slice (some ⟨gcs, 0, none⟩) calls.length cc) ∧ loadVal Try.prog 45 7 W' (.pointer (some ⟨gcs, ki * 14 + 6, none⟩)) = .ok (.agg (DV c.deps)) W')) (by kernel_rfl) S0 (fun hHeld => ?_)
          clear S0
          generalize w13.drew = w14 at *
          refine tkH 0 rfl (v := ?_) ?_ ?_
          rotate_left
          · intro w h; (try dsimp only at h); go_simp; try with_reducible rfl
          simp only [Act.put, List.getElem_toArray, List.getElem_cons_zero, List.setIfInBounds_toArray, List.set_cons_zero, List.set_cons_succ]
          refine tkH 1 rfl (v := ?_) ?_ ?_
          rotate_left
          · intro w h; (try dsimp only at h); go_simp; try with_reducible rfl
          go_frame
          refine tkH 2 rfl (v := ?_) ?_ ?_
          rotate_left
          · intro w h; (try dsimp only at h); go_simp; try with_reducible rfl
          go_frame
          refine tkH 3 rfl (v := ?_) ?_ ?_
          rotate_left
          · intro w h; (try dsimp only at h); go_simp; try with_reducible rfl
          go_frame
          refine tkH 4 rfl (v := ?_) ?_ ?_
          rotate_left
          · intro w h; (try dsimp only at h); go_simp; try with_reducible rfl
          go_frame
          refine tkH 5 rfl (v := ?_) ?_ ?_
          rotate_left
          · intro w h; (try dsimp only at h); go_simp; try with_reducible rfl
          go_frame
          refine tkH 6 rfl (v := ?_) ?_ ?_
          rotate_left
          · intro w h; (try dsimp only at h); go_simp; try with_reducible rfl
          go_frame
          refine tkH 7 rfl (v := ?_) ?_ ?_
          rotate_left
          · intro w h; (try dsimp only at h); go_simp; try with_reducible rfl
          go_frame
          refine tkH 8 rfl (v := ?_) ?_ ?_
          rotate_left
          · intro w h; (try dsimp only at h); go_simp; try with_reducible rfl
          go_frame
          refine tkH 9 rfl (v := ?_) ?_ ?_
          rotate_left
          · intro w h; (try dsimp only at h); go_simp; try with_reducible rfl
          go_frame
          refine tkH 10 rfl (v := ?_) ?_ ?_
          rotate_left
          · intro w h; (try dsimp only at h); go_simp; try with_reducible rfl
          go_frame
          refine tkH 11 rfl (v := ?_) ?_ ?_
          rotate_left
          · intro w h; (try dsimp only at h); go_simp; try with_reducible rfl
          go_frame
          have hkc1 : (ki : Int) < (calls.length : Int) := by have := HKC.out; omega
          have hkc0 : (0 : Int) ≤ (ki : Int) := by omega
          refine wpAnyH_ready (rs := [12, 16]) (by kernel_rfl) (by simp) ?_
          refine AllReadyH.cons (o := _) rfl (fun K hK => ?_) ?_
          · go_simp
            refine (HAT.out.at (R := rowR wk #[.pointer (some ⟨g, 0, none⟩), v1, vo] :: _) (by have T0 := HT.out.ord [5, 6, 7, 8, 0, 1, 2, 3, 4]; exact T0)).mono ?_
            rintro e12 w12 ⟨rfl, hb⟩
            have T1 := HT.out.pure hb
            clear hb HT HAT
            refine hK.out _ _ (HFS3.out _ _ (T1.ord [0, 1, 5, 7, 2, 3, 4, 6])) (fun hHeld => ?_)
            clear hK K
            refine tkH 13 rfl (v := ?_) ?_ ?_
            rotate_left
            · intro w h; (try dsimp only at h); go_simp; try with_reducible rfl
            simp only [Act.put, List.getElem_toArray, List.getElem_cons_succ, List.getElem_cons_zero, List.setIfInBounds_toArray, List.set_cons_zero, List.set_cons_succ]
            refine tkH 14 rfl (v := ?_) ?_ ?_
            rotate_left
            · intro w h; (try dsimp only at h); go_simp; try with_reducible rfl
            go_frame
            refine tkH 15 rfl (v := ?_) ?_ ?_
            rotate_left
            · intro w h; (try dsimp only at h); go_simp; try with_reducible rfl
            go_frame
            have T2 := T1.new (DV c.deps) 45
            have T2a := T1.new #[.int .i64 0, .int .i64 0, .int .i64 0, .int .i64 0, .int .i64 0, .int .i64 0, .int .i64 0] 45
            have r2 := T2a.row; have l2 := row_lt r2
            have HT := Lib.hid T2; have HT2a := Lib.hid T2a
            clear T1 T2 T2a
            refine wpAnyH_ready (rs := [16]) (by kernel_rfl) (by simp) ?_
            refine AllReadyH.cons (o := _) rfl (fun K hK => ?_) AllReadyH.nil
            go_simp
            refine hK.out _ _ (HFS3.out _ _ (HT2a.out.ord [1, 2, 6, 8, 0, 3, 4, 5, 7])) (fun hHeld => ?_)
            clear hK K
            refine wpAnyH_ready (rs := [17]) (by kernel_rfl) (by simp) ?_
            refine AllReadyH.cons (o := _) rfl (fun K hK => ?_) AllReadyH.nil
            go_simp
            refine hK.out _ _ (HFS3.out _ _ (HT.out.ord [1, 2, 6, 8, 0, 3, 4, 5, 7])) (fun hHeld => ?_)
            clear hK K r2 l2 HT2a
            refine wpAnyH_done (by kernel_rfl) ?_ _
            simp only [Exit.then]
            go_step
            go_meet
            case rel => exact ⟨HT.out.nil, _, rfl, HT.out⟩
          · have T1 := HT.out.new #[.int .i64 0, .int .i64 0, .int .i64 0, .int .i64 0, .int .i64 0, .int .i64 0, .int .i64 0] 45
            have HT1 := Lib.hid T1; clear T1 HT
            refine AllReadyH.cons (o := _) rfl (fun K hK => ?_) AllReadyH.nil
            go_simp
            refine hK.out _ _ (HFS3.out _ _ (HT1.out.ord [1, 2, 6, 8, 0, 3, 4, 5, 7])) (fun hHeld => ?_)
            clear hK K
            refine wpAnyH_ready (rs := [12]) (by kernel_rfl) (by simp) ?_
            refine AllReadyH.cons (o := _) rfl (fun K hK => ?_) AllReadyH.nil
            go_simp
            refine (HAT.out.at (R := rowR wk #[.pointer (some ⟨g, 0, none⟩), v1, vo] :: _) (by have T0 := HT1.out.ord [6, 7, 8, 9, 1, 2, 3, 4, 5, 0]; exact T0)).mono ?_
            rintro e12 w12 ⟨rfl, hb⟩
            have T2 := HT1.out.pure hb
            clear hb HT1 HAT
            refine hK.out _ _ (HFS3.out _ _ (T2.ord [1, 2, 6, 8, 0, 3, 4, 5, 7])) (fun hHeld => ?_)
            clear hK K
            refine tkH 13 rfl (v := ?_) ?_ ?_
            rotate_left
            · intro w h; (try dsimp only at h); go_simp; try with_reducible rfl
            simp only [Act.put, List.getElem_toArray, List.getElem_cons_succ, List.getElem_cons_zero, List.setIfInBounds_toArray, List.set_cons_zero, List.set_cons_succ]
            refine tkH 14 rfl (v := ?_) ?_ ?_
            rotate_left
            · intro w h; (try dsimp only at h); go_simp; try with_reducible rfl
            go_frame
            refine tkH 15 rfl (v := ?_) ?_ ?_
            rotate_left
            · intro w h; (try dsimp only at h); go_simp; try with_reducible rfl
            go_frame
            generalize w14.heap.size = gd at *
            have T3 := T2.setRow (DV c.deps)
            have r2 := T2.row; have l2 := row_lt r2
            have HT := Lib.hid T3; clear T2 T3
            refine wpAnyH_ready (rs := [17]) (by kernel_rfl) (by simp) ?_
            refine AllReadyH.cons (o := _) rfl (fun K hK => ?_) AllReadyH.nil
            go_simp
            refine hK.out _ _ (HFS3.out _ _ (HT.out.ord [1, 2, 6, 8, 0, 3, 4, 5, 7])) (fun hHeld => ?_)
            clear hK K r2 l2
            refine wpAnyH_done (by kernel_rfl) ?_ _
            simp only [Exit.then]
            go_step
            go_meet
            case rel => exact ⟨HT.out.nil, _, rfl, HT.out⟩
        case rest =>
          obtain ⟨-, gd, rfl, T⟩ := hcut
          clear HT HAT HFS3
          have T2 := T.ord [1, 3, 4, 0, 2, 5]
          have T3 : Sts w F wc (wkR wk g (se ++ [x], ou) :: rowR gd (DV c.deps) :: rowR gx (IV x) :: vecR 35 2 (.slice Ap np cp) np (vl IV pl) :: rowR g (docC vi (.slice (some ⟨gcs, 0, none⟩) calls.length cc) vd) :: vecR 35 2 vi items.length (vl IV items) :: vecR 47 14 (.slice (some ⟨gcs, 0, none⟩) calls.length cc) calls.length (vl CV calls) :: vecR 35 2 vd dn.length (vl IV dn) :: R) := Sts.wkShut T2
          have HT := Lib.hid T3; clear T T2 T3
          have hOK : ∀ r j, r < 7 → j ≤ (c.deps r).toNat → OvOk its (farO m q n x c.deps r j (se ++ [x], ou)) ∧ OvG (se ++ [x], ou) (farO m q n x c.deps r j (se ++ [x], ou)) := fun r j hr hj =>
            ovL_ok (m := m) (q := q) (x0 := x0) (fun y s h1 h2 h3 => ovF_ok HG.out HCC.out n y s h1 h2 h3) _ _ (HS.out.add HXN.out (HG.out.mem x (HCC.out x HR0.out))) (fun y hy => .step HR0.out (waits_far HC1.out hr hj y hy))
          have HOK := Lib.hid hOK; clear hOK
          have hd64 : ∀ i, i < 7 → c.deps i ≤ 64 := fun i hi => by have := HG.out.deps x i hi; rw [HC1.out] at this; exact this
          have H64 := Lib.hid hd64; clear hd64
          go_wp2_with fail
          go_loopw [9] (fun u9 wx => ∃ (r : Nat) (s0 : OvS), u9 = .int .i64 r ∧ r ≤ 7 ∧ s0 = farO m q n x c.deps r 0 (se ++ [x], ou) ∧ Sts w F wx (wkR wk g s0 :: rowR gd (DV c.deps) :: rowR gx (IV x) :: vecR 35 2 (.slice Ap np cp) np (vl IV pl) :: rowR g (docC vi (.slice (some ⟨gcs, 0, none⟩) calls.length cc) vd) :: vecR 35 2 vi items.length (vl IV items) :: vecR 47 14 (.slice (some ⟨gcs, 0, none⟩) calls.length cc) calls.length (vl CV calls) :: vecR 35 2 vd dn.length (vl IV dn) :: R)) (fun u9 _ => 7 - (intOf u9).toNat)
          case atStart => exact ⟨0, (se ++ [x], ou), rfl, by omega, (farO_zero ..).symm, HT.out⟩
          case round =>
            clear HT
            obtain ⟨r, s0, hrel⟩ := hrel
            obtain ⟨rfl, hr7, hs0, T⟩ := hrel
            by_cases hr : r < 7
            · have hr1 : (r : Int) < 7 := by omega
              have hr0 : (0 : Int) ≤ (r : Int) := by omega
              have HT := Lib.hid T; have HS0 := Lib.hid hs0
              clear T hs0
              go_wp2_with fail
              go_loopw [10] (fun u10 wy => ∃ (j : Nat) (s1 : OvS), u10 = .int .i64 ((j : Int) + 1) ∧ j ≤ (c.deps r).toNat ∧ s1 = farO m q n x c.deps r j (se ++ [x], ou) ∧ Sts w F wy (wkR wk g s1 :: rowR gd (DV c.deps) :: rowR gx (IV x) :: vecR 35 2 (.slice Ap np cp) np (vl IV pl) :: rowR g (docC vi (.slice (some ⟨gcs, 0, none⟩) calls.length cc) vd) :: vecR 35 2 vi items.length (vl IV items) :: vecR 47 14 (.slice (some ⟨gcs, 0, none⟩) calls.length cc) calls.length (vl CV calls) :: vecR 35 2 vd dn.length (vl IV dn) :: R)) (fun u10 _ => (c.deps r).toNat + 1 - (intOf u10).toNat)
              case atStart => exact ⟨0, s0, by go_num, by omega, HS0.out, HT.out⟩
              case round =>
                clear HT
                obtain ⟨j, s1, hrel⟩ := hrel
                obtain ⟨rfl, hj, hs1, T⟩ := hrel
                have h64 := H64.out r hr
                have rd := T.row1; have ld := row_lt rd; have cd := row_cell rd r
                rw [DV_get c.deps r hr] at cd
                obtain ⟨ok1, ok2⟩ := HOK.out r j hr hj
                rw [← hs1] at ok1 ok2
                have HOK1 := Lib.hid ok1; have HOK2 := Lib.hid ok2; have HS1 := Lib.hid hs1
                clear ok1 ok2 hs1
                by_cases hjd : j < (c.deps r).toNat
                · have hjd1 : (j : Int) + 1 ≤ c.deps r := by omega
                  have hw3 : IntKind.i64.wrap ((j : Int) + 1 + 1) = ((j + 1 : Nat) : Int) + 1 := by rw [IntKind.wrap_i64] <;> omega
                  have hnext := farO_next m q n x c.deps r j (se ++ [x], ou)
                  rw [← HS1.out] at hnext
                  obtain ⟨vs2, vo2, T1⟩ := T.wkOpen
                  have hIVy : #[.int .i64 (r : Int), .int .i64 ((j : Int) + 1)] = IV ⟨(r : Int), (j : Int) + 1⟩ := rfl
                  have hym : (⟨(r : Int), (j : Int) + 1⟩ : Item) ∈ itemsL c.deps := (mem_itemsTo 7).2 ⟨r, hr, j, hjd, rfl⟩
                  have T2 := T1.new (IV ⟨(r : Int), (j : Int) + 1⟩) 35
                  have HT := Lib.hid T2; have HNX := Lib.hid hnext; have HIV := Lib.hid hIVy; have HYM := Lib.hid hym
                  clear T T1 T2 hnext hIVy hym
                  go_upto_region 18 with fail
                  generalize (⟨(r : Int), (j : Int) + 1⟩ : Item) = y at *
                  generalize wr.alloc _ = w15 at *
                  generalize wr.heap.size = gy at *
                  have FS : ∀ W' R', Sts w F W' (rowR gy (IV y) :: rowR wk #[.pointer (some ⟨g, 0, none⟩), vs2, vo2] :: rowR gx (IV x) :: R') → (row? W' gy = some (IV y) ∧ row? W' gx = some (IV x) ∧ W'.cell? ⟨wk, 0, none⟩ = some (.pointer (some ⟨g, 0, none⟩)) ∧ W'.cell? ⟨wk, 1, none⟩ = some vs2) := fun W' R' T => ⟨T.row, T.row2, row_cell T.row1 0, row_cell T.row1 1⟩
                  have HFS := Lib.hid FS
                  have HT2 := Lib.hid (HT.out.drew.ord [0, 1, 5, 2, 3, 4])
                  have S0 := FS _ _ HT2.out
                  have HOV := Lib.hid (docOverR g vi (.slice (some ⟨gcs, 0, none⟩) calls.length cc) vd items calls dn HD.out.lend y)
                  rw [show decide (idxN y dn < dn.length) = inB y dn from rfl] at HOV
                  have hwb : waitB q x y = ((!eqA (IV y) (IV x)) && (!inB y dn)) := by unfold waitB; rw [HD.out.ov y]
                  rw [hwb] at HNX
                  have HWB := Lib.hid hwb
                  clear hwb FS HT rd ld cd
                  refine wp_region_held_drew (S := fun W' => (row? W' gy = some (IV y) ∧ row? W' gx = some (IV x) ∧ W'.cell? ⟨wk, 0, none⟩ = some (.pointer (some ⟨g, 0, none⟩)) ∧ W'.cell? ⟨wk, 1, none⟩ = some vs2)) (by kernel_rfl) S0 (fun hHeld => ?_)
                  clear S0
                  cases heq : eqA (IV y) (IV x)
                  case true =>
                    rw [heq] at HNX
                    clear HOV
                    refine tkH 0 rfl (v := ?_) ?_ ?_
                    rotate_left
                    · intro w h; (try dsimp only at h); go_simp; try with_reducible rfl
                    simp only [Act.put, List.getElem_toArray, List.getElem_cons_zero, List.setIfInBounds_toArray, List.set_cons_zero, List.set_cons_succ]
                    refine tkH 1 rfl (v := ?_) ?_ ?_
                    rotate_left
                    · intro w h; (try dsimp only at h); go_simp; try with_reducible rfl
                    go_frame
                    refine tkH 2 rfl (v := ?_) ?_ ?_
                    rotate_left
                    · intro w h; (try dsimp only at h); go_simp; try with_reducible rfl
                    go_frame
                    refine tkH 3 rfl (v := ?_) ?_ ?_
                    rotate_left
                    · intro w h; (try dsimp only at h); go_simp; try with_reducible rfl
                    go_frame
                    refine skH 4 rfl ?_
                    simp only [Act.put, List.getElem_toArray, List.getElem_cons_succ, List.getElem_cons_zero, List.setIfInBounds_toArray, List.set_cons_zero, List.set_cons_succ]
                    refine skH 5 rfl ?_
                    go_frame
                    refine skH 6 rfl ?_
                    go_frame
                    refine skH 7 rfl ?_
                    go_frame
                    refine skH 8 rfl ?_
                    go_frame
                    refine skH 9 rfl ?_
                    go_frame
                    refine skH 10 rfl ?_
                    go_frame
                    refine tkH 11 rfl (v := ?_) ?_ ?_
                    rotate_left
                    · intro w h; (try dsimp only at h); go_simp; try with_reducible rfl
                    simp only [Act.put, List.getElem_toArray, List.getElem_cons_succ, List.getElem_cons_zero, List.setIfInBounds_toArray, List.set_cons_zero, List.set_cons_succ]
                    refine tkH 12 rfl (v := ?_) ?_ ?_
                    rotate_left
                    · intro w h; (try dsimp only at h); go_simp; try with_reducible rfl
                    go_frame
                    refine skH 13 rfl ?_
                    simp only [Act.put, List.getElem_toArray, List.getElem_cons_succ, List.getElem_cons_zero, List.setIfInBounds_toArray, List.set_cons_zero, List.set_cons_succ]
                    refine skH 14 rfl ?_
                    go_frame
                    refine skH 15 rfl ?_
                    go_frame
                    refine skH 16 rfl ?_
                    go_frame
                    refine skH 17 rfl ?_
                    go_frame
                    refine skH 18 rfl ?_
                    go_frame
                    refine skH 19 rfl ?_
                    go_frame
                    refine tkH 20 rfl (v := ?_) ?_ ?_
                    rotate_left
                    · intro w h; (try dsimp only at h); go_simp; try with_reducible rfl
                    simp only [Act.put, List.getElem_toArray, List.getElem_cons_succ, List.getElem_cons_zero, List.setIfInBounds_toArray, List.set_cons_zero, List.set_cons_succ]
                    have HT := Lib.hid (Sts.wkShut (HT2.out.ord [0, 1, 3, 4, 5, 2]).drop)
                    clear HT2 HFS
                    have hnx := HNX.out
                    rw [if_neg (by simp)] at hnx
                    have HN2 := Lib.hid hnx
                    clear hnx HNX
                    refine wpAnyH_done (by kernel_rfl) ?_ _
                    try simp only [Exit.then]
                    go_wp2_with fail
                    go_roundw
                    case rel => exact ⟨j + 1, s1, by go_num, by omega, HN2.out.symm, HT.out⟩
                    case measure => simp [intOf]; omega
                  case false =>
                    rw [heq] at HNX HWB
                    generalize hov : inB y dn = ov at *
                    clear hov
                    refine tkH 0 rfl (v := ?_) ?_ ?_
                    rotate_left
                    · intro w h; (try dsimp only at h); go_simp; try with_reducible rfl
                    simp only [Act.put, List.getElem_toArray, List.getElem_cons_zero, List.setIfInBounds_toArray, List.set_cons_zero, List.set_cons_succ]
                    refine tkH 1 rfl (v := ?_) ?_ ?_
                    rotate_left
                    · intro w h; (try dsimp only at h); go_simp; try with_reducible rfl
                    go_frame
                    refine tkH 2 rfl (v := ?_) ?_ ?_
                    rotate_left
                    · intro w h; (try dsimp only at h); go_simp; try with_reducible rfl
                    go_frame
                    refine tkH 3 rfl (v := ?_) ?_ ?_
                    rotate_left
                    · intro w h; (try dsimp only at h); go_simp; try with_reducible rfl
                    go_frame
                    refine tkH 4 rfl (v := ?_) ?_ ?_
                    rotate_left
                    · intro w h; (try dsimp only at h); go_simp; try with_reducible rfl
                    go_frame
                    refine tkH 5 rfl (v := ?_) ?_ ?_
                    rotate_left
                    · intro w h; (try dsimp only at h); go_simp; try with_reducible rfl
                    go_frame
                    refine tkH 6 rfl (v := ?_) ?_ ?_
                    rotate_left
                    · intro w h; (try dsimp only at h); go_simp; try with_reducible rfl
                    go_frame
                    refine tkH 7 rfl (v := ?_) ?_ ?_
                    rotate_left
                    · intro w h; (try dsimp only at h); go_simp; try with_reducible rfl
                    go_frame
                    refine tkH 8 rfl (v := ?_) ?_ ?_
                    rotate_left
                    · intro w h; (try dsimp only at h); go_simp; try with_reducible rfl
                    go_frame
                    refine wpAnyH_ready (rs := [9]) (by kernel_rfl) (by simp) ?_
                    refine AllReadyH.cons (o := _) rfl (fun K hK => ?_) AllReadyH.nil
                    go_simp
                    refine (HOV.out.at (R := rowR gy (IV y) :: rowR wk #[.pointer (some ⟨g, 0, none⟩), vs2, vo2] :: _) (by have T0 := HT2.out.ord [7, 8, 9, 10, 0, 1, 2, 3, 4, 5, 6]; exact T0)).mono ?_
                    rintro e9 w9 ⟨rfl, hb⟩
                    have T := HT2.out.pure hb
                    refine hK.out _ _ (HFS.out _ _ T) (fun hHeld => ?_)
                    clear hK K hb HT2 HOV
                    have HT2 := Lib.hid T; clear T
                    cases ov
                    case true =>
                      refine tkH 10 rfl (v := ?_) ?_ ?_
                      rotate_left
                      · intro w h; (try dsimp only at h); go_simp; try with_reducible rfl
                      simp only [Act.put, List.getElem_toArray, List.getElem_cons_succ, List.getElem_cons_zero, List.setIfInBounds_toArray, List.set_cons_zero, List.set_cons_succ]
                      refine tkH 11 rfl (v := ?_) ?_ ?_
                      rotate_left
                      · intro w h; (try dsimp only at h); go_simp; try with_reducible rfl
                      go_frame
                      refine tkH 12 rfl (v := ?_) ?_ ?_
                      rotate_left
                      · intro w h; (try dsimp only at h); go_simp; try with_reducible rfl
                      go_frame
                      refine skH 13 rfl ?_
                      simp only [Act.put, List.getElem_toArray, List.getElem_cons_succ, List.getElem_cons_zero, List.setIfInBounds_toArray, List.set_cons_zero, List.set_cons_succ]
                      refine skH 14 rfl ?_
                      go_frame
                      refine skH 15 rfl ?_
                      go_frame
                      refine skH 16 rfl ?_
                      go_frame
                      refine skH 17 rfl ?_
                      go_frame
                      refine skH 18 rfl ?_
                      go_frame
                      refine skH 19 rfl ?_
                      go_frame
                      refine tkH 20 rfl (v := ?_) ?_ ?_
                      rotate_left
                      · intro w h; (try dsimp only at h); go_simp; try with_reducible rfl
                      simp only [Act.put, List.getElem_toArray, List.getElem_cons_succ, List.getElem_cons_zero, List.setIfInBounds_toArray, List.set_cons_zero, List.set_cons_succ]
                      have HT := Lib.hid (Sts.wkShut (HT2.out.ord [0, 1, 3, 4, 5, 2]).drop)
                      clear HT2 HFS
                      have hnx := HNX.out
                      rw [if_neg (by simp)] at hnx
                      have HN2 := Lib.hid hnx
                      clear hnx HNX
                      refine wpAnyH_done (by kernel_rfl) ?_ _
                      try simp only [Exit.then]
                      go_wp2_with fail
                      go_roundw
                      case rel => exact ⟨j + 1, s1, by go_num, by omega, HN2.out.symm, HT.out⟩
                      case measure => simp [intOf]; omega
                    case false =>
                      have hs1l : s1.1.length ≤ 1000 := Nat.le_trans HOK1.out.len hits
                      have HHS := Lib.hid (docHasR vs2 s1.1 (by omega) y)
                      generalize hhs : inB y s1.1 = hs at *
                      have HHV := Lib.hid hhs; clear hhs
                      refine tkH 10 rfl (v := ?_) ?_ ?_
                      rotate_left
                      · intro w h; (try dsimp only at h); go_simp; try with_reducible rfl
                      simp only [Act.put, List.getElem_toArray, List.getElem_cons_succ, List.getElem_cons_zero, List.setIfInBounds_toArray, List.set_cons_zero, List.set_cons_succ]
                      refine tkH 11 rfl (v := ?_) ?_ ?_
                      rotate_left
                      · intro w h; (try dsimp only at h); go_simp; try with_reducible rfl
                      go_frame
                      refine tkH 12 rfl (v := ?_) ?_ ?_
                      rotate_left
                      · intro w h; (try dsimp only at h); go_simp; try with_reducible rfl
                      go_frame
                      refine tkH 13 rfl (v := ?_) ?_ ?_
                      rotate_left
                      · intro w h; (try dsimp only at h); go_simp; try with_reducible rfl
                      go_frame
                      refine tkH 14 rfl (v := ?_) ?_ ?_
                      rotate_left
                      · intro w h; (try dsimp only at h); go_simp; try with_reducible rfl
                      go_frame
                      refine tkH 15 rfl (v := ?_) ?_ ?_
                      rotate_left
                      · intro w h; (try dsimp only at h); go_simp; try with_reducible rfl
                      go_frame
                      refine tkH 16 rfl (v := ?_) ?_ ?_
                      rotate_left
                      · intro w h; (try dsimp only at h); go_simp; try with_reducible rfl
                      go_frame
                      refine tkH 17 rfl (v := ?_) ?_ ?_
                      rotate_left
                      · intro w h; (try dsimp only at h); go_simp; try with_reducible rfl
                      go_frame
                      refine wpAnyH_ready (rs := [18]) (by kernel_rfl) (by simp) ?_
                      refine AllReadyH.cons (o := _) rfl (fun K hK => ?_) AllReadyH.nil
                      go_simp
                      refine (HHS.out.at1 (by have T0 := HT2.out.ord [3, 0, 1, 2]; exact T0)).mono ?_
                      rintro e18 w18 ⟨rfl, hb⟩
                      have T := HT2.out.pure hb
                      refine hK.out _ _ (HFS.out _ _ T) (fun hHeld => ?_)
                      clear hK K hb HT2 HHS HFS
                      have HT2 := Lib.hid T; clear T
                      cases hs
                      case true =>
                        refine tkH 19 rfl (v := ?_) ?_ ?_
                        rotate_left
                        · intro w h; (try dsimp only at h); go_simp; try with_reducible rfl
                        simp only [Act.put, List.getElem_toArray, List.getElem_cons_succ, List.getElem_cons_zero, List.setIfInBounds_toArray, List.set_cons_zero, List.set_cons_succ]
                        refine tkH 20 rfl (v := ?_) ?_ ?_
                        rotate_left
                        · intro w h; (try dsimp only at h); go_simp; try with_reducible rfl
                        go_frame
                        have HT := Lib.hid (Sts.wkShut (HT2.out.ord [0, 1, 3, 4, 5, 2]).drop)
                        clear HT2
                        have hnx := HNX.out
                        rw [if_pos (by decide), if_pos (by decide)] at hnx
                        have HN2 := Lib.hid hnx
                        clear hnx HNX
                        refine wpAnyH_done (by kernel_rfl) ?_ _
                        try simp only [Exit.then]
                        go_wp2_with fail
                        go_roundw
                        case rel => exact ⟨j + 1, s1, by go_num, by omega, HN2.out.symm, HT.out⟩
                        case measure => simp [intOf]; omega
                      case false =>
                        refine tkH 19 rfl (v := ?_) ?_ ?_
                        rotate_left
                        · intro w h; (try dsimp only at h); go_simp; try with_reducible rfl
                        simp only [Act.put, List.getElem_toArray, List.getElem_cons_succ, List.getElem_cons_zero, List.setIfInBounds_toArray, List.set_cons_zero, List.set_cons_succ]
                        refine tkH 20 rfl (v := ?_) ?_ ?_
                        rotate_left
                        · intro w h; (try dsimp only at h); go_simp; try with_reducible rfl
                        go_frame
                        refine wpAnyH_done (by kernel_rfl) ?_ _
                        try simp only [Exit.then]
                        have hyx : Rch m q x0 y := .step HR0.out (by
                          unfold waitsM
                          rw [HC1.out, Option.getD_some]
                          exact List.mem_filter.2 ⟨HYM.out, by rw [HWB.out]; rfl⟩)
                        have hys : y ∉ s1.1 := fun hc => by
                          have := HHV.out
                          rw [inB_iff.2 hc] at this; cases this
                        have hg2 := HOK2.out.2
                        have hg1 := HOK2.out.1.length_le
                        simp only [List.length_append, List.length_singleton] at hg1 hg2
                        have HREC := Lib.hid (HIH.out y s1 HOK1.out (by have := HO.out; omega) hys hyx (by have := HN.out; omega) (W := w18) (R := rowR gy (IV y) :: rowR gx (IV x) :: rowR gd (DV c.deps) :: vecR 35 2 (.slice Ap np cp) np (vl IV pl) :: R) (by
                          have T0 : Sts w F w18 (wkR wk g s1 :: _) := Sts.wkShut (HT2.out.ord [1, 3, 4, 0, 2, 5])
                          have T1 := T0.ord [0, 5, 6, 7, 8, 1, 2, 3, 4]
                          exact T1))
                        have ry := HT2.out.row; have ly := row_lt ry
                        have hnx := HNX.out
                        rw [if_pos (by decide), if_neg (by simp)] at hnx
                        have HN2 := Lib.hid hnx
                        clear hyx hys hg1 hg2 HT2 hnx HNX
                        go_wp2_with fail
                        refine HREC.out.mono ?_
                        clear HREC ry ly
                        rintro e19 w19 ⟨rfl, T⟩
                        have T : Sts w F w19 (wkR wk g (ovF m q (partL m q) n y s1) :: rowR g (docC vi (.slice (some ⟨gcs, 0, none⟩) calls.length cc) vd) :: vecR 35 2 vi items.length (vl IV items) :: vecR 47 14 (.slice (some ⟨gcs, 0, none⟩) calls.length cc) calls.length (vl CV calls) :: vecR 35 2 vd dn.length (vl IV dn) :: rowR gy (IV y) :: rowR gx (IV x) :: rowR gd (DV c.deps) :: vecR 35 2 (.slice Ap np cp) np (vl IV pl) :: R) := T
                        have HT := Lib.hid (T.ord [5, 0, 7, 6, 8, 1, 2, 3, 4]).drop
                        clear T
                        go_wp2_with fail
                        go_roundw
                        case rel => exact ⟨j + 1, _, by go_num, by omega, HN2.out.symm, HT.out⟩
                        case measure => simp [intOf]; omega
                · have hjd1 : ¬ (j : Int) + 1 ≤ c.deps r := by omega
                  have hj2 : j = (c.deps r).toNat := by omega
                  have hro := farO_row m q n x c.deps r j (se ++ [x], ou) hj2
                  rw [← HS1.out] at hro
                  have HRO := Lib.hid hro; have HT := Lib.hid T
                  clear T hro
                  go_wp2_with fail
                  go_roundw
                  case rel => exact ⟨r + 1, s1, by go_num, by omega, HRO.out.symm, HT.out⟩
                  case measure => simp [intOf]; omega
            · have hr1 : ¬ (r : Int) < 7 := by omega
              obtain rfl : r = 7 := by omega
              rw [farO_end m q n x HC1.out] at hs0
              have hfin : ovF m q (partL m q) (n + 1) x (se, ou) = ovE (partL m q) x se (ovL (ovF m q (partL m q) n) (waitsM m q x) (se ++ [x], ou)) := rfl
              rw [← hs0] at hfin
              unfold ovE at hfin
              rw [← HPL.out] at hfin
              have hgg : s0.2.length ≤ 1000 := by
                obtain ⟨k1, k2⟩ := ovL_ok (m := m) (q := q) (x0 := x0) (fun y s h1 h2 h3 => ovF_ok (pt := partL m q) HG.out HCC.out n y s h1 h2 h3) (waitsM m q x) (se ++ [x], ou) (HS.out.add HXN.out (HG.out.mem x (HCC.out x HR0.out))) (fun y hy => .step HR0.out hy)
                rw [← hs0] at k1 k2
                have k3 := k1.len
                have k4 := k2.2
                simp only [List.length_append, List.length_singleton] at k4
                have := HO.out
                omega
              have HT := Lib.hid T; have HFIN := Lib.hid hfin
              clear T hs0 hfin
              have hfb := HFB2.out
              cases fb
              case false =>
                have hany : (pl.any fun y => inB y se) = true := by simpa using hfb.symm
                have hf2 := HFIN.out
                rw [if_pos hany] at hf2
                have HF2 := Lib.hid hf2
                clear hany hf2 hfb HFIN
                go_wp2_with fail
                refine bodyPost_end (results_none rfl _ _ _) rfl ?_
                refine ⟨rfl, ?_⟩
                rw [HF2.out]
                have T9 := (HT.out.ord [1, 2, 3, 0]).drop.drop.drop
                exact T9
              case true =>
                have hany : ¬ (pl.any fun y => inB y se) = true := by
                  intro hc
                  rw [hc] at hfb; cases hfb
                have hf2 := HFIN.out
                rw [if_neg hany] at hf2
                have HF2 := Lib.hid hf2
                clear hany hf2 hfb HFIN
                obtain ⟨vs3, vo3, T1⟩ := HT.out.wkOpen
                obtain ⟨pv, hpv, T2⟩ := (T1.ord [2, 0, 1]).paOpen
                have T3 := T2.pack1
                have hpvl : pv.length ≤ 1000 := by
                  have := congrArg List.length hpv
                  rw [List.length_map] at this
                  omega
                have HPV := Lib.hid hpv
                clear hpv
                have r := (T3.ord [2, 0, 1]).row; have lr := row_lt r
                have c2 : wr.cell? ⟨wk, 2, none⟩ = some vo3 := by rw [row_cell r 2]; rfl
                have TA0 := T3.new #[.slice Ap np cp] 30
                have HNW := Lib.hid (news_row TA0.row)
                have HTA := Lib.hid (TA0.ord [1, 0])
                obtain ⟨i0, hi, hz0, hz1, hz2⟩ := pit_i
                clear T1 T2 T3 TA0 HT
                have h63 : pv.length + 1 ≤ maxLen := by unfold maxLen; omega
                go_wp2_with (at_builtin; refine wpList_append_vec rfl _ _ 36 rfl 30 i0 _ 1 24 Try.underlying36 hi hz0 hz1 hz2 rfl (by omega) _ _ _ rfl HTA.out ⟨wr.heap.size, 0, none⟩ 1 1 [.slice Ap np cp] rfl rfl HNW.out (by simp [Value.oneCell']) ?c3 ?c4 ?_)
                case c4 => omega
                intro v' w' T9
                obtain ⟨A9, c9, rfl⟩ := vec_shape2 T9
                clear HTA HNW r lr c2 hi hz0 hz1 hz2 h63
                have T10 : Sts w F w' (rowR wk #[.pointer (some ⟨g, 0, none⟩), vs3, vo3] :: _) := T9.ord [3, 0, 1, 2]
                have r := T10.row; have lr := row_lt r; have f2 := row_frozen r 2
                have c2 : w'.cell? ⟨wk, 2, none⟩ = some vo3 := by rw [row_cell r 2]; rfl
                have HT := Lib.hid T10
                clear T9 T10
                go_wp2
                have T11 := HT.out.setCell 2 (.slice A9 (pv.length + 1) c9)
                try simp only [Exit.inBlock, Exit.then]
                refine bodyPost_end (results_none rfl _ _ _) rfl ?_
                clear HT r lr f2 c2
                generalize w'.setCell _ _ = w8 at *
                have T12 : Sts w F w8 (rowR wk #[.pointer (some ⟨g, 0, none⟩), vs3, .slice A9 (pv.length + 1) c9] :: vecR 30 1 (.slice A9 (pv.length + 1) c9) (pv.length + 1) (vl PV pv ++ [.slice Ap np cp]) :: _) := T11
                have T13 := (T12.ord [2, 1, 3, 7, 0, 4, 5, 6]).drop
                have T14 := Sts.paPush2 (u := .slice Ap np cp) (l := pl) (pv := pv) (by
                  rw [← HNP.out]
                  exact T13)
                rw [HPV.out] at T14
                refine ⟨rfl, ?_⟩
                rw [HF2.out]
                have T15 := T14.ord [1, 2, 0, 3, 4]
                have T16 : Sts w F w8 (wkR wk g (s0.1, s0.2 ++ [pl]) :: _) := Sts.wkShut T15
                have T17 := (T16.ord [1, 2, 0]).drop.drop
                exact T17
end
end Go.Proofs.Ytnjgjhjilolanaa
