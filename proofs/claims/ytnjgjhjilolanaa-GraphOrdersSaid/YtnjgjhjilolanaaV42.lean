/- Several texts in one. -/
import Derived.Test.YtnjgjhjilolanaaV38
import Derived.Test.YtnjgjhjilolanaaV41
import Derived.Test.YtnjgjhjilolanaaV22
import Derived.Test.YtnjgjhjilolanaaV34
/- Layer 18: are the parts of an order told in the document's order: the law's own look at them. -/
namespace Go.Proofs.Ytnjgjhjilolanaa
open Go.RowKit Go.Shelf
set_option linter.unusedVariables false
set_option maxRecDepth 20000
attribute [local go_sem] row_alloc row_drew row_drewN row_ext row_setCell row_setRow size_ext setRow_alloc setRow_drew loadOf storeOf piece_lit loadVal_at storeVal_at allOne_lit buildOf buildRes_some
attribute [local go_sem high] cell_alloc frozen_alloc setCell_alloc cell_ext frozen_ext cell_setRow frozen_setRow
attribute [local go_sem ↓] TDeed_ld0 TDeed_st0 TDeed_fd0 TDeed_bd0
attribute [local go_sem] TDeed_size TDeed_one TDeed_piece TDeed_c0 TDeed_c1 TDeed_c2 TDeed_c3 TDeed_c4 TDeed_c5 TDeed_set_kind TDeed_set_key TDeed_set_val TDeed_set_ver TDeed_set_ses TDeed_set_num TDeed_ld TDeed_st TDeed_f_kind TDeed_f_key TDeed_f_val TDeed_f_ver TDeed_f_ses TDeed_f_num TDeed_bd TDeed_fl TDeed_fl_kind TDeed_fl_key TDeed_fl_val TDeed_fl_ver TDeed_fl_ses TDeed_fl_num
attribute [local go_sem high] TDeed_eql TDeed_neq
attribute [local go_sem ↓] index_deps0 load_deps0 store_deps0
attribute [local go_sem] DV_piece DV_size DV_one index_deps load_deps store_deps
attribute [local go_sem high] TDeps_eql TDeps_neq
attribute [local go_sem ↓] TCall_ld0 TCall_st0 TCall_fd0 TCall_bd0
attribute [local go_sem] TCall_size TCall_one TCall_piece TCall_c0 TCall_c1 TCall_c2 TCall_c3 TCall_c4 TCall_c5 TCall_c6 TCall_c7 TCall_c8 TCall_c9 TCall_c10 TCall_c11 TCall_c12 TCall_c13 TCall_p_deed TCall_put_deed TCall_p_deps TCall_put_deps TCall_set_seq TCall_ld TCall_st TCall_f_deed TCall_f_deps TCall_f_seq TCall_bd TCall_fl TCall_fl_deed TCall_fl_deps TCall_fl_seq
attribute [local go_sem high] TCall_eql TCall_neq
attribute [local go_sem ↓] TItem_ld0 TItem_st0 TItem_fd0 TItem_bd0
attribute [local go_sem] TItem_size TItem_one TItem_piece TItem_c0 TItem_c1 TItem_set_rep TItem_set_num TItem_ld TItem_st TItem_f_rep TItem_f_num TItem_bd TItem_fl TItem_fl_rep TItem_fl_num
attribute [local go_sem high] TItem_eql TItem_neq
theorem wlk_build0 (p : Array (Nat × Value)) : Instr.build 94 p = buildS 94 p := rfl
theorem wlk_build (w : World) (b : Nat) : (buildS 94 #[(0, .pointer (some ⟨b, 0, none⟩))]).run Try.prog w = .ok (.agg #[.pointer (some ⟨b, 0, none⟩), .slice none 0 0, .slice none 0 0]) w := by kernel_rfl
attribute [local go_sem ↓] wlk_build0
attribute [local go_sem] wlk_build
section
variable {w W : World} {F : Nat → Prop} {R : List Res}
set_option maxHeartbeats 32000000 in
theorem toldT {m : RowsMK} {q : RowsML} {its : List Item} (G : GInv m its) (hits : its.length ≤ 1000) (g : Nat) (vi vc vd vp : Value) (items : List Item) (calls : List Call) (dn : List Item) (hD : DocOk m q items calls dn) (x : Item) (HC : ∀ z, Rch m q x z → (getMK m z).isSome = true) (P : List (List Item)) (hP : P = (ovF m q (partL m q) its.length x ([], [])).2) (hlen : P.length ≤ 1000 ∧ ∀ p ∈ P, p.length ≤ 1000)
    (T : Sts w F W (paR vp P :: (docL g vi vc vd items calls dn ++ R))) :
    Calls Try.prog 22 #[.pointer (some ⟨g, 0, none⟩), .agg (IV x), vp] W fun e W' => e = .returned (.bool true) ∧ Sts w F W' (paR vp P :: (docL g vi vc vd items calls dn ++ R)) := by
  obtain ⟨pv, Ap, cp, hpv, rfl, T1⟩ := T.paOpen2
  have T2 : Sts w F W (vecR 30 1 (.slice Ap pv.length cp) pv.length (vl PV pv) :: packR (pv.map ptR) :: rowR g (docC vi vc vd) :: vecR 35 2 vi items.length (vl IV items) :: vecR 47 14 vc calls.length (vl CV calls) :: vecR 35 2 vd dn.length (vl IV dn) :: R) := T1
  have T3 := ((T2.new (IV x) 35).vecNil 35 2).paNil
  have T4 := T3.new #[.pointer (some ⟨g, 0, none⟩), .slice none 0 0, .slice none 0 0] 94
  simp only [World.size_alloc] at T4
  have T4a := T4.ord [0, 2, 1]
  have T5 := Sts.wkShut (wk := W.heap.size + 1) (g := g) (vs := .slice none 0 0) (vo := .slice none 0 0) (s := (([] : List Item), ([] : List (List Item)))) T4a
  have hpl : pv.length = P.length := by rw [← hpv, List.length_map]
  have HT := Lib.hid T5; have HD := Lib.hid hD; have HG := Lib.hid G; have HPV := Lib.hid hpv; have HPE := Lib.hid hP; have HCC := Lib.hid HC; have HLEN := Lib.hid hlen; have HPL := Lib.hid hpl
  clear T T1 T2 T3 T4 T4a T5 hD G hpv hP HC hlen hpl
  go_enter Try.func22, Try.ntmps22
  go_upto_region 2 with fail
  generalize W.heap.size + 1 = wk at *
  generalize (W.alloc _).alloc _ = w1 at *
  generalize W.heap.size = gx at *
  have T0 : Sts w F w1 (wkR wk g ([], []) :: (docL g vi vc vd items calls dn ++ (rowR gx (IV x) :: vecR 30 1 (.slice Ap pv.length cp) pv.length (vl PV pv) :: packR (pv.map ptR) :: R))) := by
    have T0 := HT.out.ord [0, 4, 5, 6, 7, 1, 2, 3]
    exact T0
  have HO := Lib.hid (docOverT HG.out hits HCC.out wk g vi vc vd items calls dn HD.out its.length x ([], []) ⟨List.nodup_nil, by simp⟩ (by simp) (by simp) (.refl x) (by simp) T0)
  have rx := (HT.out.ord [1, 0]).row; have lx := row_lt rx
  clear T0 HT
  go_wp2_with fail
  refine HO.out.mono ?_
  clear HO rx lx
  rintro e2 w2 ⟨rfl, T⟩
  obtain ⟨vs, vo, T1⟩ := T.wkOpen
  rw [← HPE.out] at T1
  obtain ⟨po, Ao, co, hpo, rfl, T2⟩ := (T1.ord [2, 0, 1]).paOpen2
  have T3 : Sts w F w2 (vecR 30 1 (.slice Ao po.length co) po.length (vl PV po) :: packR (po.map ptR) :: rowR wk #[.pointer (some ⟨g, 0, none⟩), vs, .slice Ao po.length co] :: vecR 35 2 vs _ _ :: rowR g (docC vi vc vd) :: vecR 35 2 vi items.length (vl IV items) :: vecR 47 14 vc calls.length (vl CV calls) :: vecR 35 2 vd dn.length (vl IV dn) :: rowR gx (IV x) :: vecR 30 1 (.slice Ap pv.length cp) pv.length (vl PV pv) :: packR (pv.map ptR) :: R) := T2
  have T4 : Sts w F w2 (vecR 30 1 (.slice Ap pv.length cp) pv.length (vl PV pv) :: packR (pv.map ptR) :: vecR 30 1 (.slice Ao po.length co) po.length (vl PV po) :: packR (po.map ptR) :: rowR wk #[.pointer (some ⟨g, 0, none⟩), vs, .slice Ao po.length co] :: rowR g (docC vi vc vd) :: vecR 35 2 vi items.length (vl IV items) :: vecR 47 14 vc calls.length (vl CV calls) :: vecR 35 2 vd dn.length (vl IV dn) :: R) := by
    have T4 := (T3.ord [8, 3, 9, 10, 0, 1, 2, 4, 5, 6, 7]).drop.drop
    exact T4
  have hpl2 : po.length = pv.length := by rw [HPL.out, ← hpo, List.length_map]
  have rw0 := (T4.ord [4, 0, 1, 2, 3]).row; have lw := row_lt rw0
  have cw : w2.cell? ⟨wk, 2, none⟩ = some (.slice Ao po.length co) := by rw [row_cell rw0 2]; rfl
  have HPO := Lib.hid hpo; have HPL2 := Lib.hid hpl2; have HT := Lib.hid T4
  clear T T1 T2 T3 T4 hpo
  go_wp2_with fail
  clear rw0 lw cw
  have hp1000 : pv.length ≤ 1000 := by rw [HPL.out]; exact HLEN.out.1
  go_loopw [27] (fun u27 wr => ∃ k : Nat, u27 = .int .i64 k ∧ k ≤ pv.length ∧ Sts w F wr (vecR 30 1 (.slice Ap pv.length cp) pv.length (vl PV pv) :: packR (pv.map ptR) :: vecR 30 1 (.slice Ao po.length co) po.length (vl PV po) :: packR (po.map ptR) :: rowR wk #[.pointer (some ⟨g, 0, none⟩), vs, .slice Ao po.length co] :: rowR g (docC vi vc vd) :: vecR 35 2 vi items.length (vl IV items) :: vecR 47 14 vc calls.length (vl CV calls) :: vecR 35 2 vd dn.length (vl IV dn) :: R)) (fun u27 _ => pv.length - (intOf u27).toNat)
  case atStart => exact ⟨0, rfl, by omega, HT.out⟩
  case round =>
    clear HT
    obtain ⟨k, hrel⟩ := hrel
    obtain ⟨rfl, hk, T⟩ := hrel
    by_cases hkp : k < pv.length
    · have hk1 : (k : Int) < (pv.length : Int) := by omega
      have hk0 : (0 : Int) ≤ (k : Int) := by omega
      have hk2 : k < po.length := by omega
      have hk3 : (k : Int) < (po.length : Int) := by omega
      obtain ⟨p, hp⟩ : ∃ p, pv[k]? = some p := ⟨pv[k]'hkp, List.getElem?_eq_getElem _⟩
      obtain ⟨p', hp'⟩ : ∃ p, po[k]? = some p := ⟨po[k]'(by omega), List.getElem?_eq_getElem _⟩
      have hPk : P[k]? = some p.2 := by rw [← HPV.out, List.getElem?_map, hp]; rfl
      have hPk' : P[k]? = some p'.2 := by rw [← HPO.out, List.getElem?_map, hp']; rfl
      have hpp : p'.2 = p.2 := by rw [hPk] at hPk'; injection hPk' with h; exact h.symm
      have hlp : p.2.length ≤ 1000 := HLEN.out.2 p.2 (List.mem_of_getElem? hPk)
      obtain ⟨gp, B, dB, rfl, hcell, hpB⟩ := part_at T hp
      obtain ⟨go, B', dB', rfl, hcell', hpB'⟩ := part_at (T.ord [2, 3, 0, 1]) hp'
      rw [hpp] at hcell'
      have hlt := World.block_lt_of_cell? _ _ hcell
      have hlt' := World.block_lt_of_cell? _ _ hcell'
      have rw0 := (T.ord [4, 0, 1, 2, 3]).row; have lw := row_lt rw0
      have cw : wr.cell? ⟨wk, 2, none⟩ = some (.slice (some ⟨go, 0, none⟩) po.length co) := by rw [row_cell rw0 2]; rfl
      have HT := Lib.hid T; have HPp := Lib.hid hp; have HPo := Lib.hid hp'; have HPB := Lib.hid hpB; have HPB' := Lib.hid hpB'; have HPP := Lib.hid hpp
      have HC1 := Lib.hid hcell'
      clear T hp hp' hPk hPk' hpB hpB' hpp
      go_wp2_with fail
      clear hcell hcell' hlt hlt' rw0 lw cw
      go_loopw [45] (fun u45 wx => ∃ i : Nat, u45 = .int .i64 i ∧ i ≤ p.2.length ∧ Sts w F wx (vecR 30 1 (.slice (some ⟨gp, 0, none⟩) pv.length cp) pv.length (vl PV pv) :: packR (pv.map ptR) :: vecR 30 1 (.slice (some ⟨go, 0, none⟩) po.length co) po.length (vl PV po) :: packR (po.map ptR) :: rowR wk #[.pointer (some ⟨g, 0, none⟩), vs, .slice (some ⟨go, 0, none⟩) po.length co] :: rowR g (docC vi vc vd) :: vecR 35 2 vi items.length (vl IV items) :: vecR 47 14 vc calls.length (vl CV calls) :: vecR 35 2 vd dn.length (vl IV dn) :: R)) (fun u45 _ => p.2.length - (intOf u45).toNat)
      case atStart => exact ⟨0, rfl, by omega, HT.out⟩
      case round =>
        clear HT
        obtain ⟨i, hrel⟩ := hrel
        obtain ⟨rfl, hi1, T⟩ := hrel
        by_cases hil : i < p.2.length
        · have hil1 : (i : Int) < (p.2.length : Int) := by omega
          have hi0 : (0 : Int) ≤ (i : Int) := by omega
          obtain ⟨y, hy⟩ : ∃ y, p.2[i]? = some y := ⟨p.2[i]'hil, List.getElem?_eq_getElem _⟩
          have FS : ∀ W', Sts w F W' (vecR 30 1 (.slice (some ⟨gp, 0, none⟩) pv.length cp) pv.length (vl PV pv) :: packR (pv.map ptR) :: vecR 30 1 (.slice (some ⟨go, 0, none⟩) po.length co) po.length (vl PV po) :: packR (po.map ptR) :: rowR wk #[.pointer (some ⟨g, 0, none⟩), vs, .slice (some ⟨go, 0, none⟩) po.length co] :: rowR g (docC vi vc vd) :: vecR 35 2 vi items.length (vl IV items) :: vecR 47 14 vc calls.length (vl CV calls) :: vecR 35 2 vd dn.length (vl IV dn) :: R) → (W'.cell? ⟨wk, 2, none⟩ = some (.slice (some ⟨go, 0, none⟩) po.length co) ∧ W'.cell? ⟨go, k, none⟩ = some (.slice B' p.2.length dB') ∧ (∃ gB, B = some ⟨gB, 0, none⟩ ∧ loadVal Try.prog 35 2 W' (.pointer (some ⟨gB, i * 2, none⟩)) = .ok (.agg (IV y)) W') ∧ (∃ gB, B' = some ⟨gB, 0, none⟩ ∧ loadVal Try.prog 35 2 W' (.pointer (some ⟨gB, i * 2, none⟩)) = .ok (.agg (IV y)) W')) := fun W' T => by
            refine ⟨by rw [row_cell (T.ord [4, 0, 1, 2, 3]).row 2]; rfl, ?_, part_item T HPp.out HPB.out (by omega) hy, part_item (T.ord [2, 3, 0, 1]) HPo.out HPB'.out (by rw [HPP.out]; omega) (by rw [HPP.out]; exact hy)⟩
            obtain ⟨g2, B2, d2, e1, e2, e3⟩ := part_at (T.ord [2, 3, 0, 1]) HPo.out
            injection e1 with e1
            injection e1 with e1
            subst e1
            rw [HPB'.out] at e3
            injection e3 with e3 e4 e5
            subst e3 e5
            rw [HPP.out] at e2
            exact e2
          obtain ⟨c1, c2, ⟨gB, rfl, l1⟩, gB', rfl, l2⟩ := FS _ T.drew
          have S0 : (fun W' : World => (W'.cell? ⟨wk, 2, none⟩ = some (.slice (some ⟨go, 0, none⟩) po.length co) ∧ W'.cell? ⟨go, k, none⟩ = some (.slice (some ⟨gB', 0, none⟩) p.2.length dB') ∧ loadVal Try.prog 35 2 W' (.pointer (some ⟨gB, i * 2, none⟩)) = .ok (.agg (IV y)) W' ∧ loadVal Try.prog 35 2 W' (.pointer (some ⟨gB', i * 2, none⟩)) = .ok (.agg (IV y)) W')) wr.drew := ⟨c1, c2, l1, l2⟩
          have HT := Lib.hid T.drew; have HIL := Lib.hid hil
          clear T hy FS c1 c2 l1 l2
          go_upto_region 13 with fail
          refine wp_region_held_drew (S := fun W' => (W'.cell? ⟨wk, 2, none⟩ = some (.slice (some ⟨go, 0, none⟩) po.length co) ∧ W'.cell? ⟨go, k, none⟩ = some (.slice (some ⟨gB', 0, none⟩) p.2.length dB') ∧ loadVal Try.prog 35 2 W' (.pointer (some ⟨gB, i * 2, none⟩)) = .ok (.agg (IV y)) W' ∧ loadVal Try.prog 35 2 W' (.pointer (some ⟨gB', i * 2, none⟩)) = .ok (.agg (IV y)) W')) (by kernel_rfl) S0 (fun hHeld => ?_)
          clear S0
          have hee : eqA (IV y) (IV y) = true := eqA_refl _
          refine tkH 0 rfl (v := ?_) ?_ ?_
          rotate_left
          · intro w h; (try dsimp only at h); go_simp; try with_reducible rfl
          simp only [Act.put, List.getElem_toArray, List.getElem_cons_zero, List.setIfInBounds_toArray, List.set_cons_zero, List.set_cons_succ]
          refine tkH 1 rfl (v := ?_) ?_ ?_
          rotate_left
          · intro w h; (try dsimp only at h); go_simp; try with_reducible rfl
          go_frame
          refine tkH 2 rfl (v := ?_) ?_ ?_
          rotate_left
          · intro w h; (try dsimp only at h); go_simp; try with_reducible rfl
          go_frame
          refine tkH 3 rfl (v := ?_) ?_ ?_
          rotate_left
          · intro w h; (try dsimp only at h); go_simp; try with_reducible rfl
          go_frame
          refine tkH 4 rfl (v := ?_) ?_ ?_
          rotate_left
          · intro w h; (try dsimp only at h); go_simp; try with_reducible rfl
          go_frame
          refine tkH 5 rfl (v := ?_) ?_ ?_
          rotate_left
          · intro w h; (try dsimp only at h); go_simp; try with_reducible rfl
          go_frame
          refine tkH 6 rfl (v := ?_) ?_ ?_
          rotate_left
          · intro w h; (try dsimp only at h); go_simp; try with_reducible rfl
          go_frame
          refine tkH 7 rfl (v := ?_) ?_ ?_
          rotate_left
          · intro w h; (try dsimp only at h); go_simp; try with_reducible rfl
          go_frame
          refine tkH 8 rfl (v := ?_) ?_ ?_
          rotate_left
          · intro w h; (try dsimp only at h); go_simp; try with_reducible rfl
          go_frame
          refine tkH 9 rfl (v := ?_) ?_ ?_
          rotate_left
          · intro w h; (try dsimp only at h); go_simp; try with_reducible rfl
          go_frame
          refine tkH 10 rfl (v := ?_) ?_ ?_
          rotate_left
          · intro w h; (try dsimp only at h); go_simp; try with_reducible rfl
          go_frame
          refine tkH 11 rfl (v := ?_) ?_ ?_
          rotate_left
          · intro w h; (try dsimp only at h); go_simp; try with_reducible rfl
          go_frame
          refine tkH 12 rfl (v := ?_) ?_ ?_
          rotate_left
          · intro w h; (try dsimp only at h); go_simp; try with_reducible rfl
          go_frame
          refine tkH 13 rfl (v := ?_) ?_ ?_
          rotate_left
          · intro w h; (try dsimp only at h); go_simp; try with_reducible rfl
          go_frame
          refine tkH 14 rfl (v := ?_) ?_ ?_
          rotate_left
          · intro w h; (try dsimp only at h); go_simp; try with_reducible rfl
          go_frame
          refine wpAnyH_done (by kernel_rfl) ?_ _
          try simp only [Exit.then]
          go_wp2_with fail
          go_roundw
          case rel => exact ⟨i + 1, by go_num, by omega, HT.out⟩
          case measure => simp [intOf]; omega
        · have hil1 : ¬ (i : Int) < (p.2.length : Int) := by omega
          have HT := Lib.hid T; clear T
          go_wp2_with fail
          go_roundw
          case rel => exact ⟨k + 1, by go_num, by omega, HT.out⟩
          case measure => simp [intOf]; omega
    · have hk1 : ¬ (k : Int) < (pv.length : Int) := by omega
      have HT := Lib.hid T; clear T
      go_wp2_with fail
      go_ret
      refine ⟨rfl, ?_⟩
      have T9 := (HT.out.ord [2, 3, 4, 0, 1]).drop.drop.drop
      rw [← HPV.out]
      exact Sts.paShut (T9.unpack1)
end
end Go.Proofs.Ytnjgjhjilolanaa
/- Layer 18: what a nil graph answers. -/
namespace Go.Proofs.Ytnjgjhjilolanaa
open Go.RowKit Go.Shelf
set_option linter.unusedVariables false
set_option maxRecDepth 20000
attribute [local go_sem] row_alloc row_drew row_drewN row_ext row_setCell row_setRow size_ext setRow_alloc setRow_drew loadOf storeOf piece_lit loadVal_at storeVal_at allOne_lit buildOf buildRes_some
attribute [local go_sem high] cell_alloc frozen_alloc setCell_alloc cell_ext frozen_ext cell_setRow frozen_setRow
attribute [local go_sem ↓] TDeed_ld0 TDeed_st0 TDeed_fd0 TDeed_bd0
attribute [local go_sem] TDeed_size TDeed_one TDeed_piece TDeed_c0 TDeed_c1 TDeed_c2 TDeed_c3 TDeed_c4 TDeed_c5 TDeed_set_kind TDeed_set_key TDeed_set_val TDeed_set_ver TDeed_set_ses TDeed_set_num TDeed_ld TDeed_st TDeed_f_kind TDeed_f_key TDeed_f_val TDeed_f_ver TDeed_f_ses TDeed_f_num TDeed_bd TDeed_fl TDeed_fl_kind TDeed_fl_key TDeed_fl_val TDeed_fl_ver TDeed_fl_ses TDeed_fl_num
attribute [local go_sem high] TDeed_eql TDeed_neq
attribute [local go_sem ↓] index_deps0 load_deps0 store_deps0
attribute [local go_sem] DV_piece DV_size DV_one index_deps load_deps store_deps
attribute [local go_sem high] TDeps_eql TDeps_neq
attribute [local go_sem ↓] TCall_ld0 TCall_st0 TCall_fd0 TCall_bd0
attribute [local go_sem] TCall_size TCall_one TCall_piece TCall_c0 TCall_c1 TCall_c2 TCall_c3 TCall_c4 TCall_c5 TCall_c6 TCall_c7 TCall_c8 TCall_c9 TCall_c10 TCall_c11 TCall_c12 TCall_c13 TCall_p_deed TCall_put_deed TCall_p_deps TCall_put_deps TCall_set_seq TCall_ld TCall_st TCall_f_deed TCall_f_deps TCall_f_seq TCall_bd TCall_fl TCall_fl_deed TCall_fl_deps TCall_fl_seq
attribute [local go_sem high] TCall_eql TCall_neq
attribute [local go_sem ↓] TItem_ld0 TItem_st0 TItem_fd0 TItem_bd0
attribute [local go_sem] TItem_size TItem_one TItem_piece TItem_c0 TItem_c1 TItem_set_rep TItem_set_num TItem_ld TItem_st TItem_f_rep TItem_f_num TItem_bd TItem_fl TItem_fl_rep TItem_fl_num
attribute [local go_sem high] TItem_eql TItem_neq
section
variable {w W : World} {F : Nat → Prop} {R : List Res}
set_option maxHeartbeats 4000000 in
theorem nilIs (x : Item) : Ans Try.prog 18 #[.pointer none, .agg (IV x)] (.bool false) := by
  refine Ans.of_sts fun W => ?_
  have T := (Sts.start0 W).new (IV x) 35
  have r1 := T.row; have l1 := row_lt r1
  have HT := Lib.hid T.nil; clear T
  go_enter Try.func18, Try.ntmps18
  go_wp2
  go_ret
  exact ⟨rfl, HT.out⟩
set_option maxHeartbeats 4000000 in
theorem nilOver (x : Item) : Ans Try.prog 14 #[.pointer none, .agg (IV x)] (.bool false) := by
  refine Ans.of_sts fun W => ?_
  have T := (Sts.start0 W).new (IV x) 35
  have r1 := T.row; have l1 := row_lt r1
  have HT := Lib.hid T.nil; clear T
  go_enter Try.func14, Try.ntmps14
  go_wp2
  go_ret
  exact ⟨rfl, HT.out⟩
set_option maxHeartbeats 4000000 in
theorem nilCall (x : Item) : Ans Try.prog 17 #[.pointer none, .agg (IV x)] (.tuple #[.agg (CV noCall), .bool false]) := by
  refine Ans.of_sts fun W => ?_
  have T := ((Sts.start0 W).new (IV x) 35).new (CV noCall) 47
  simp only [World.size_alloc] at T
  have r1 := T.row; have l1 := row_lt r1
  have HT := Lib.hid T; clear T
  go_enter Try.func17, Try.ntmps17
  go_wp2
  refine ret_row_tmp (CV noCall) (.bool false) TCall_und rfl (by kernel_rfl) rfl rfl rfl rfl (TCall_size _) HT.out.row ?_
  exact ⟨rfl, HT.out.nil⟩
set_option maxHeartbeats 4000000 in
theorem nilCommit (x : Item) (c : Call) : Ans Try.prog 24 #[.pointer none, .agg (IV x), .agg (CV c)] (.bool false) := by
  refine Ans.of_sts fun W => ?_
  have T := ((Sts.start0 W).new (IV x) 35).new (CV c) 47
  have r1 := T.row; have l1 := row_lt r1
  have HT := Lib.hid T.nil; clear T
  go_enter Try.func24, Try.ntmps24
  go_wp2
  go_ret
  exact ⟨rfl, HT.out⟩
set_option maxHeartbeats 4000000 in
theorem nilOrder (x : Item) : Ans Try.prog 13 #[.pointer none, .agg (IV x)] (.tuple #[.slice none 0 0, .slice none 0 0]) := by
  refine Ans.of_sts fun W => ?_
  have T := (Sts.start0 W).new (IV x) 35
  have r1 := T.row; have l1 := row_lt r1
  have HT := Lib.hid T; clear T
  have HI := Lib.hid (nilIs x)
  go_enter Try.func13, Try.ntmps13
  go_wp2_with fail
  refine (Ans.at HI.out HT.out).mono ?_
  clear HI HT r1 l1
  rintro e5 w5 ⟨rfl, T⟩
  have HT := Lib.hid T.nil; clear T
  go_wp2
  go_ret2
  exact ⟨rfl, HT.out⟩
set_option maxHeartbeats 4000000 in
theorem nilDone (A : Option Addr) (c : Nat) (x : Item) (W : World) (hA : RowsIn W A 2 IV [x]) : Calls Try.prog 15 #[.pointer none, .slice A 1 c] W fun e W' => e = .returned (.tuple #[]) ∧ Below W.heap.size W W' := by
  have HA := Lib.hid hA; clear hA
  have HT := Lib.hid (Sts.start0 W)
  go_enter Try.func15, Try.ntmps15
  go_wp2_with fail
  go_loopw [8] (fun u8 wr => ∃ k : Nat, u8 = .int .i64 k ∧ k ≤ 1 ∧ Sts W (fun _ => False) wr []) (fun u8 _ => 1 - (intOf u8).toNat)
  case atStart => exact ⟨0, rfl, by omega, HT.out⟩
  case round =>
    clear HT
    obtain ⟨k, rfl, hk, T⟩ := hrel
    by_cases hk0 : k < 1
    · obtain rfl : k = 0 := by omega
      cases A with
      | none => have := HA.out.nil rfl; simp at this
      | some a =>
        have hld := HA.out.load (P := Try.prog) (T := 35) TItem_size TItem_und rfl (by kernel_rfl) T.below rfl (show 0 < [x].length by simp)
        rw [show a.add (0 * 2) = a by unfold Addr.add; simp] at hld
        simp only [List.getElem_cons_zero] at hld
        have T2 := T.new (IV x) 35
        have HT := Lib.hid T2.nil; clear T T2
        go_wp2_with fail
        go_roundw
        case rel => exact ⟨1, by go_num, by omega, HT.out⟩
        case measure => simp [intOf]
    · obtain rfl : k = 1 := by omega
      have HT := Lib.hid T; clear T
      go_wp2_with fail
      go_end0
      exact ⟨rfl, HT.out.below⟩
end
end Go.Proofs.Ytnjgjhjilolanaa
/- Layer 18, plain: what is told to be missing is what isn't committed among all that is reached. No walk stands here. -/
namespace Go.Proofs.Ytnjgjhjilolanaa
open Go.RowKit
set_option linter.unusedVariables false
section
variable {m : RowsMK} {q : RowsML} {its : List Item} {S : WS} {ps : List Item} {x : Item}
theorem next_ix (m : RowsMK) (q : RowsML) (S : WS) (frs : List (Item × List Item)) (z y : Item) (l : List Item) (u : Item) (h : ((nextM m q S frs z y l).ix u).isSome = true) : u = y ∨ (S.ix u).isSome = true := by
  unfold nextM at h
  dsimp only at h
  split at h
  · cases hix : S.ix y with
    | none =>
      rw [hix] at h
      dsimp only at h
      have h : (putF S.ix y (S.ci : Int) u).isSome = true := h
      rw [putF_isSome] at h
      exact h
    | some a =>
      rw [hix] at h
      dsimp only at h
      split at h <;> exact .inr h
  · split at h <;> exact .inr h
theorem ends_reach (G : GInv m its) : ∀ (k : Nat) (S Z : WS) (ps : List Item), EndsK m q k S Z → WInv m q its S ps → DInv m q x S ps → EInv m q x S ps → (∀ y ∈ ps, Rch m q x y) → ∃ ps', WInv m q its Z ps' ∧ DInv m q x Z ps' ∧ EInv m q x Z ps' ∧ ∀ y ∈ ps', Rch m q x y
  | 0, S, Z, ps, h, hW, hD, hE, hR => by
    obtain ⟨_, rfl⟩ := h
    exact ⟨ps, hW, hD, hE, hR⟩
  | k + 1, S, Z, ps, h, hW, hD, hE, hR => by
    rcases h with ⟨frs, y, hf, h1⟩ | ⟨frs, z, y, l, hf, h1⟩
    · exact ends_reach G k _ Z ps h1 (hW.pop hf) (hD.pop hW hf) (hE.pop hD hW hf) hR
    · obtain ⟨ps', hW', hD'⟩ := hD.next hW G hf
      obtain ⟨ps2, hE2, h2⟩ := hE.next hD hW hf
      refine ends_reach G k _ Z ps' h1 hW' hD' (next_ps G hW hf hW' h2 hE2) fun u hu => ?_
      have hzp : z ∈ ps := hW.st z (hW.top hf)
      have hzy : y ∈ waitsM m q z := hE.nxr (z, y :: l) (by rw [hf]; simp) y (by simp)
      rcases next_ix m q S frs z y l u ((hW'.ix u).2 hu) with rfl | h3
      · exact .step (hR z hzp) hzy
      · exact hR u ((hW.ix u).1 h3)
/-- What is missing. -/
theorem ord_want (G : GInv m its) {P : List (List Item)} {M : List Item} (a1 : (getMK m x).isSome = true) (a2 : (getML q x).isSome = false) (h : OrdM m q its x P M) :
    M.Nodup ∧ (∀ z, z ∈ M ↔ z ∈ reachL m q x ∧ (getMK m z).isSome = false) ∧ (M ≠ [] → P = []) := by
  have h0 := ord_all G a1 a2 h
  refine ⟨h0.2.2.2.2.2.1, ?_, fun hm => (h0.2.2.2.1 hm).1⟩
  rcases h with ⟨a, _⟩ | ⟨_, Z, ps0, ⟨k, hk⟩, hf, hWZ, b1, b2⟩
  · rw [a1, a2] at a; simp at a
  · obtain ⟨s1, s2, s3⟩ := start_all (q := q) G a1 a2
    obtain ⟨ps, hW, hD, hE, hR⟩ := ends_reach G k _ Z _ hk s1 s2 s3 (fun y hy => by simp at hy; subst hy; exact .refl y)
    have hM : M = Z.mi := by
      by_cases hm : Z.mi = []
      · rw [(b2 hm).2, hm]
      · exact (b1 hm).2
    have hclo : ∀ y ∈ ps, ∀ z ∈ waitsM m q y, z ∈ ps ∨ z ∈ Z.mi := fun y hy z hz => by
      rcases hE.clo y hy z hz with h1 | h1 | ⟨f, h1, _⟩
      · exact .inl h1
      · exact .inr h1
      · rw [hf] at h1; simp at h1
    have hin : ∀ y, Rch m q x y → y ∈ ps ∨ (getMK m y).isSome = false := fun y hy => by
      induction hy with
      | refl => exact .inl hD.xin
      | step _ h ih =>
        rcases ih with i | i
        · rcases hclo _ i _ h with j | j
          · exact .inl j
          · exact .inr (hE.mis _ j).1
        · rw [waits_none i] at h; simp at h
    intro z
    rw [hM, reach_mem G]
    constructor
    · intro hz
      obtain ⟨c1, y, c2, c3⟩ := hE.mis z hz
      exact ⟨⟨y, hR y c2, c3⟩, c1⟩
    · rintro ⟨⟨y, c1, c2⟩, c3⟩
      rcases hin y c1 with i | i
      · rcases hclo y i z c2 with j | j
        · have := hW.is z j
          rw [c3] at this; cases this
        · exact j
      · rw [waits_none i] at c2; simp at c2
theorem want_len (G : GInv m its) {M : List Item} (h1 : M.Nodup) (h2 : ∀ z, z ∈ M ↔ z ∈ reachL m q x ∧ (getMK m z).isSome = false) : ((reachL m q x).filter (fun z => !(getMK m z).isSome)).length = M.length := by
  have hp : ((reachL m q x).filter (fun z => !(getMK m z).isSome)).Perm M := (List.perm_ext_iff_of_nodup ((reach_nodup G).sublist List.filter_sublist) h1).2 fun z => by
    rw [List.mem_filter, h2 z]
    simp
  exact hp.length_eq
end
end Go.Proofs.Ytnjgjhjilolanaa
