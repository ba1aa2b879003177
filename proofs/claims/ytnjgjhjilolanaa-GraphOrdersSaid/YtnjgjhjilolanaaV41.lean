/- Several texts in one. -/
import Derived.Test.YtnjgjhjilolanaaV36
import Derived.Test.YtnjgjhjilolanaaV39
import Derived.Test.YtnjgjhjilolanaaV31
import Derived.Test.YtnjgjhjilolanaaV40
/- Layer 18: are the parts of an order as they must be: the law's own look at them. -/
namespace Go.Proofs.Ytnjgjhjilolanaa
open Go.RowKit Go.Shelf
set_option linter.unusedVariables false
set_option maxRecDepth 20000
attribute [local go_sem] row_alloc row_drew row_drewN row_ext row_setCell row_setRow size_ext setRow_alloc setRow_drew loadOf storeOf piece_lit loadVal_at storeVal_at allOne_lit buildOf buildRes_some
attribute [local go_sem high] cell_alloc frozen_alloc setCell_alloc cell_ext frozen_ext cell_setRow frozen_setRow
attribute [local go_sem ↓] TDeed_ld0 TDeed_st0 TDeed_fd0 TDeed_bd0
attribute [local go_sem] TDeed_size TDeed_one TDeed_piece TDeed_c0 TDeed_c1 TDeed_c2 TDeed_c3 TDeed_c4 TDeed_c5 TDeed_set_kind TDeed_set_key TDeed_set_val TDeed_set_ver TDeed_set_ses TDeed_set_num TDeed_ld TDeed_st TDeed_f_kind TDeed_f_key TDeed_f_val TDeed_f_ver TDeed_f_ses TDeed_f_num TDeed_bd TDeed_fl TDeed_fl_kind TDeed_fl_key TDeed_fl_val TDeed_fl_ver TDeed_fl_ses TDeed_fl_num
attribute [local go_sem high] TDeed_eql TDeed_neq
attribute [local go_sem ↓] index_deps0 load_deps0 store_deps0
attribute [local go_sem] DV_piece DV_size DV_one index_deps load_deps store_deps
attribute [local go_sem high] TDeps_eql TDeps_neq
attribute [local go_sem ↓] TCall_ld0 TCall_st0 TCall_fd0 TCall_bd0
attribute [local go_sem] TCall_size TCall_one TCall_piece TCall_c0 TCall_c1 TCall_c2 TCall_c3 TCall_c4 TCall_c5 TCall_c6 TCall_c7 TCall_c8 TCall_c9 TCall_c10 TCall_c11 TCall_c12 TCall_c13 TCall_p_deed TCall_put_deed TCall_p_deps TCall_put_deps TCall_set_seq TCall_ld TCall_st TCall_f_deed TCall_f_deps TCall_f_seq TCall_bd TCall_fl TCall_fl_deed TCall_fl_deps TCall_fl_seq
attribute [local go_sem high] TCall_eql TCall_neq
attribute [local go_sem ↓] TItem_ld0 TItem_st0 TItem_fd0 TItem_bd0
attribute [local go_sem] TItem_size TItem_one TItem_piece TItem_c0 TItem_c1 TItem_set_rep TItem_set_num TItem_ld TItem_st TItem_f_rep TItem_f_num TItem_bd TItem_fl TItem_fl_rep TItem_fl_num
attribute [local go_sem high] TItem_eql TItem_neq
attribute [local go_sem ↓] itm_slice0
attribute [local go_sem] itm_slice1
theorem part_rows {w W : World} {F : Nat → Prop} {R : List Res} {A : Option Addr} {c : Nat} {pv : List (Value × List Item)} (T : Sts w F W (vecR 30 1 (.slice A pv.length c) pv.length (vl PV pv) :: packR (pv.map ptR) :: R)) {k : Nat} {p : Value × List Item} (hk : pv[k]? = some p) {B : Option Addr} {d : Nat} (hp : p.1 = .slice B p.2.length d) (hl : p.2.length ≤ 1000000) : RowsIn W B 2 IV p.2 := by
  have T2 : Sts w F W (ptR p :: _) := (T.swap).pick hk
  have hq : ptR p = vecR 35 2 (.slice B p.2.length d) p.2.length (vl IV p.2) := by unfold ptR; rw [hp]
  rw [hq] at T2
  exact vec_in TItem_size rfl T2 (by omega) hl
section
variable {w W : World} {F : Nat → Prop} {R : List Res}
set_option maxHeartbeats 32000000 in
theorem rightT {m : RowsMK} {q : RowsML} {its : List Item} (G : GInv m its) (hits : its.length ≤ 1000) (g : Nat) (vi vc vd vp : Value) (items : List Item) (calls : List Call) (dn : List Item) (hD : DocOk m q items calls dn) (x : Item) (P : List (List Item)) (hP : PartsOk m q x P)
    (T : Sts w F W (paR vp P :: (docL g vi vc vd items calls dn ++ R))) :
    Calls Try.prog 21 #[.pointer (some ⟨g, 0, none⟩), .agg (IV x), vp] W fun e W' => e = .returned (.bool true) ∧ Sts w F W' (paR vp P :: (docL g vi vc vd items calls dn ++ R)) := by
  obtain ⟨pv, Ap, cp, hpv, rfl, T1⟩ := T.paOpen2
  have T2 : Sts w F W (vecR 30 1 (.slice Ap pv.length cp) pv.length (vl PV pv) :: packR (pv.map ptR) :: rowR g (docC vi vc vd) :: vecR 35 2 vi items.length (vl IV items) :: vecR 47 14 vc calls.length (vl CV calls) :: vecR 35 2 vd dn.length (vl IV dn) :: R) := T1
  have T3 := T2.new (IV x) 35
  have hpl := hP.len G
  have hL4 := (reach_inv (q := q) (x := x) G).len
  have HT := Lib.hid T3; have HD := Lib.hid hD; have HG := Lib.hid G; have HP := Lib.hid hP; have HPV := Lib.hid hpv; have HPL := Lib.hid hpl; have HL4 := Lib.hid hL4
  clear T T1 T2 T3 hD G hP hpv hpl hL4
  obtain ⟨i0, hi, hz0, hz1, hz2⟩ := itm_i
  go_enter Try.func21, Try.ntmps21
  go_upto_region 1 with fail
  generalize W.alloc _ = w1 at *
  generalize W.heap.size = gx at *
  go_cut [7] from 20 to 25 (fun u7 wx => Sts w F wx [] ∧ Sts w F wx (vecR 35 2 u7 (reachL m q x ++ [x]).length (vl IV (reachL m q x ++ [x])) :: rowR gx (IV x) :: vecR 30 1 (.slice Ap pv.length cp) pv.length (vl PV pv) :: packR (pv.map ptR) :: rowR g (docC vi vc vd) :: vecR 35 2 vi items.length (vl IV items) :: vecR 47 14 vc calls.length (vl CV calls) :: vecR 35 2 vd dn.length (vl IV dn) :: R))
  case first =>
    have FS : ∀ W' R', Sts w F W' (rowR gx (IV x) :: R') → row? W' gx = some (IV x) := fun W' R' T => T.row
    have HFS := Lib.hid FS
    have HT2 := Lib.hid HT.out.drew
    have S0 := FS _ _ HT2.out
    clear FS HT
    refine wp_region_held_drew (S := fun W' => row? W' gx = some (IV x)) (by kernel_rfl) S0 (fun hHeld => ?_)
    clear S0
    generalize w1.drew = w2 at *
    refine tkH 0 rfl (v := ?_) ?_ ?_
    rotate_left
    · intro w h; (try dsimp only at h); go_simp; try with_reducible rfl
    simp only [Act.put, List.getElem_toArray, List.getElem_cons_zero, List.setIfInBounds_toArray, List.set_cons_zero, List.set_cons_succ]
    refine tkH 1 rfl (v := ?_) ?_ ?_
    rotate_left
    · intro w h; (try dsimp only at h); go_simp; try with_reducible rfl
    go_frame
    refine tkH 3 rfl (v := ?_) ?_ ?_
    rotate_left
    · intro w h; (try dsimp only at h); go_simp; try with_reducible rfl
    go_frame
    refine wpAnyH_ready (rs := [2, 4]) (by kernel_rfl) (by simp) ?_
    refine AllReadyH.cons (o := _) rfl (fun K hK => ?_) ?_
    · go_simp
      refine (docReachT HG.out g vi vc vd items calls dn HD.out x (R := rowR gx (IV x) :: vecR 30 1 (.slice Ap pv.length cp) pv.length (vl PV pv) :: packR (pv.map ptR) :: R) (by have T0 := HT2.out.ord [3, 4, 5, 6, 0, 1, 2]; exact T0)).mono ?_
      clear HT2
      rintro e3 w3 ⟨v2, rfl, T⟩
      have T : Sts w F w3 (vecR 35 2 v2 (reachL m q x).length (vl IV (reachL m q x)) :: rowR g (docC vi vc vd) :: vecR 35 2 vi items.length (vl IV items) :: vecR 47 14 vc calls.length (vl CV calls) :: vecR 35 2 vd dn.length (vl IV dn) :: rowR gx (IV x) :: vecR 30 1 (.slice Ap pv.length cp) pv.length (vl PV pv) :: packR (pv.map ptR) :: R) := T
      refine hK.out _ _ (HFS.out _ _ (T.ord [5, 0, 1, 2, 3, 4])) (fun hHeld => ?_)
      clear hK K
      have T2 := (T.ord [0, 5, 6, 7, 1, 2, 3, 4]).new (IV x) 35
      refine wpAnyH_ready (rs := [4]) (by kernel_rfl) (by simp) ?_
      refine AllReadyH.cons (o := _) rfl (fun K hK => ?_) AllReadyH.nil
      go_simp
      refine hK.out _ _ (HFS.out _ _ (T2.ord [2, 0, 1])) (fun hHeld => ?_)
      clear hK K
      have HT := Lib.hid (T2.ord [1, 0]); clear T T2
      generalize w3.alloc _ = w4 at *
      generalize w3.heap.size = gn at *
      refine wpAnyH_ready (rs := [5]) (by kernel_rfl) (by simp) ?_
      refine AllReadyH.cons (o := _) rfl (fun K hK => ?_) AllReadyH.nil
      have TE := HT.out
      have HOK := Lib.hid (itm_one x)
      refine step_append_vec (by rfl) _ _ _ (by rfl) 35 i0 _ 2 16 Try.underlying30 hi hz0 hz1 hz2 rfl (by omega) v2 (reachL m q x).length (vl IV (reachL m q x)) (by rfl) TE ⟨gn, 0, none⟩ 1 1 (IV x).toList (by rfl) (by rfl) (news_row TE.row1) HOK.out (by omega) (by unfold maxLen; have := HL4.out; omega) (by have := HL4.out; omega) ?_
      intro g25 c25 w25 TF
      refine hK.out _ _ (HFS.out _ _ (TF.ord [2, 0, 1])) (fun hHeld => ?_)
      clear hK K HT TE HOK
      have HT := Lib.hid (TF.ord [1, 0]).drop; clear TF
      simp only [Act.put, List.getElem_toArray, List.getElem_cons_zero, List.getElem_cons_succ, List.setIfInBounds_toArray, List.set_cons_zero, List.set_cons_succ]
      refine tkH 6 rfl (v := ?_) ?_ ?_
      rotate_left
      · intro w h; (try dsimp only at h); go_simp; try with_reducible rfl
      simp only [Act.put, List.getElem_toArray, List.getElem_cons_succ, List.getElem_cons_zero, List.setIfInBounds_toArray, List.set_cons_zero, List.set_cons_succ]
      refine wpAnyH_done (by kernel_rfl) ?_ _
      simp only [Exit.then]
      go_step
      go_meet
      case rel =>
        refine ⟨HT.out.nil, ?_⟩
        rw [List.length_append, vl_snoc]
        exact HT.out
    · have T2 := HT2.out.new (IV x) 35
      refine AllReadyH.cons (o := _) rfl (fun K hK => ?_) AllReadyH.nil
      go_simp
      refine hK.out _ _ (HFS.out _ _ (T2.ord [1, 0])) (fun hHeld => ?_)
      clear hK K HT2
      have HT2 := Lib.hid T2; clear T2
      generalize w2.alloc _ = w4 at *
      generalize w2.heap.size = gn at *
      refine wpAnyH_ready (rs := [2]) (by kernel_rfl) (by simp) ?_
      refine AllReadyH.cons (o := _) rfl (fun K hK => ?_) AllReadyH.nil
      go_simp
      refine (docReachT HG.out g vi vc vd items calls dn HD.out x (R := rowR gn (IV x) :: rowR gx (IV x) :: vecR 30 1 (.slice Ap pv.length cp) pv.length (vl PV pv) :: packR (pv.map ptR) :: R) (by have T0 := HT2.out.ord [4, 5, 6, 7, 0, 1, 2, 3]; exact T0)).mono ?_
      clear HT2
      rintro e3 w3 ⟨v2, rfl, T⟩
      have T : Sts w F w3 (vecR 35 2 v2 (reachL m q x).length (vl IV (reachL m q x)) :: rowR g (docC vi vc vd) :: vecR 35 2 vi items.length (vl IV items) :: vecR 47 14 vc calls.length (vl CV calls) :: vecR 35 2 vd dn.length (vl IV dn) :: rowR gn (IV x) :: rowR gx (IV x) :: vecR 30 1 (.slice Ap pv.length cp) pv.length (vl PV pv) :: packR (pv.map ptR) :: R) := T
      refine hK.out _ _ (HFS.out _ _ (T.ord [6, 0, 1, 2, 3, 4, 5])) (fun hHeld => ?_)
      clear hK K
      have HT := Lib.hid (T.ord [0, 5, 6, 7, 8, 1, 2, 3, 4]); clear T
      refine wpAnyH_ready (rs := [5]) (by kernel_rfl) (by simp) ?_
      refine AllReadyH.cons (o := _) rfl (fun K hK => ?_) AllReadyH.nil
      have TE := HT.out
      have HOK := Lib.hid (itm_one x)
      refine step_append_vec (by rfl) _ _ _ (by rfl) 35 i0 _ 2 16 Try.underlying30 hi hz0 hz1 hz2 rfl (by omega) v2 (reachL m q x).length (vl IV (reachL m q x)) (by rfl) TE ⟨gn, 0, none⟩ 1 1 (IV x).toList (by rfl) (by rfl) (news_row TE.row1) HOK.out (by omega) (by unfold maxLen; have := HL4.out; omega) (by have := HL4.out; omega) ?_
      intro g25 c25 w25 TF
      refine hK.out _ _ (HFS.out _ _ (TF.ord [2, 0, 1])) (fun hHeld => ?_)
      clear hK K HT TE HOK
      have HT := Lib.hid (TF.ord [1, 0]).drop; clear TF
      simp only [Act.put, List.getElem_toArray, List.getElem_cons_zero, List.getElem_cons_succ, List.setIfInBounds_toArray, List.set_cons_zero, List.set_cons_succ]
      refine tkH 6 rfl (v := ?_) ?_ ?_
      rotate_left
      · intro w h; (try dsimp only at h); go_simp; try with_reducible rfl
      simp only [Act.put, List.getElem_toArray, List.getElem_cons_succ, List.getElem_cons_zero, List.setIfInBounds_toArray, List.set_cons_zero, List.set_cons_succ]
      refine wpAnyH_done (by kernel_rfl) ?_ _
      simp only [Exit.then]
      go_step
      go_meet
      case rel =>
        refine ⟨HT.out.nil, ?_⟩
        rw [List.length_append, vl_snoc]
        exact HT.out
  case rest =>
    obtain ⟨-, T⟩ := hcut
    clear HT
    obtain ⟨al, hal⟩ : ∃ v, v = reachL m q x ++ [x] := ⟨_, rfl⟩
    have hal500 : al.length ≤ 500 := by rw [hal]; have := HL4.out; simp; omega
    rw [← hal] at T
    have HAL := Lib.hid hal; have HA5 := Lib.hid hal500
    clear hal hal500
    have T2 := T.vecNil 35 2
    have HT := Lib.hid T2; clear T T2
    go_wp2_with fail
    go_loopw [8, 28] (fun u8 u28 wr => ∃ k : Nat, u28 = .int .i64 k ∧ k ≤ pv.length ∧ Sts w F wr (vecR 35 2 u8 (P.take k).flatten.length (vl IV (P.take k).flatten) :: vecR 35 2 u7 al.length (vl IV al) :: rowR gx (IV x) :: vecR 30 1 (.slice Ap pv.length cp) pv.length (vl PV pv) :: packR (pv.map ptR) :: rowR g (docC vi vc vd) :: vecR 35 2 vi items.length (vl IV items) :: vecR 47 14 vc calls.length (vl CV calls) :: vecR 35 2 vd dn.length (vl IV dn) :: R)) (fun _ u28 _ => pv.length - (intOf u28).toNat)
    case atStart => exact ⟨0, rfl, by omega, by simp only [List.take_zero, List.flatten_nil, List.length_nil, vl_nil]; exact HT.out⟩
    case round =>
      clear HT
      obtain ⟨k, hrel⟩ := hrel
      obtain ⟨rfl, hk, T⟩ := hrel
      by_cases hkp : k < pv.length
      · have hk1 : (k : Int) < (pv.length : Int) := by omega
        have hk0 : (0 : Int) ≤ (k : Int) := by omega
        obtain ⟨p, hp⟩ : ∃ p, pv[k]? = some p := ⟨pv[k]'hkp, List.getElem?_eq_getElem _⟩
        have hPk : P[k]? = some p.2 := by rw [← HPV.out, List.getElem?_map, hp]; rfl
        obtain ⟨gp, B, dB, rfl, hcell, hpB⟩ := part_at (T.ord [3, 4, 0, 1, 2]) hp
        have hlt := World.block_lt_of_cell? _ _ hcell
        have hp1 : p.2.length ≤ 1000 := Nat.le_trans (HPL.out.2.2 p.2 (List.mem_of_getElem? hPk)) hits
        have hfl : (P.take k).flatten.length + p.2.length ≤ 1000 := by
          have h1 := congrArg (fun l => l.flatten.length) (HP.out.split hPk)
          simp only [List.flatten_append, List.flatten_cons, List.length_append] at h1
          have := HPL.out.1
          omega
        obtain ⟨fl, hfe⟩ : ∃ v, v = (P.take k).flatten := ⟨_, rfl⟩
        rw [← hfe] at T hfl
        have HFE := Lib.hid hfe; clear hfe
        have HT := Lib.hid T; have HPp := Lib.hid hp; have HPK := Lib.hid hPk; have HPB := Lib.hid hpB; have HP1 := Lib.hid hp1; have HFL := Lib.hid hfl
        clear T hp hPk hpB hp1 hfl
        go_wp2_with fail
        clear hcell hlt
        go_loopw [34] (fun u34 wr => ∃ i : Nat, u34 = .int .i64 i ∧ i ≤ p.2.length ∧ Sts w F wr (vecR 35 2 u8 fl.length (vl IV fl) :: vecR 35 2 u7 al.length (vl IV al) :: rowR gx (IV x) :: vecR 30 1 (.slice (some ⟨gp, 0, none⟩) pv.length cp) pv.length (vl PV pv) :: packR (pv.map ptR) :: rowR g (docC vi vc vd) :: vecR 35 2 vi items.length (vl IV items) :: vecR 47 14 vc calls.length (vl CV calls) :: vecR 35 2 vd dn.length (vl IV dn) :: R)) (fun u34 _ => p.2.length - (intOf u34).toNat)
        case atStart => exact ⟨0, rfl, by omega, HT.out⟩
        case round =>
          clear HT
          obtain ⟨i, hrel⟩ := hrel
          obtain ⟨rfl, hi1, T⟩ := hrel
          by_cases hil : i < p.2.length
          · have hil1 : (i : Int) < (p.2.length : Int) := by omega
            have hi0 : (0 : Int) ≤ (i : Int) := by omega
            obtain ⟨y, hy⟩ : ∃ y, p.2[i]? = some y := ⟨p.2[i]'hil, List.getElem?_eq_getElem _⟩
            obtain ⟨gB, rfl, hld⟩ := part_item (T.ord [3, 4, 0, 1, 2]) HPp.out HPB.out (by have := HP1.out; omega) hy
            have T2 := T.new (IV y) 35
            have HT := Lib.hid T2; have HY := Lib.hid hy; have HIL := Lib.hid hil
            have HYM := Lib.hid (List.mem_of_getElem? hy)
            clear T T2 hy
            go_upto_region 9 with fail
            generalize wr.alloc _ = w4 at *
            generalize wr.heap.size = gy at *
            clear hld
            go_cut [62] from 39 to 62 (fun u62 wx => u62 = .bool false ∧ Sts w F wx (rowR gy (IV y) :: vecR 35 2 u8 fl.length (vl IV fl) :: vecR 35 2 u7 al.length (vl IV al) :: rowR gx (IV x) :: vecR 30 1 (.slice (some ⟨gp, 0, none⟩) pv.length cp) pv.length (vl PV pv) :: packR (pv.map ptR) :: rowR g (docC vi vc vd) :: vecR 35 2 vi items.length (vl IV items) :: vecR 47 14 vc calls.length (vl CV calls) :: vecR 35 2 vd dn.length (vl IV dn) :: R))
            case first =>
              -- FIRST{
              have HHA := Lib.hid (docHasR u7 al (by have := HA5.out; omega) y)
              rw [show inB y al = true by rw [HAL.out]; exact HP.out.all HG.out HPK.out HYM.out] at HHA
              have HHS := Lib.hid (docHasR u8 fl (by have := HFL.out; omega) y)
              rw [show inB y fl = false by rw [HFE.out]; exact HP.out.fresh HPK.out HYM.out] at HHS
              have hym : y ∈ items := com_mem HD.out (HP.out.com y (HP.out.inP HPK.out HYM.out))
              by_cases hi00 : i = 0
              · subst hi00
                have FS : ∀ W' R', Sts w F W' (rowR gy (IV y) :: R') → row? W' gy = some (IV y) := fun W' R' T => T.row
                have HFS := Lib.hid FS
                have HT2 := Lib.hid HT.out.drew
                have S0 := FS _ _ HT2.out
                clear FS HT
                refine wp_region_held_drew (S := fun W' => row? W' gy = some (IV y)) (by kernel_rfl) S0 (fun hHeld => ?_)
                clear S0
                refine tkH 0 rfl (v := ?_) ?_ ?_
                rotate_left
                · intro w h; (try dsimp only at h); go_simp; try with_reducible rfl
                simp only [Act.put, List.getElem_toArray, List.getElem_cons_zero, List.setIfInBounds_toArray, List.set_cons_zero, List.set_cons_succ]
                refine tkH 1 rfl (v := ?_) ?_ ?_
                rotate_left
                · intro w h; (try dsimp only at h); go_simp; try with_reducible rfl
                go_frame
                refine wpAnyH_ready (rs := [2]) (by kernel_rfl) (by simp) ?_
                refine AllReadyH.cons (o := _) rfl (fun K hK => ?_) AllReadyH.nil
                go_simp
                refine (HHA.out.at1 (by have T0 := HT2.out.ord [2, 0, 1]; exact T0)).mono ?_
                rintro e9 w9 ⟨rfl, hb⟩
                have T := HT2.out.pure hb
                refine hK.out _ _ (HFS.out _ _ T) (fun hHeld => ?_)
                clear hK K hb HT2
                have HT2 := Lib.hid T; clear T
                refine tkH 3 rfl (v := ?_) ?_ ?_
                rotate_left
                · intro w h; (try dsimp only at h); go_simp; try with_reducible rfl
                simp only [Act.put, List.getElem_toArray, List.getElem_cons_succ, List.getElem_cons_zero, List.setIfInBounds_toArray, List.set_cons_zero, List.set_cons_succ]
                refine tkH 4 rfl (v := ?_) ?_ ?_
                rotate_left
                · intro w h; (try dsimp only at h); go_simp; try with_reducible rfl
                go_frame
                refine tkH 5 rfl (v := ?_) ?_ ?_
                rotate_left
                · intro w h; (try dsimp only at h); go_simp; try with_reducible rfl
                go_frame
                refine tkH 6 rfl (v := ?_) ?_ ?_
                rotate_left
                · intro w h; (try dsimp only at h); go_simp; try with_reducible rfl
                go_frame
                refine wpAnyH_ready (rs := [7]) (by kernel_rfl) (by simp) ?_
                refine AllReadyH.cons (o := _) rfl (fun K hK => ?_) AllReadyH.nil
                go_simp
                refine (HHS.out.at1 (by have T0 := HT2.out.ord [1, 0]; exact T0)).mono ?_
                rintro e9 w9 ⟨rfl, hb⟩
                have T := HT2.out.pure hb
                refine hK.out _ _ (HFS.out _ _ T) (fun hHeld => ?_)
                clear hK K hb HT2
                have HT2 := Lib.hid T; clear T
                refine tkH 8 rfl (v := ?_) ?_ ?_
                rotate_left
                · intro w h; (try dsimp only at h); go_simp; try with_reducible rfl
                simp only [Act.put, List.getElem_toArray, List.getElem_cons_succ, List.getElem_cons_zero, List.setIfInBounds_toArray, List.set_cons_zero, List.set_cons_succ]
                refine tkH 9 rfl (v := ?_) ?_ ?_
                rotate_left
                · intro w h; (try dsimp only at h); go_simp; try with_reducible rfl
                go_frame
                refine tkH 10 rfl (v := ?_) ?_ ?_
                rotate_left
                · intro w h; (try dsimp only at h); go_simp; try with_reducible rfl
                go_frame
                refine tkH 11 rfl (v := ?_) ?_ ?_
                rotate_left
                · intro w h; (try dsimp only at h); go_simp; try with_reducible rfl
                go_frame
                refine tkH 12 rfl (v := ?_) ?_ ?_
                rotate_left
                · intro w h; (try dsimp only at h); go_simp; try with_reducible rfl
                go_frame
                refine skH 13 rfl ?_
                simp only [Act.put, List.getElem_toArray, List.getElem_cons_succ, List.getElem_cons_zero, List.setIfInBounds_toArray, List.set_cons_zero, List.set_cons_succ]
                refine skH 14 rfl ?_
                go_frame
                refine skH 15 rfl ?_
                go_frame
                refine skH 16 rfl ?_
                go_frame
                refine skH 17 rfl ?_
                go_frame
                refine skH 18 rfl ?_
                go_frame
                refine skH 19 rfl ?_
                go_frame
                refine skH 20 rfl ?_
                go_frame
                refine skH 21 rfl ?_
                go_frame
                refine tkH 22 rfl (v := ?_) ?_ ?_
                rotate_left
                · intro w h; (try dsimp only at h); go_simp; try with_reducible rfl
                simp only [Act.put, List.getElem_toArray, List.getElem_cons_succ, List.getElem_cons_zero, List.setIfInBounds_toArray, List.set_cons_zero, List.set_cons_succ]
                refine tkH 23 rfl (v := ?_) ?_ ?_
                rotate_left
                · intro w h; (try dsimp only at h); go_simp; try with_reducible rfl
                go_frame
                refine wpAnyH_done (by kernel_rfl) ?_ _
                simp only [Exit.then]
                go_step
                go_meet
                case rel => exact ⟨rfl, HT2.out⟩
              · obtain ⟨i1, hi1e⟩ : ∃ i1, i = i1 + 1 := ⟨i - 1, by omega⟩
                obtain ⟨u, hu⟩ : ∃ u, p.2[i1]? = some u := ⟨p.2[i1]'(by omega), List.getElem?_eq_getElem _⟩
                have hum : u ∈ items := com_mem HD.out (HP.out.com u (HP.out.inP HPK.out (List.mem_of_getElem? hu)))
                have HBE := Lib.hid (docBeforeR g vi vc vd items calls dn HD.out.len HD.out.lc HD.out.get u y hum hym)
                rw [HP.out.before HPK.out hu (by rw [← hi1e]; exact HY.out)] at HBE
                have FS : ∀ W' R', Sts w F W' (vecR 30 1 (.slice (some ⟨gp, 0, none⟩) pv.length cp) pv.length (vl PV pv) :: packR (pv.map ptR) :: rowR gy (IV y) :: R') → (row? W' gy = some (IV y) ∧ loadVal Try.prog 35 2 W' (.pointer (some ⟨gB, i1 * 2, none⟩)) = .ok (.agg (IV u)) W') := fun W' R' T => by
                  obtain ⟨g2, e, h⟩ := part_item T HPp.out HPB.out (by have := HP1.out; omega) hu
                  injection e with e
                  injection e with e
                  subst e
                  exact ⟨T.row2, h⟩
                have HFS := Lib.hid FS
                have HT2 := Lib.hid (HT.out.drew.ord [4, 5, 0, 1, 2, 3])
                have S0 := FS _ _ HT2.out
                have hw : IntKind.i64.wrap ((i : Int) - 1) = (i1 : Int) := by rw [IntKind.wrap_i64] <;> (have := HP1.out; omega)
                have hi11 : (i1 : Int) < (p.2.length : Int) := by omega
                have hi12 : (0 : Int) ≤ (i1 : Int) := by omega
                have hi13 : i1 < p.2.length := by omega
                have hi15 : (0 : Int) < (i : Int) := by omega
                have hi16 : 0 < i := by omega
                clear hi1e hi00
                clear FS HT hu
                refine wp_region_held_drew (S := fun W' => (row? W' gy = some (IV y) ∧ loadVal Try.prog 35 2 W' (.pointer (some ⟨gB, i1 * 2, none⟩)) = .ok (.agg (IV u)) W')) (by kernel_rfl) S0 (fun hHeld => ?_)
                clear S0
                refine tkH 0 rfl (v := ?_) ?_ ?_
                rotate_left
                · intro w h; (try dsimp only at h); go_simp; try with_reducible rfl
                simp only [Act.put, List.getElem_toArray, List.getElem_cons_zero, List.setIfInBounds_toArray, List.set_cons_zero, List.set_cons_succ]
                refine tkH 1 rfl (v := ?_) ?_ ?_
                rotate_left
                · intro w h; (try dsimp only at h); go_simp; try with_reducible rfl
                go_frame
                refine wpAnyH_ready (rs := [2]) (by kernel_rfl) (by simp) ?_
                refine AllReadyH.cons (o := _) rfl (fun K hK => ?_) AllReadyH.nil
                go_simp
                refine (HHA.out.at1 (by have T0 := HT2.out.ord [4, 0, 1, 2, 3]; exact T0)).mono ?_
                rintro e9 w9 ⟨rfl, hb⟩
                have T := HT2.out.pure hb
                refine hK.out _ _ (HFS.out _ _ T) (fun hHeld => ?_)
                clear hK K hb HT2
                have HT2 := Lib.hid T; clear T
                refine tkH 3 rfl (v := ?_) ?_ ?_
                rotate_left
                · intro w h; (try dsimp only at h); go_simp; try with_reducible rfl
                simp only [Act.put, List.getElem_toArray, List.getElem_cons_succ, List.getElem_cons_zero, List.setIfInBounds_toArray, List.set_cons_zero, List.set_cons_succ]
                refine tkH 4 rfl (v := ?_) ?_ ?_
                rotate_left
                · intro w h; (try dsimp only at h); go_simp; try with_reducible rfl
                go_frame
                refine tkH 5 rfl (v := ?_) ?_ ?_
                rotate_left
                · intro w h; (try dsimp only at h); go_simp; try with_reducible rfl
                go_frame
                refine tkH 6 rfl (v := ?_) ?_ ?_
                rotate_left
                · intro w h; (try dsimp only at h); go_simp; try with_reducible rfl
                go_frame
                refine wpAnyH_ready (rs := [7]) (by kernel_rfl) (by simp) ?_
                refine AllReadyH.cons (o := _) rfl (fun K hK => ?_) AllReadyH.nil
                go_simp
                refine (HHS.out.at1 (by have T0 := HT2.out.ord [3, 0, 1, 2]; exact T0)).mono ?_
                rintro e9 w9 ⟨rfl, hb⟩
                have T := HT2.out.pure hb
                refine hK.out _ _ (HFS.out _ _ T) (fun hHeld => ?_)
                clear hK K hb HT2
                have HT2 := Lib.hid T; clear T
                refine tkH 8 rfl (v := ?_) ?_ ?_
                rotate_left
                · intro w h; (try dsimp only at h); go_simp; try with_reducible rfl
                simp only [Act.put, List.getElem_toArray, List.getElem_cons_succ, List.getElem_cons_zero, List.setIfInBounds_toArray, List.set_cons_zero, List.set_cons_succ]
                refine tkH 9 rfl (v := ?_) ?_ ?_
                rotate_left
                · intro w h; (try dsimp only at h); go_simp; try with_reducible rfl
                go_frame
                refine tkH 10 rfl (v := ?_) ?_ ?_
                rotate_left
                · intro w h; (try dsimp only at h); go_simp; try with_reducible rfl
                go_frame
                refine tkH 11 rfl (v := ?_) ?_ ?_
                rotate_left
                · intro w h; (try dsimp only at h); go_simp; try with_reducible rfl
                go_frame
                refine tkH 12 rfl (v := ?_) ?_ ?_
                rotate_left
                · intro w h; (try dsimp only at h); go_simp; try with_reducible rfl
                go_frame
                refine tkH 13 rfl (v := ?_) ?_ ?_
                rotate_left
                · intro w h; (try dsimp only at h); go_simp; try with_reducible rfl
                go_frame
                refine tkH 14 rfl (v := ?_) ?_ ?_
                rotate_left
                · intro w h; (try dsimp only at h); go_simp; try with_reducible rfl
                go_frame
                refine tkH 15 rfl (v := ?_) ?_ ?_
                rotate_left
                · intro w h; (try dsimp only at h); go_simp; try with_reducible rfl
                go_frame
                refine tkH 16 rfl (v := ?_) ?_ ?_
                rotate_left
                · intro w h; (try dsimp only at h); go_simp; try with_reducible rfl
                go_frame
                refine tkH 17 rfl (v := ?_) ?_ ?_
                rotate_left
                · intro w h; (try dsimp only at h); go_simp; try with_reducible rfl
                go_frame
                refine tkH 18 rfl (v := ?_) ?_ ?_
                rotate_left
                · intro w h; (try dsimp only at h); go_simp; try with_reducible rfl
                go_frame
                refine tkH 19 rfl (v := ?_) ?_ ?_
                rotate_left
                · intro w h; (try dsimp only at h); go_simp; try with_reducible rfl
                go_frame
                refine wpAnyH_ready (rs := [20]) (by kernel_rfl) (by simp) ?_
                refine AllReadyH.cons (o := _) rfl (fun K hK => ?_) AllReadyH.nil
                go_simp
                refine (HBE.out.at (R := vecR 30 1 (.slice (some ⟨gp, 0, none⟩) pv.length cp) pv.length (vl PV pv) :: _) (by have T0 := HT2.out.ord [6, 7, 8, 9, 0, 1, 2, 3, 4, 5]; exact T0)).mono ?_
                rintro e9 w9 ⟨rfl, hb⟩
                have T := HT2.out.pure hb
                refine hK.out _ _ (HFS.out _ _ T) (fun hHeld => ?_)
                clear hK K hb HT2
                have HT2 := Lib.hid T; clear T
                refine tkH 21 rfl (v := ?_) ?_ ?_
                rotate_left
                · intro w h; (try dsimp only at h); go_simp; try with_reducible rfl
                simp only [Act.put, List.getElem_toArray, List.getElem_cons_succ, List.getElem_cons_zero, List.setIfInBounds_toArray, List.set_cons_zero, List.set_cons_succ]
                refine tkH 22 rfl (v := ?_) ?_ ?_
                rotate_left
                · intro w h; (try dsimp only at h); go_simp; try with_reducible rfl
                go_frame
                refine tkH 23 rfl (v := ?_) ?_ ?_
                rotate_left
                · intro w h; (try dsimp only at h); go_simp; try with_reducible rfl
                go_frame
                refine wpAnyH_done (by kernel_rfl) ?_ _
                simp only [Exit.then]
                go_step
                go_meet
                case rel => exact ⟨rfl, HT2.out.ord [2, 3, 4, 5, 0, 1]⟩
              -- }FIRST
            case rest =>
              obtain ⟨rfl, T⟩ := hcut
              clear HT
              have ry := T.row; have ly0 := row_lt ry
              have HRC := Lib.hid (docReachT HG.out g vi vc vd items calls dn HD.out y (R := rowR gy (IV y) :: vecR 35 2 u8 fl.length (vl IV fl) :: vecR 35 2 u7 al.length (vl IV al) :: rowR gx (IV x) :: vecR 30 1 (.slice (some ⟨gp, 0, none⟩) pv.length cp) pv.length (vl PV pv) :: packR (pv.map ptR) :: R) (by have T0 := T.ord [6, 7, 8, 9, 0, 1, 2, 3, 4, 5]; exact T0))
              clear T
              go_wp2_with fail
              refine HRC.out.mono ?_
              clear HRC ry ly0
              rintro e13 w13 ⟨v13, rfl, T⟩
              have T : Sts w F w13 (vecR 35 2 v13 (reachL m q y).length (vl IV (reachL m q y)) :: rowR g (docC vi vc vd) :: vecR 35 2 vi items.length (vl IV items) :: vecR 47 14 vc calls.length (vl CV calls) :: vecR 35 2 vd dn.length (vl IV dn) :: rowR gy (IV y) :: vecR 35 2 u8 fl.length (vl IV fl) :: vecR 35 2 u7 al.length (vl IV al) :: rowR gx (IV x) :: vecR 30 1 (.slice (some ⟨gp, 0, none⟩) pv.length cp) pv.length (vl PV pv) :: packR (pv.map ptR) :: R) := T
              have hry := (reach_inv (q := q) (x := y) HG.out).len
              have HRM := Lib.hid (show ∀ t z, (reachL m q y)[t]? = some z → z ∈ reachL m q y from fun t z h => List.mem_of_getElem? h)
              obtain ⟨ly, hly⟩ : ∃ v, v = reachL m q y := ⟨_, rfl⟩
              rw [← hly] at T hry HRM
              obtain ⟨nly, hnly⟩ : ∃ v, v = ly.length := ⟨_, rfl⟩
              rw [← hnly] at T hry
              obtain ⟨Ay, cy, rfl⟩ := vec_shape2 T
              have HLY := Lib.hid hly; have HNLY := Lib.hid hnly
              have HT := Lib.hid (T.ord [0, 5, 6, 7, 8, 9, 10, 1, 2, 3, 4])
              clear T hly hnly
              go_wp2_with fail
              go_loopw [68] (fun u68 wx => ∃ t : Nat, u68 = .int .i64 t ∧ t ≤ nly ∧ Sts w F wx (vecR 35 2 (.slice Ay nly cy) nly (vl IV ly) :: rowR gy (IV y) :: vecR 35 2 u8 fl.length (vl IV fl) :: vecR 35 2 u7 al.length (vl IV al) :: rowR gx (IV x) :: vecR 30 1 (.slice (some ⟨gp, 0, none⟩) pv.length cp) pv.length (vl PV pv) :: packR (pv.map ptR) :: rowR g (docC vi vc vd) :: vecR 35 2 vi items.length (vl IV items) :: vecR 47 14 vc calls.length (vl CV calls) :: vecR 35 2 vd dn.length (vl IV dn) :: R)) (fun u68 _ => nly - (intOf u68).toNat)
              case atStart => exact ⟨0, rfl, by omega, HT.out⟩
              case round =>
                clear HT
                obtain ⟨t, hrel⟩ := hrel
                obtain ⟨rfl, ht, T⟩ := hrel
                by_cases htl : t < nly
                · have ht1 : (t : Int) < (nly : Int) := by omega
                  have ht0 : (0 : Int) ≤ (t : Int) := by omega
                  obtain ⟨z, hz⟩ : ∃ z, ly[t]? = some z := ⟨ly[t]'(by rw [← HNLY.out]; exact htl), List.getElem?_eq_getElem _⟩
                  obtain ⟨gl, rfl, hld⟩ := vec_load (P := Try.prog) (e := 35) TItem_size (by omega) TItem_und rfl (by kernel_rfl) T HNLY.out hz (by omega)
                  have hzm := HRM.out t z hz
                  rw [HLY.out] at hzm
                  have T2 := T.new (IV z) 35
                  have HT := Lib.hid (T2.ord [0, 2, 1]); have HZM := Lib.hid hzm
                  clear T T2 hz hzm
                  go_upto_region 15 with fail
                  generalize wr.alloc _ = w14 at *
                  generalize wr.heap.size = gz at *
                  clear hld
                  have rz := HT.out.row; have lz := row_lt rz
                  have ry := HT.out.row1; have ly1 := row_lt ry
                  cases hzy : eqA (IV z) (IV y)
                  case true =>
                    go_wp2_with fail
                    go_roundw
                    case rel => exact ⟨t + 1, by go_num, by omega, (HT.out.ord [0, 2, 1]).drop⟩
                    case measure => simp [intOf]; omega
                  case false =>
                    have hne : z ≠ y := fun e => by rw [e, eqA_refl] at hzy; cases hzy
                    have HMU := Lib.hid (HP.out.mutual HG.out HPK.out HYM.out HZM.out hne)
                    have hah := HP.out.ahead HG.out HPK.out HYM.out HZM.out hne
                    rw [← HFE.out] at hah
                    have HAH := Lib.hid hah; clear hah
                    clear hne
                    go_upto_region 16 with fail
                    clear rz lz ry ly1
                    have FS : ∀ W' R', Sts w F W' (rowR gz (IV z) :: rowR gy (IV y) :: R') → (row? W' gz = some (IV z) ∧ row? W' gy = some (IV y)) := fun W' R' T => ⟨T.row, T.row1⟩
                    have HFS := Lib.hid FS
                    have HT2 := Lib.hid HT.out.drew
                    have S0 := FS _ _ HT2.out
                    clear FS HT
                    refine wp_region_held_drew (S := fun W' => (row? W' gz = some (IV z) ∧ row? W' gy = some (IV y))) (by kernel_rfl) S0 (fun hHeld => ?_)
                    clear S0
                    refine tkH 0 rfl (v := ?_) ?_ ?_
                    rotate_left
                    · intro w h; (try dsimp only at h); go_simp; try with_reducible rfl
                    simp only [Act.put, List.getElem_toArray, List.getElem_cons_zero, List.setIfInBounds_toArray, List.set_cons_zero, List.set_cons_succ]
                    refine tkH 1 rfl (v := ?_) ?_ ?_
                    rotate_left
                    · intro w h; (try dsimp only at h); go_simp; try with_reducible rfl
                    go_frame
                    refine tkH 3 rfl (v := ?_) ?_ ?_
                    rotate_left
                    · intro w h; (try dsimp only at h); go_simp; try with_reducible rfl
                    go_frame
                    refine wpAnyH_ready (rs := [2]) (by kernel_rfl) (by simp) ?_
                    refine AllReadyH.cons (o := _) rfl (fun K hK => ?_) AllReadyH.nil
                    go_simp
                    refine (docReachT HG.out g vi vc vd items calls dn HD.out z (R := rowR gz (IV z) :: rowR gy (IV y) :: vecR 35 2 (.slice (some ⟨gl, 0, none⟩) nly cy) nly (vl IV ly) :: vecR 35 2 u8 fl.length (vl IV fl) :: vecR 35 2 u7 al.length (vl IV al) :: rowR gx (IV x) :: vecR 30 1 (.slice (some ⟨gp, 0, none⟩) pv.length cp) pv.length (vl PV pv) :: packR (pv.map ptR) :: R) (by have T0 := HT2.out.ord [8, 9, 10, 11, 0, 1, 2, 3, 4, 5, 6, 7]; exact T0)).mono ?_
                    clear HT2
                    rintro e16 w16 ⟨v16, rfl, T⟩
                    have T : Sts w F w16 (vecR 35 2 v16 (reachL m q z).length (vl IV (reachL m q z)) :: rowR g (docC vi vc vd) :: vecR 35 2 vi items.length (vl IV items) :: vecR 47 14 vc calls.length (vl CV calls) :: vecR 35 2 vd dn.length (vl IV dn) :: rowR gz (IV z) :: rowR gy (IV y) :: vecR 35 2 (.slice (some ⟨gl, 0, none⟩) nly cy) nly (vl IV ly) :: vecR 35 2 u8 fl.length (vl IV fl) :: vecR 35 2 u7 al.length (vl IV al) :: rowR gx (IV x) :: vecR 30 1 (.slice (some ⟨gp, 0, none⟩) pv.length cp) pv.length (vl PV pv) :: packR (pv.map ptR) :: R) := T
                    have T2 := T.ord [5, 6, 0, 7, 8, 9, 10, 11, 12, 1, 2, 3, 4]
                    refine hK.out _ _ (HFS.out _ _ T2) (fun hHeld => ?_)
                    clear hK K T
                    have HHS := Lib.hid (docHasR v16 (reachL m q z) (by have := (reach_inv (q := q) (x := z) HG.out).len; omega) y)
                    generalize inB y (reachL m q z) = mu at *
                    have HT2 := Lib.hid T2; clear T2
                    refine wpAnyH_ready (rs := [4]) (by kernel_rfl) (by simp) ?_
                    refine AllReadyH.cons (o := _) rfl (fun K hK => ?_) AllReadyH.nil
                    go_simp
                    refine (HHS.out.at1 (by have T0 := HT2.out.ord [2, 0, 1]; exact T0)).mono ?_
                    rintro e17 w17 ⟨rfl, hb⟩
                    have T := HT2.out.pure hb
                    refine hK.out _ _ (HFS.out _ _ T) (fun hHeld => ?_)
                    clear hK K hb HT2 HHS HFS
                    have HT := Lib.hid (T.ord [2, 0, 1]).drop; clear T
                    refine tkH 5 rfl (v := ?_) ?_ ?_
                    rotate_left
                    · intro w h; (try dsimp only at h); go_simp; try with_reducible rfl
                    simp only [Act.put, List.getElem_toArray, List.getElem_cons_succ, List.getElem_cons_zero, List.setIfInBounds_toArray, List.set_cons_zero, List.set_cons_succ]
                    refine wpAnyH_done (by kernel_rfl) ?_ _
                    try simp only [Exit.then]
                    have rz := HT.out.row; have lz := row_lt rz
                    have HHP := Lib.hid (docHasIn (some ⟨gB, 0, none⟩) dB p.2 (by have := HP1.out; omega) z w17 (part_rows (HT.out.ord [6, 7, 0, 1, 2, 3, 4, 5]) HPp.out HPB.out (by have := HP1.out; omega)))
                    rw [← HMU.out] at HHP
                    have HHE := Lib.hid (docHasR u8 fl (by have := HFL.out; omega) z)
                    go_wp2_with fail
                    refine HHP.out.mono ?_
                    clear HHP rz lz
                    rintro e18 w18 ⟨rfl, hb⟩
                    have T := HT.out.pure hb
                    clear HT hb
                    have rz := T.row; have lz := row_lt rz
                    have HT := Lib.hid T; clear T
                    cases mu
                    case true =>
                      clear HHE
                      go_wp2_with fail
                      go_roundw
                      case rel => exact ⟨t + 1, by go_num, by omega, (HT.out.ord [0, 2, 1]).drop⟩
                      case measure => simp [intOf]; omega
                    case false =>
                      rw [HAH.out rfl] at HHE
                      go_wp2_with fail
                      refine (HHE.out.at1 (by have T0 := HT.out.ord [3, 0, 1, 2]; exact T0)).mono ?_
                      clear HHE rz lz
                      rintro e19 w19 ⟨rfl, hb⟩
                      have T := HT.out.pure hb
                      clear HT hb
                      have HT := Lib.hid T; clear T
                      go_wp2_with fail
                      go_roundw
                      case rel => exact ⟨t + 1, by go_num, by omega, (HT.out.ord [0, 2, 1]).drop⟩
                      case measure => simp [intOf]; omega
                · have ht1 : ¬ (t : Int) < (nly : Int) := by omega
                  have HT := Lib.hid T.drop.drop; clear T
                  have hw : IntKind.i64.wrap ((i : Int) + 1) = ((i + 1 : Nat) : Int) := by rw [IntKind.wrap_i64] <;> (have := HP1.out; have := HIL.out; omega)
                  go_wp2_with fail
                  go_roundw
                  case rel => exact ⟨i + 1, by go_num, by have := HIL.out; omega, HT.out⟩
                  case measure => simp [intOf]; have := HIL.out; omega
          · have hil1 : ¬ (i : Int) < (p.2.length : Int) := by omega
            have hB : ∃ gB, B = some ⟨gB, 0, none⟩ := by
              have hne := HP.out.ne p.2 (List.mem_of_getElem? HPK.out)
              have h0 : 0 < p.2.length := List.length_pos_iff.2 hne
              obtain ⟨gB, e, -⟩ := part_item (T.ord [3, 4, 0, 1, 2]) HPp.out HPB.out (by have := HP1.out; omega) (List.getElem?_eq_getElem h0)
              exact ⟨gB, e⟩
            obtain ⟨gB, rfl⟩ := hB
            have T2 : Sts w F wr (ptR p :: _) := ((T.ord [4, 0, 1, 2, 3])).pick HPp.out
            have hq : ptR p = vecR 35 2 (.slice (some ⟨gB, 0, none⟩) p.2.length dB) p.2.length (vl IV p.2) := by unfold ptR; rw [HPB.out]
            rw [hq] at T2
            have hne := HP.out.ne p.2 (List.mem_of_getElem? HPK.out)
            have h0 : 0 < p.2.length := List.length_pos_iff.2 hne
            obtain ⟨hlen, hnews, hone⟩ := vec_news rfl h0 rfl T2
            have HT := Lib.hid T; have HNW := Lib.hid hnews; have HLE := Lib.hid hlen; have H1 := Lib.hid hone
            clear T T2 hq hne h0 hnews hlen hone
            have hw : IntKind.i64.wrap ((k : Int) + 1) = ((k + 1 : Nat) : Int) := by
              have h1 := congrArg List.length HPV.out
              rw [List.length_map] at h1
              have := HPL.out.2.1
              rw [IntKind.wrap_i64] <;> omega
            have h63 : fl.length + p.2.length ≤ maxLen := by unfold maxLen; have := HFL.out; omega
            have hby : (fl.length + p.2.length) * 16 ≤ 140737488355328 := by have := HFL.out; omega
            go_wp2_with (at_builtin; refine wpList_append_vec rfl _ _ 30 rfl 35 i0 _ 2 16 Try.underlying30 hi hz0 hz1 hz2 rfl (by omega) _ _ _ rfl HT.out ⟨gB, 0, none⟩ p.2.length dB (vl IV p.2) rfl HLE.out HNW.out H1.out h63 hby ?_)
            intro v21 w21 T21
            have happ : vl IV fl ++ vl IV p.2 = vl IV (P.take (k + 1)).flatten := by
              have e : (P.take (k + 1)).flatten = fl ++ p.2 := by rw [HFE.out, List.take_add_one, HPK.out, List.flatten_append]; simp
              rw [e]
              unfold vl; rw [flatV_append, Array.toList_append]
            have hln : fl.length + p.2.length = (P.take (k + 1)).flatten.length := by
              rw [HFE.out, List.take_add_one, HPK.out, List.flatten_append, List.length_append]; simp
            rw [happ, hln] at T21
            have HT2 := Lib.hid T21
            clear T21 HT HNW HLE H1 h63 hby happ hln
            go_wp2_with fail
            go_roundw
            case rel => exact ⟨k + 1, by go_num, by omega, HT2.out⟩
            case measure => simp [intOf]; omega
      · have hk1 : ¬ (k : Int) < (pv.length : Int) := by omega
        have hk2 : (P.take k).flatten.length = P.flatten.length := by
          have h1 := congrArg List.length HPV.out
          rw [List.length_map] at h1
          rw [List.take_of_length_le (by omega)]
        obtain ⟨A8, c8, rfl⟩ := vec_shape2 T
        obtain ⟨nf, hnf⟩ : ∃ v, v = (P.take k).flatten.length := ⟨_, rfl⟩
        rw [← hnf] at T hk2
        obtain ⟨na, hna⟩ : ∃ v, v = al.length := ⟨_, rfl⟩
        rw [← hna] at T
        obtain ⟨Aa, ca, rfl⟩ := vec_shape2 (T.ord [1, 0])
        have HT := Lib.hid T.drop; have HNA := Lib.hid hna; have HNF := Lib.hid hk2
        have hn5 : na ≤ 500 := by rw [hna]; exact HA5.out
        rw [← hnf]
        clear T hna hk2 hnf
        go_wp2_with fail
        go_loopw [17, 103] (fun u17 u103 wx => ∃ (i n : Nat), u103 = .int .i64 i ∧ u17 = .int .i64 n ∧ i ≤ na ∧ n ≤ i ∧ n = (addL (al.take i) []).length ∧ Sts w F wx (vecR 35 2 (.slice Aa na ca) na (vl IV al) :: rowR gx (IV x) :: vecR 30 1 (.slice Ap pv.length cp) pv.length (vl PV pv) :: packR (pv.map ptR) :: rowR g (docC vi vc vd) :: vecR 35 2 vi items.length (vl IV items) :: vecR 47 14 vc calls.length (vl CV calls) :: vecR 35 2 vd dn.length (vl IV dn) :: R)) (fun _ u103 _ => na - (intOf u103).toNat)
        case atStart => exact ⟨0, 0, rfl, rfl, by omega, by omega, rfl, HT.out⟩
        case round =>
          clear HT
          obtain ⟨i, n, hrel⟩ := hrel
          obtain ⟨rfl, rfl, hin, hni, hn, T⟩ := hrel
          by_cases hil : i < na
          · have hil1 : (i : Int) < (na : Int) := by omega
            have hi0 : (0 : Int) ≤ (i : Int) := by omega
            obtain ⟨y, hy⟩ : ∃ y, al[i]? = some y := ⟨al[i]'(by rw [← HNA.out]; exact hil), List.getElem?_eq_getElem _⟩
            obtain ⟨ga, rfl, hld⟩ := vec_load (P := Try.prog) (e := 35) TItem_size (by omega) TItem_und rfl (by kernel_rfl) T HNA.out hy (by omega)
            have hnx := addL_take hy
            rw [← hn] at hnx
            have hca : na ≤ ca := by
              rcases T.vec.2 with ⟨h, _⟩ | ⟨g2, cap, cur, h, _, _, h3, _⟩
              · cases h
              · injection h with _ _ h
                subst h; exact h3
            have T2 := (T.new (IV y) 35)
            have HT := Lib.hid T2; have HNX := Lib.hid hnx; have HN := Lib.hid hn
            clear T T2 hy hnx hn
            go_upto_region 27 with fail
            generalize wr.alloc _ = w4 at *
            generalize wr.heap.size = gy at *
            clear hld
            have FS : ∀ W' R', Sts w F W' (rowR gy (IV y) :: R') → row? W' gy = some (IV y) := fun W' R' T => T.row
            have HFS := Lib.hid FS
            have HT2 := Lib.hid HT.out.drew
            have S0 := FS _ _ HT2.out
            have hro := (vec_in TItem_size HNA.out.symm (HT2.out.ord [1, 0]) (by omega) (by omega)).take i
            have htl : (al.take i).length = i := by rw [List.length_take, ← HNA.out]; omega
            have HHS := Lib.hid (docHasIn (some ⟨ga, 0, none⟩) ca (al.take i) (by omega) y _ hro)
            rw [htl] at HHS
            generalize inB y (al.take i) = hb at *
            have hk3 : i ≤ ca := by omega
            have hk4 : (i : Int) ≤ (ca : Int) := by omega
            clear FS HT hro htl
            refine wp_region_held_drew (S := fun W' => row? W' gy = some (IV y)) (by kernel_rfl) S0 (fun hHeld => ?_)
            clear S0
            refine tkH 0 rfl (v := ?_) ?_ ?_
            rotate_left
            · intro w h; (try dsimp only at h); go_simp; try with_reducible rfl
            simp only [Act.put, List.getElem_toArray, List.getElem_cons_zero, List.setIfInBounds_toArray, List.set_cons_zero, List.set_cons_succ]
            refine tkH 1 rfl (v := ?_) ?_ ?_
            rotate_left
            · intro w h; (try dsimp only at h); go_simp; try with_reducible rfl
            go_frame
            refine tkH 2 rfl (v := ?_) ?_ ?_
            rotate_left
            · intro w h; (try dsimp only at h); go_simp; try with_reducible rfl
            go_frame
            refine tkH 3 rfl (v := ?_) ?_ ?_
            rotate_left
            · intro w h; (try dsimp only at h); go_simp; try with_reducible rfl
            go_frame
            refine wpAnyH_ready (rs := [4]) (by kernel_rfl) (by simp) ?_
            refine AllReadyH.cons (o := _) rfl (fun K hK => ?_) AllReadyH.nil
            go_simp
            refine HHS.out.mono ?_
            clear HHS
            rintro e9 w9 ⟨rfl, hbw⟩
            have T := HT2.out.pure hbw
            refine hK.out _ _ (HFS.out _ _ T) (fun hHeld => ?_)
            clear hK K hbw HT2 HFS
            have HT := Lib.hid T.drop; clear T
            refine tkH 5 rfl (v := ?_) ?_ ?_
            rotate_left
            · intro w h; (try dsimp only at h); go_simp; try with_reducible rfl
            simp only [Act.put, List.getElem_toArray, List.getElem_cons_succ, List.getElem_cons_zero, List.setIfInBounds_toArray, List.set_cons_zero, List.set_cons_succ]
            refine wpAnyH_done (by kernel_rfl) ?_ _
            try simp only [Exit.then]
            cases hb
            case true =>
              have hnx := HNX.out
              rw [if_pos rfl] at hnx
              have HN2 := Lib.hid hnx; clear hnx HNX
              go_wp2_with fail
              go_roundw
              case rel => exact ⟨i + 1, n, by go_num, rfl, by omega, by omega, HN2.out.symm, HT.out⟩
              case measure => simp [intOf]; omega
            case false =>
              have hnx := HNX.out
              rw [if_neg (by simp)] at hnx
              have HN2 := Lib.hid hnx; clear hnx HNX
              go_wp2_with fail
              go_roundw
              case rel => exact ⟨i + 1, n + 1, by go_num, by go_num, by omega, by omega, HN2.out.symm, HT.out⟩
              case measure => simp [intOf]; omega
          · have hil1 : ¬ (i : Int) < (na : Int) := by omega
            have hn2 := hn
            rw [List.take_of_length_le (by rw [← HNA.out]; omega), HAL.out, HP.out.count HG.out] at hn2
            have heq : nf = n := by rw [hn2, HNF.out]
            subst heq
            have HT := Lib.hid T; clear T hn hn2
            go_wp2_with fail
            go_ret
            refine ⟨by simp, ?_⟩
            have T9 := (HT.out.ord [0, 1]).drop.drop
            rw [← HPV.out]
            exact Sts.paShut (T9.unpack1)
end
end Go.Proofs.Ytnjgjhjilolanaa
