/- Several texts in one. -/
import Derived.Test.YtnjgjhjilolanaaH35
import Derived.Test.YtnjgjhjilolanaaH39
/- Layer 19, the document's side: what is missing. -/
namespace Go.Proofs.Ytnjgjhjilolanaa
open Go.RowKit Go.Shelf
set_option linter.unusedVariables false
set_option maxRecDepth 20000
attribute [local go_sem] row_alloc row_drew row_drewN row_ext row_setCell row_setRow size_ext setRow_alloc setRow_drew loadOf storeOf piece_lit loadVal_at storeVal_at allOne_lit buildOf buildRes_some
attribute [local go_sem high] cell_alloc frozen_alloc setCell_alloc cell_ext frozen_ext cell_setRow frozen_setRow
attribute [local go_sem ↓] TDeed_ld0 TDeed_st0 TDeed_fd0 TDeed_bd0
attribute [local go_sem] TDeed_size TDeed_one TDeed_piece TDeed_c0 TDeed_c1 TDeed_c2 TDeed_c3 TDeed_c4 TDeed_c5 TDeed_set_kind TDeed_set_key TDeed_set_val TDeed_set_ver TDeed_set_ses TDeed_set_num TDeed_ld TDeed_st TDeed_f_kind TDeed_f_key TDeed_f_val TDeed_f_ver TDeed_f_ses TDeed_f_num TDeed_bd TDeed_fl TDeed_fl_kind TDeed_fl_key TDeed_fl_val TDeed_fl_ver TDeed_fl_ses TDeed_fl_num
attribute [local go_sem high] TDeed_eql TDeed_neq
attribute [local go_sem ↓] index_deps0 load_deps0 store_deps0
attribute [local go_sem] DV_piece DV_size DV_one index_deps load_deps store_deps
attribute [local go_sem high] TDeps_eql TDeps_neq
attribute [local go_sem ↓] TCall_ld0 TCall_st0 TCall_fd0 TCall_bd0
attribute [local go_sem] TCall_size TCall_one TCall_piece TCall_c0 TCall_c1 TCall_c2 TCall_c3 TCall_c4 TCall_c5 TCall_c6 TCall_c7 TCall_c8 TCall_c9 TCall_c10 TCall_c11 TCall_c12 TCall_c13 TCall_p_deed TCall_put_deed TCall_p_deps TCall_put_deps TCall_set_seq TCall_ld TCall_st TCall_f_deed TCall_f_deps TCall_f_seq TCall_bd TCall_fl TCall_fl_deed TCall_fl_deps TCall_fl_seq
attribute [local go_sem high] TCall_eql TCall_neq
attribute [local go_sem ↓] TItem_ld0 TItem_st0 TItem_fd0 TItem_bd0
attribute [local go_sem] TItem_size TItem_one TItem_piece TItem_c0 TItem_c1 TItem_set_rep TItem_set_num TItem_ld TItem_st TItem_f_rep TItem_f_num TItem_bd TItem_fl TItem_fl_rep TItem_fl_num
attribute [local go_sem high] TItem_eql TItem_neq
attribute [local go_sem ↓] itm_slice0
attribute [local go_sem] itm_slice1
attribute [local go_sem] itm_sliceE
attribute [local go_sem ↓] cut_hold2
section
variable {w W : World} {F : Nat → Prop} {R : List Res}
set_option maxHeartbeats 16000000 in
theorem docMisT {m : RowsMK} {q : RowsML} {its : List Item} (G : GInv m its) (g : Nat) (vi vc vd : Value) (items : List Item) (calls : List Call) (dn : List Item) (hD : DocOk m q items calls dn) (hil : items.length ≤ 1000)
    (T : Sts w F W (docL g vi vc vd items calls dn ++ R)) :
    Calls Try.prog 38 #[.pointer (some ⟨g, 0, none⟩)] W fun e W' => ∃ v p, e = .returned v ∧ MisD m q items p ∧ Sts w F W' (vecR 35 2 v p.length (vl IV p) :: (docL g vi vc vd items calls dn ++ R)) := by
  have T1 : Sts w F W (rowR g (docC vi vc vd) :: vecR 35 2 vi items.length (vl IV items) :: vecR 47 14 vc calls.length (vl CV calls) :: vecR 35 2 vd dn.length (vl IV dn) :: R) := T
  obtain ⟨Ai, ci, rfl⟩ := vec_shape2 (T1.ord [1, 0])
  have hr := T1.row; have hlt := row_lt hr
  have c0 : W.cell? ⟨g, 0, none⟩ = some (.slice Ai items.length ci) := by rw [row_cell hr 0]; rfl
  obtain ⟨PP, hPP⟩ : ∃ r, r = packR (docL g (.slice Ai items.length ci) vc vd items calls dn) := ⟨_, rfl⟩
  have hUn : ∀ W' R', Sts w F W' (PP :: R') → Sts w F W' (docL g (.slice Ai items.length ci) vc vd items calls dn ++ R') := fun W' R' T => by
    rw [hPP] at T
    exact T.unpack
  have hFin : ∀ W' (r1 : Res), Sts w F W' (PP :: r1 :: R) → Sts w F W' (r1 :: (docL g (.slice Ai items.length ci) vc vd items calls dn ++ R)) := fun W' r1 T => by
    have T4 : Sts w F W' (rowR g (docC (.slice Ai items.length ci) vc vd) :: vecR 35 2 (.slice Ai items.length ci) items.length (vl IV items) :: vecR 47 14 vc calls.length (vl CV calls) :: vecR 35 2 vd dn.length (vl IV dn) :: r1 :: R) := hUn _ _ T
    have T5 := T4.ord [4, 0, 1, 2, 3]
    exact T5
  have hPk : ∀ W' R', Sts w F W' (docL g (.slice Ai items.length ci) vc vd items calls dn ++ R') → Sts w F W' (PP :: R') := fun W' R' T => by
    rw [hPP]
    exact Sts.pack T
  have T3 := (hPk _ _ T).vecNil 35 2
  have hIT : ∀ W' R', Sts w F W' (PP :: R') → RowsIn W' Ai 2 IV items := fun W' R' T => by
    have T4 : Sts w F W' (rowR g (docC (.slice Ai items.length ci) vc vd) :: vecR 35 2 (.slice Ai items.length ci) items.length (vl IV items) :: vecR 47 14 vc calls.length (vl CV calls) :: vecR 35 2 vd dn.length (vl IV dn) :: R') := hUn _ _ T
    exact vec_in TItem_size rfl (T4.ord [1, 0]) (by omega) (by omega)
  have hOV : ∀ x W' R', Sts w F W' (PP :: R') → Calls Try.prog 19 #[.pointer (some ⟨g, 0, none⟩), .agg (IV x)] W' fun e W'' => e = .returned (.bool (getML q x).isSome) ∧ Below W'.heap.size W' W'' := fun x W' R' T => by
    have h := (docOverR g (.slice Ai items.length ci) vc vd items calls dn hD.lend x).at (hUn _ _ T)
    rw [show decide (idxN x dn < dn.length) = inB x dn from rfl, ← hD.ov x] at h
    exact h
  have hAT : ∀ x W' R', Sts w F W' (PP :: R') → Calls Try.prog 16 #[.pointer (some ⟨g, 0, none⟩), .agg (IV x)] W' fun e W'' => e = .returned (.int .i64 (idxI x items)) ∧ Below W'.heap.size W' W'' := fun x W' R' T =>
    (docAtR g (.slice Ai items.length ci) vc vd items calls dn (by omega) x).at (hUn _ _ T)
  have hRE : ∀ x W' R', Sts w F W' (PP :: R') → Calls Try.prog 20 #[.pointer (some ⟨g, 0, none⟩), .agg (IV x)] W' fun e W'' => ∃ v, e = .returned v ∧ Sts w F W'' (vecR 35 2 v (reachL m q x).length (vl IV (reachL m q x)) :: PP :: R') := fun x W' R' T => by
    refine (docReachT G g _ vc vd items calls dn hD x (hUn _ _ T)).mono ?_
    rintro e w5 ⟨v, rfl, T5⟩
    have T5 : Sts w F w5 (vecR 35 2 v (reachL m q x).length (vl IV (reachL m q x)) :: rowR g (docC (.slice Ai items.length ci) vc vd) :: vecR 35 2 (.slice Ai items.length ci) items.length (vl IV items) :: vecR 47 14 vc calls.length (vl CV calls) :: vecR 35 2 vd dn.length (vl IV dn) :: R') := T5
    have T7 := T5.ord [1, 2, 3, 4, 0]
    have T6 := hPk w5 (vecR 35 2 v (reachL m q x).length (vl IV (reachL m q x)) :: R') T7
    exact ⟨v, rfl, T6.swap⟩
  have hRA : ∀ x, (∀ y ∈ reachL m q x, y ∈ allIt) ∧ (reachL m q x).length ≤ 448 := fun x => ⟨(reach_inv (q := q) (x := x) G).all, (reach_inv (q := q) (x := x) G).len⟩
  have hMA : ∀ X p, MisD m q X p → ∀ y ∈ p, y ∈ allIt := fun X p h => h.all G
  have HT3 := Lib.hid T3; have HIT := Lib.hid hIT; have HOV := Lib.hid hOV; have HAT := Lib.hid hAT; have HRE := Lib.hid hRE; have HRA := Lib.hid hRA; have HMA := Lib.hid hMA; have HFin := Lib.hid hFin
  have HCOM := Lib.hid (fun y => hD.com y)
  obtain ⟨ni, hni⟩ : ∃ k, k = items.length := ⟨_, rfl⟩
  have HNI := Lib.hid hni
  rw [← hni] at c0 hil HFin ⊢
  obtain ⟨i0, hi, hz0, hz1, hz2⟩ := itm_i
  have HI0 := Lib.hid (And.intro hi (And.intro hz0 (And.intro hz1 hz2)))
  clear T T1 T3 hIT hOV hAT hRE hRA hMA hUn hPk hFin hPP hr hD G hni hi hz0 hz1 hz2
  go_enter Try.func38, Try.ntmps38
  go_wp2_with fail
  clear c0 hlt
  go_loopw [3, 14] (fun u3 u14 wr => ∃ (i : Nat) (p : List Item), u14 = .int .i64 i ∧ i ≤ ni ∧ MisD m q (items.take i) p ∧ Sts w F wr (vecR 35 2 u3 p.length (vl IV p) :: PP :: R)) (fun _ u14 _ => ni - (intOf u14).toNat)
  case atStart => exact ⟨0, [], rfl, Nat.zero_le _, MisD.nil m q, HT3.out⟩
  case round =>
    clear HT3
    obtain ⟨i, p0, rfl, hi, hM, T⟩ := hrel
    have HM := Lib.hid hM; clear hM
    by_cases hin : i < ni
    · have hin1 : (i : Int) < (ni : Int) := by omega
      have hi0 : (0 : Int) ≤ (i : Int) := by omega
      have hit := HIT.out _ _ T.drop
      obtain ⟨ai, rfl⟩ : ∃ a, Ai = some a := by
        cases Ai with
        | none =>
          have h2 := hit.nil rfl
          have h3 := HNI.out
          rw [h2] at h3
          simp at h3; omega
        | some a => exact ⟨a, rfl⟩
      have hld := hit.load (P := Try.prog) (T := 35) TItem_size TItem_und rfl (by kernel_rfl) (Below.refl _ _) rfl (show i < items.length by rw [← HNI.out]; exact hin)
      obtain ⟨x, hx⟩ : ∃ x, x = items[i]'(by rw [← HNI.out]; exact hin) := ⟨_, rfl⟩
      have htk : items.take (i + 1) = items.take i ++ [x] := by rw [hx, List.take_succ_eq_append_getElem]
      rw [← hx] at hld
      have HTK := Lib.hid htk
      have T2 := (T.new (IV x) 35).ord [2, 0, 1]
      have hr := T2.row1; have hlt := row_lt hr
      have HT := Lib.hid T2
      clear T T2 hit hx htk
      go_upto_region 5 with fail
      generalize wr.alloc _ = w5 at *
      generalize wr.heap.size = gx at *
      clear hld
      have HO := Lib.hid (HOV.out x _ (rowR gx (IV x) :: vecR 35 2 u3 p0.length (vl IV p0) :: R) HT.out)
      go_wp2_with fail
      refine HO.out.mono ?_
      clear HO hr hlt
      rintro e6 w6 ⟨rfl, hb⟩
      have T := HT.out.pure hb
      clear hb HT
      cases hov : (getML q x).isSome with
      | true =>
        have hM2 := HM.out.over hov
        rw [← HTK.out] at hM2
        have HM2 := Lib.hid hM2
        have HT := Lib.hid (T.ord [1, 2, 0]).drop; clear T hM2 hov
        go_wp2
        go_roundw
        case rel => exact ⟨i + 1, p0, by go_num, by omega, HM2.out, HT.out⟩
        case measure => simp [intOf]; omega
      | false =>
        have HOF := Lib.hid hov
        have hr := T.row1; have hlt := row_lt hr
        have HR := Lib.hid (HRE.out x _ (rowR gx (IV x) :: vecR 35 2 u3 p0.length (vl IV p0) :: R) T)
        obtain ⟨hLA, hL9⟩ := HRA.out x
        have hstep := fun p (h : MisJ m p0 (reachL m q x) (reachL m q x).length p) => HM.out.step HOF.out h
        generalize reachL m q x = L at *
        have HLA := Lib.hid hLA; have HST := Lib.hid hstep
        clear T hov hLA hstep
        go_wp2_with fail
        refine HR.out.mono ?_
        clear HR hr hlt
        rintro e7 w7 ⟨v, rfl, T⟩
        obtain ⟨nL, hnL⟩ : ∃ k, k = L.length := ⟨_, rfl⟩
        rw [← hnL] at T hL9
        obtain ⟨AL, cL, rfl⟩ := vec_shape2 T
        have HT := Lib.hid ((T.ord [2, 3, 0, 1]).drop); have HNL := Lib.hid hnL
        clear T hnL
        go_wp2_with fail
        go_loopw [3, 25] (fun u3 u25 wy => ∃ (j : Nat) (p : List Item), u25 = .int .i64 j ∧ j ≤ nL ∧ MisJ m p0 L j p ∧ Sts w F wy (vecR 35 2 u3 p.length (vl IV p) :: vecR 35 2 (.slice AL nL cL) nL (vl IV L) :: PP :: R)) (fun _ u25 _ => nL - (intOf u25).toNat)
        case atStart => exact ⟨0, p0, rfl, Nat.zero_le _, MisJ.start HM.out.srt L, HT.out⟩
        case round =>
          clear HT
          obtain ⟨j, p, rfl, hj, hMJ, T⟩ := hrel
          have hpl := hMJ.all (HMA.out _ _ HM.out) HLA.out
          have HMJ := Lib.hid hMJ; clear hMJ
          by_cases hjn : j < nL
          · have hjn1 : (j : Int) < (nL : Int) := by omega
            have hj0 : (0 : Int) ≤ (j : Int) := by omega
            obtain ⟨y, hy⟩ : ∃ y, L[j]? = some y := ⟨L[j]'(by rw [← HNL.out]; exact hjn), List.getElem?_eq_getElem _⟩
            obtain ⟨gL, rfl, hld⟩ := vec_load (P := Try.prog) (e := 35) TItem_size (by omega) TItem_und rfl (by kernel_rfl) (T.ord [1, 0]) HNL.out hy (by omega)
            have HY := Lib.hid hy
            have T2 := T.new (IV y) 35
            have HT := Lib.hid (T2.ord [3, 0, 1, 2])
            have hr := HT.out.row1; have hlt := row_lt hr
            clear T T2 hy
            go_upto_region 9 with fail
            generalize wr.alloc _ = w8 at *
            generalize wr.heap.size = gy at *
            clear hld
            have HA := Lib.hid (HAT.out y _ (rowR gy (IV y) :: vecR 35 2 u3 p.length (vl IV p) :: vecR 35 2 (.slice (some ⟨gL, 0, none⟩) nL cL) nL (vl IV L) :: R) HT.out)
            obtain ⟨ay, hay⟩ : ∃ v, v = idxI y items := ⟨_, rfl⟩
            have hcy := HCOM.out y
            rw [← hay] at HA hcy
            have HCY := Lib.hid hcy
            clear hay hcy
            cases hcy : decide (0 ≤ ay) with
            | true =>
              have hay := of_decide_eq_true hcy
              have hs := HMJ.out.skip HY.out (.inl (by rw [HCY.out]; exact hcy))
              have HS := Lib.hid hs; clear hs
              go_wp2_with fail
              refine HA.out.mono ?_
              clear HA hr hlt
              rintro e9 w9 ⟨rfl, hb⟩
              have HT2 := Lib.hid ((HT.out.pure hb).ord [2, 3, 0, 1]); clear hb HT
              go_wp2
              go_roundw
              case rel => exact ⟨j + 1, p, by go_num, by omega, HS.out, (HT2.out.ord [3, 0, 1, 2]).drop⟩
              case measure => simp [intOf]; omega
            | false =>
              have hay := of_decide_eq_false hcy
              have hcf : (getMK m y).isSome = false := by rw [HCY.out]; exact hcy
              have HCF := Lib.hid hcf; clear hcf hcy
              have HH := Lib.hid (docHasR u3 p (by omega) y)
              obtain ⟨hb9, hhb⟩ : ∃ b, b = inB y p := ⟨_, rfl⟩
              rw [← hhb] at HH
              have HHB := Lib.hid hhb; clear hhb
              go_wp2_with fail
              refine HA.out.mono ?_
              clear HA hr hlt
              rintro e9 w9 ⟨rfl, hb⟩
              have T := HT.out.pure hb
              clear hb HT
              have hr := T.row1; have hlt := row_lt hr
              have HT := Lib.hid T; clear T
              go_wp2_with fail
              refine (HH.out.at (R := _ :: _) (by have T0 := HT.out.ord [2, 0, 1, 3]; exact T0)).mono ?_
              clear HH hr hlt
              rintro e10 w10 ⟨rfl, hb⟩
              have HT2 := Lib.hid (HT.out.pure hb); clear hb HT
              cases hb9 with
              | true =>
                have hs := HMJ.out.skip HY.out (.inr (inB_iff.1 HHB.out.symm))
                have HS := Lib.hid hs; clear hs
                go_wp2
                go_roundw
                case rel => exact ⟨j + 1, p, by go_num, by omega, HS.out, (HT2.out.ord [1, 2, 3, 0]).drop⟩
                case measure => simp [intOf]; omega
              | false =>
                have hadd := HMJ.out.add HY.out HCF.out (fun hc => by have := HHB.out; rw [inB_iff.2 hc] at this; cases this)
                have HADD := Lib.hid hadd; clear hadd
                obtain ⟨Ao, co, rfl⟩ := vec_shape2 (HT2.out.ord [2, 0, 1])
                obtain ⟨np, hnp⟩ : ∃ k, k = p.length := ⟨_, rfl⟩
                have T3 := HT2.out.ord [1, 2, 3, 0]
                rw [← hnp] at T3 hpl
                rw [← hnp]
                have hcap : (Ao = none ∧ np = 0 ∧ co = 0) ∨ ((∃ g, Ao = some ⟨g, 0, none⟩) ∧ np ≤ co) := by
                  rcases (T3.ord [1, 0]).vec.2 with ⟨h2, h3⟩ | ⟨g', c', cur, h2, _, _, h3, _⟩
                  · injection h2 with e1 e2 e3
                    exact .inl ⟨e1, e2, e3⟩
                  · injection h2 with e1 e2 e3
                    subst e3
                    exact .inr ⟨⟨g', e1⟩, h3⟩
                have HNP := Lib.hid hnp; have HCAP := Lib.hid hcap
                have HT := Lib.hid T3
                clear T3 HT2 hnp hcap
                go_wp2_with fail
                go_loopw [8] (fun u8 wx => ∃ k : Nat, u8 = .int .i64 k ∧ k ≤ np ∧ (∀ j z, j < k → p[j]? = some z → befB mZ z y = true) ∧ Sts w F wx (rowR gy (IV y) :: vecR 35 2 (.slice Ao np co) np (vl IV p) :: vecR 35 2 (.slice (some ⟨gL, 0, none⟩) nL cL) nL (vl IV L) :: PP :: R)) (fun u8 _ => np - (intOf u8).toNat)
                case atStart => exact ⟨0, rfl, Nat.zero_le _, fun j z hj => by omega, HT.out⟩
                case round =>
                  clear HT
                  obtain ⟨k, rfl, hkp, hbf, T⟩ := hrel
                  have HBF := Lib.hid hbf; clear hbf
                  have HT2 := Lib.hid T.drew; have HKP := Lib.hid hkp
                  clear T hkp
                  go_upto_region 11 with fail
                  go_cut [49] from 38 to 49 (fun u49 wx => Sts w F wx [] ∧ ∃ bb : Bool, u49 = .bool bb ∧ (bb = true → k < np ∧ ∀ z, p[k]? = some z → befB mZ z y = true) ∧ (bb = false → ∀ z, p[k]? = some z → befB mZ z y = false) ∧ Sts w F wx (rowR gy (IV y) :: vecR 35 2 (.slice Ao np co) np (vl IV p) :: vecR 35 2 (.slice (some ⟨gL, 0, none⟩) nL cL) nL (vl IV L) :: PP :: R))
                  case first =>
                    by_cases hk1 : k < np
                    · have hk2 : (k : Int) < (np : Int) := by omega
                      have hk0 : (0 : Int) ≤ (k : Int) := by omega
                      obtain ⟨z, hz⟩ : ∃ z, p[k]? = some z := ⟨p[k]'(by rw [← HNP.out]; omega), List.getElem?_eq_getElem _⟩
                      obtain ⟨gp, rfl, -⟩ := vec_load (P := Try.prog) (e := 35) TItem_size (by omega) TItem_und rfl (by kernel_rfl) (HT2.out.ord [1, 0]) HNP.out hz (by omega)
                      have FS : ∀ W' R', Sts w F W' (rowR gy (IV y) :: vecR 35 2 (.slice (some ⟨gp, 0, none⟩) np co) np (vl IV p) :: R') → (row? W' gy = some (IV y) ∧ loadVal Try.prog 35 2 W' (.pointer (some ⟨gp, k * 2, none⟩)) = .ok (.agg (IV z)) W') := fun W' R' T => by
                        obtain ⟨g2, e, h⟩ := vec_load (P := Try.prog) (e := 35) TItem_size (by omega) TItem_und rfl (by kernel_rfl) (T.ord [1, 0]) HNP.out hz (by omega)
                        injection e with e
                        injection e with e
                        subst e
                        exact ⟨T.row, h⟩
                      have HFS := Lib.hid FS
                      have S0 := FS _ _ HT2.out
                      have HL := Lib.hid (ritemLess_any z y)
                      obtain ⟨bb, hbb⟩ : ∃ v, v = lessI z y := ⟨_, rfl⟩
                      rw [← hbb] at HL
                      have HBB := Lib.hid (show befB mZ z y = bb by rw [bef_less, hbb]); have HZ := Lib.hid hz; have HK1 := Lib.hid hk1
                      clear FS hbb hz
                      refine wp_region_held_drew (S := fun W' => (row? W' gy = some (IV y) ∧ loadVal Try.prog 35 2 W' (.pointer (some ⟨gp, k * 2, none⟩)) = .ok (.agg (IV z)) W')) (by kernel_rfl) S0 (fun hHeld => ?_)
                      clear S0
                      refine tkH 0 rfl ?_
                      simp only [Act.put, List.setIfInBounds_toArray, List.set_cons_zero, List.set_cons_succ]
                      refine tkH 1 rfl ?_
                      go_frame
                      refine tkH 2 rfl ?_
                      go_frame
                      refine tkH 3 rfl ?_
                      go_frame
                      refine tkH 4 rfl ?_
                      go_frame
                      refine tkH 5 rfl ?_
                      go_frame
                      refine tkH 6 rfl ?_
                      go_frame
                      refine tkH 7 rfl ?_
                      go_frame
                      refine tkH 8 rfl ?_
                      go_frame
                      refine tkH 9 rfl ?_
                      go_frame
                      refine wpAnyH_ready (rs := [10]) (by kernel_rfl) (by simp) ?_
                      refine AllReadyH.cons (o := _) rfl (fun K hK => ?_) AllReadyH.nil
                      go_simp
                      refine (Ans.at HL.out HT2.out).mono ?_
                      rintro e8 w11 ⟨rfl, T⟩
                      refine hK.out _ _ (HFS.out _ _ T) (fun hHeld => ?_)
                      clear hK K HT2 HL HFS hk1 hk2 hk0
                      have HT := Lib.hid T
                      clear T
                      refine tkH 11 rfl ?_
                      simp only [Act.put, List.setIfInBounds_toArray, List.set_cons_zero, List.set_cons_succ]
                      refine wpAnyH_done (by kernel_rfl) ?_ _
                      simp only [Exit.then]
                      go_step
                      go_meet
                      case rel => exact ⟨HT.out.nil, bb, rfl, fun hb => ⟨HK1.out, fun z' hz' => (by rw [HZ.out] at hz'; injection hz' with hz'; subst hz'; rw [HBB.out]; exact hb)⟩, fun hb z' hz' => (by rw [HZ.out] at hz'; injection hz' with hz'; subst hz'; rw [HBB.out]; exact hb), HT.out⟩
                    · have hk2 : ¬ (k : Int) < (np : Int) := by omega
                      have hk3 : p[k]? = none := List.getElem?_eq_none (by rw [← HNP.out]; omega)
                      have HK3 := Lib.hid hk3
                      clear hk3
                      refine wp_region_held_drew (S := fun W' => True) (by kernel_rfl) trivial (fun hHeld => ?_)
                      refine tkH 0 rfl ?_
                      simp only [Act.put, List.setIfInBounds_toArray, List.set_cons_zero, List.set_cons_succ]
                      refine tkH 1 rfl ?_
                      go_frame
                      refine tkH 2 rfl ?_
                      go_frame
                      refine tkH 3 rfl ?_
                      go_frame
                      refine tkH 4 rfl ?_
                      go_frame
                      refine skH 5 rfl ?_
                      simp only [Act.put, List.setIfInBounds_toArray, List.set_cons_zero, List.set_cons_succ]
                      refine skH 6 rfl ?_
                      go_frame
                      refine skH 7 rfl ?_
                      go_frame
                      refine skH 8 rfl ?_
                      go_frame
                      refine skH 9 rfl ?_
                      go_frame
                      refine skH 10 rfl ?_
                      go_frame
                      refine tkH 11 rfl ?_
                      simp only [Act.put, List.setIfInBounds_toArray, List.set_cons_zero, List.set_cons_succ]
                      refine wpAnyH_done (by kernel_rfl) ?_ _
                      simp only [Exit.then]
                      go_step
                      go_meet
                      case rel => exact ⟨HT2.out.nil, false, rfl, fun hb => (by cases hb), fun _ z hz => (by rw [HK3.out] at hz; cases hz), HT2.out⟩
                  case rest =>
                    obtain ⟨-, bb, rfl, h1, h2, T⟩ := hcut
                    clear HT2
                    have H1 := Lib.hid h1; have H2 := Lib.hid h2; have HT := Lib.hid T
                    clear h1 h2 T
                    cases bb
                    case true =>
                      have hk1 := (H1.out rfl).1
                      have hw : IntKind.i64.wrap ((k : Int) + 1) = ((k + 1 : Nat) : Int) := by rw [IntKind.wrap_i64] <;> omega
                      go_wp2_with fail
                      go_roundw
                      case rel => exact ⟨k + 1, rfl, hk1, fun j z hj hz => by
                        rcases Nat.lt_succ_iff_lt_or_eq.1 hj with h | h
                        · exact HBF.out j z h hz
                        · subst h; exact (H1.out rfl).2 z hz, HT.out⟩
                      case measure => simp [intOf]; omega
                    case false =>
                      have hins := insL_at (m := mZ) (p := p) (y := y) (k := k) (by rw [← HNP.out]; exact HKP.out) HBF.out (H2.out rfl)
                      have HINS := Lib.hid hins
                      clear hins HBF H1 H2
                      obtain ⟨nk, hnk⟩ : ∃ nk, np = k + nk := ⟨np - k, by have := HKP.out; omega⟩
                      obtain ⟨Aw, cw, hc1, hc2, -, hc4⟩ := cut_row (A := Ao) (ws := k) (nl := nk) (cd := co) (by rw [← hnk]; exact HCAP.out) (by omega)
                      rw [← hnk] at hc1 hc2
                      have HNK := Lib.hid hnk
                      have HC4 := Lib.hid hc4
                      have HPL := Lib.hid (show p.length ≤ 448 by rw [← HNP.out]; exact hpl)
                      clear hnk hc4
                      go_upto_region 13 with fail
                      have FS : ∀ W' R', Sts w F W' (rowR gy (IV y) :: R') → row? W' gy = some (IV y) := fun W' R' T => T.row
                      have HFS := Lib.hid FS
                      have HT2 := Lib.hid HT.out.drew
                      have S0 := FS _ _ HT2.out
                      clear FS HT
                      refine wp_region_held_drew (S := fun W' => row? W' gy = some (IV y)) (by kernel_rfl) S0 (fun hHeld => ?_)
                      clear S0
                      refine tkH 1 rfl ?_
                      simp only [Act.put, List.setIfInBounds_toArray, List.set_cons_zero, List.set_cons_succ]
                      refine tkH 2 rfl ?_
                      go_frame
                      refine tkH 3 rfl ?_
                      go_frame
                      refine tkH 5 rfl ?_
                      go_frame
                      refine tkH 8 rfl ?_
                      go_frame
                      refine tkH 9 rfl ?_
                      go_frame
                      refine tkH 10 rfl ?_
                      go_frame
                      have HT := HT2; clear HT2
                      generalize wc.drew = w20 at *
                      obtain ⟨hi, hz0, hz1, hz2⟩ := HI0.out
                      refine wpAnyH_ready (rs := [0, 6]) (by kernel_rfl) (by simp) ?_
                      refine AllReadyH.cons (o := _) rfl (fun K hK => ?_) ?_
                      · go_simp
                        have TE := HT.out.vecNew #[] 35 2 0 rfl (by unfold maxLen; omega)
                        refine hK.out _ _ (HFS.out _ _ (TE.ord [1, 0])) (fun hHeld => ?_)
                        clear hK K HT
                        have HT := Lib.hid TE; clear TE
                        generalize World.alloc w20 _ = w21 at *
                        generalize (w20).heap.size = gE at *
                        refine wpAnyH_ready (rs := [4, 6]) (by kernel_rfl) (by simp) ?_
                        refine AllReadyH.cons (o := _) rfl (fun K hK => ?_) ?_
                        · have TE := HT.out
                          have hro := (vec_in TItem_size HNP.out.symm (TE.ord [2, 0, 1]) (by omega) (by have := HPL.out; omega)).take k
                          refine step_append_inE (by rfl) _ _ _ (by rfl) 35 i0 _ 2 16 Try.underlying30 hi hz0 hz1 hz2 rfl (by omega) _ 0 0 [] (by rfl) TE _ co k (p.take k) (by rw [List.length_take]; have := HKP.out; have := HNP.out; omega) (by rfl) hro TItem_size itm_one (by unfold maxLen; have := HKP.out; have := HPL.out; omega) (by have := HKP.out; have := HPL.out; omega) ?_
                          intro g23 c23 w23 TF
                          rw [Nat.zero_add, List.nil_append] at TF
                          rw [Nat.zero_add]
                          refine hK.out _ _ (HFS.out _ _ (TF.ord [1, 0])) (fun hHeld => ?_)
                          clear hK K HT TE hro
                          have HT := Lib.hid TF; clear TF
                          simp only [Act.put, List.getElem_toArray, List.getElem_cons_zero, List.getElem_cons_succ, List.setIfInBounds_toArray, List.set_cons_zero, List.set_cons_succ]
                          refine wpAnyH_ready (rs := [6]) (by kernel_rfl) (by simp) ?_
                          refine AllReadyH.cons (o := _) rfl (fun K hK => ?_) AllReadyH.nil
                          go_simp
                          have TE := HT.out.vecNew (IV y) 35 2 1 rfl (by unfold maxLen; omega)
                          rw [← vl_one] at TE
                          refine hK.out _ _ (HFS.out _ _ (TE.ord [2, 0, 1])) (fun hHeld => ?_)
                          clear hK K HT
                          have HT := Lib.hid TE; clear TE
                          generalize World.alloc w23 _ = w22 at *
                          generalize (w23).heap.size = gY at *
                          refine wpAnyH_ready (rs := [7]) (by kernel_rfl) (by simp) ?_
                          refine AllReadyH.cons (o := _) rfl (fun K hK => ?_) AllReadyH.nil
                          have TE := HT.out.ord [1, 0]
                          have hro := vec_in (A := some ⟨gY, 0, none⟩) TItem_size rfl HT.out (by omega) (by simp)
                          refine step_append_inE (by rfl) _ _ _ (by rfl) 35 i0 _ 2 16 Try.underlying30 hi hz0 hz1 hz2 rfl (by omega) g23 c23 k (vl IV (p.take k)) (by rfl) TE _ 1 1 [y] rfl (by rfl) hro TItem_size itm_one (by unfold maxLen; have := HKP.out; have := HPL.out; have := HNP.out; have := HNK.out; omega) (by have := HKP.out; have := HPL.out; have := HNP.out; have := HNK.out; omega) ?_
                          intro g24 c24 w24 TF
                          refine hK.out _ _ (HFS.out _ _ (TF.ord [2, 0, 1])) (fun hHeld => ?_)
                          clear hK K HT TE hro
                          have HT := Lib.hid (TF.ord [1, 0]).drop; clear TF
                          simp only [Act.put, List.getElem_toArray, List.getElem_cons_zero, List.getElem_cons_succ, List.setIfInBounds_toArray, List.set_cons_zero, List.set_cons_succ]
                          refine wpAnyH_ready (rs := [11]) (by kernel_rfl) (by simp) ?_
                          refine AllReadyH.cons (o := _) rfl (fun K hK => ?_) AllReadyH.nil
                          have TE := HT.out
                          have hro := HC4.out _ _ (HNP.out.symm.trans HNK.out) (vec_in TItem_size HNP.out.symm (TE.ord [2, 0, 1]) (by omega) (by have := HPL.out; omega))
                          refine step_append_inE (by rfl) _ _ _ (by rfl) 35 i0 _ 2 16 Try.underlying30 hi hz0 hz1 hz2 rfl (by omega) g24 c24 (k + 1) (vl IV (p.take k) ++ vl IV [y]) (by rfl) TE _ cw nk (p.drop k) (by rw [List.length_drop]; have := HNP.out; have := HNK.out; omega) (by rfl) hro TItem_size itm_one (by unfold maxLen; have := HKP.out; have := HPL.out; have := HNP.out; have := HNK.out; omega) (by have := HKP.out; have := HPL.out; have := HNP.out; have := HNK.out; omega) ?_
                          intro g25 c25 w25 TF
                          refine hK.out _ _ (HFS.out _ _ (TF.ord [1, 0])) (fun hHeld => ?_)
                          clear hK K HT TE hro
                          have HT := Lib.hid TF; clear TF
                          simp only [Act.put, List.getElem_toArray, List.getElem_cons_zero, List.getElem_cons_succ, List.setIfInBounds_toArray, List.set_cons_zero, List.set_cons_succ]
                          refine tkH 12 rfl ?_
                          simp only [Act.put, List.setIfInBounds_toArray, List.set_cons_zero, List.set_cons_succ]
                          refine wpAnyH_done (by kernel_rfl) ?_ _
                          try simp only [Exit.then]
                          have hl2 : k + 1 + nk = (insL mZ p y).length := by rw [insL_len]; have := HNP.out; have := HNK.out; omega
                          have hv2 : vl IV (p.take k) ++ vl IV [y] ++ vl IV (p.drop k) = vl IV (insL mZ p y) := by
                            rw [HINS.out, List.append_assoc]
                            have e : p.take k ++ y :: p.drop k = p.take k ++ ([y] ++ p.drop k) := rfl
                            rw [e]
                            unfold vl
                            rw [flatV_append, flatV_append, Array.toList_append, Array.toList_append]
                          have TE := (HT.out.ord [1, 2, 0]).drop.drop
                          rw [hl2, hv2] at TE
                          rw [hl2]
                          have HT2 := Lib.hid TE
                          clear hl2 hv2 TE HT HFS
                          go_wp2_with fail
                          go_roundw
                          case rel => exact ⟨j + 1, insL mZ p y, by go_num, by omega, HADD.out, HT2.out⟩
                          case measure => simp [intOf]; omega
                        · refine AllReadyH.cons (o := _) rfl (fun K hK => ?_) AllReadyH.nil
                          go_simp
                          have TE := HT.out.vecNew (IV y) 35 2 1 rfl (by unfold maxLen; omega)
                          rw [← vl_one] at TE
                          refine hK.out _ _ (HFS.out _ _ (TE.ord [2, 0, 1])) (fun hHeld => ?_)
                          clear hK K HT
                          have HT := Lib.hid TE; clear TE
                          generalize World.alloc w21 _ = w22 at *
                          generalize (w21).heap.size = gY at *
                          have HT0 := HT; clear HT
                          have HT := Lib.hid (HT0.out.ord [1, 0]); clear HT0
                          refine wpAnyH_ready (rs := [4]) (by kernel_rfl) (by simp) ?_
                          refine AllReadyH.cons (o := _) rfl (fun K hK => ?_) AllReadyH.nil
                          have TE := HT.out
                          have hro := (vec_in TItem_size HNP.out.symm (TE.ord [3, 0, 1, 2]) (by omega) (by have := HPL.out; omega)).take k
                          refine step_append_inE (by rfl) _ _ _ (by rfl) 35 i0 _ 2 16 Try.underlying30 hi hz0 hz1 hz2 rfl (by omega) _ 0 0 [] (by rfl) TE _ co k (p.take k) (by rw [List.length_take]; have := HKP.out; have := HNP.out; omega) (by rfl) hro TItem_size itm_one (by unfold maxLen; have := HKP.out; have := HPL.out; omega) (by have := HKP.out; have := HPL.out; omega) ?_
                          intro g23 c23 w23 TF
                          rw [Nat.zero_add, List.nil_append] at TF
                          rw [Nat.zero_add]
                          refine hK.out _ _ (HFS.out _ _ (TF.ord [2, 0, 1])) (fun hHeld => ?_)
                          clear hK K HT TE hro
                          have HT := Lib.hid TF; clear TF
                          simp only [Act.put, List.getElem_toArray, List.getElem_cons_zero, List.getElem_cons_succ, List.setIfInBounds_toArray, List.set_cons_zero, List.set_cons_succ]
                          have HT0 := HT; clear HT
                          have HT := Lib.hid (HT0.out.ord [1, 0]); clear HT0
                          refine wpAnyH_ready (rs := [7]) (by kernel_rfl) (by simp) ?_
                          refine AllReadyH.cons (o := _) rfl (fun K hK => ?_) AllReadyH.nil
                          have TE := HT.out.ord [1, 0]
                          have hro := vec_in (A := some ⟨gY, 0, none⟩) TItem_size rfl HT.out (by omega) (by simp)
                          refine step_append_inE (by rfl) _ _ _ (by rfl) 35 i0 _ 2 16 Try.underlying30 hi hz0 hz1 hz2 rfl (by omega) g23 c23 k (vl IV (p.take k)) (by rfl) TE _ 1 1 [y] rfl (by rfl) hro TItem_size itm_one (by unfold maxLen; have := HKP.out; have := HPL.out; have := HNP.out; have := HNK.out; omega) (by have := HKP.out; have := HPL.out; have := HNP.out; have := HNK.out; omega) ?_
                          intro g24 c24 w24 TF
                          refine hK.out _ _ (HFS.out _ _ (TF.ord [2, 0, 1])) (fun hHeld => ?_)
                          clear hK K HT TE hro
                          have HT := Lib.hid (TF.ord [1, 0]).drop; clear TF
                          simp only [Act.put, List.getElem_toArray, List.getElem_cons_zero, List.getElem_cons_succ, List.setIfInBounds_toArray, List.set_cons_zero, List.set_cons_succ]
                          refine wpAnyH_ready (rs := [11]) (by kernel_rfl) (by simp) ?_
                          refine AllReadyH.cons (o := _) rfl (fun K hK => ?_) AllReadyH.nil
                          have TE := HT.out
                          have hro := HC4.out _ _ (HNP.out.symm.trans HNK.out) (vec_in TItem_size HNP.out.symm (TE.ord [2, 0, 1]) (by omega) (by have := HPL.out; omega))
                          refine step_append_inE (by rfl) _ _ _ (by rfl) 35 i0 _ 2 16 Try.underlying30 hi hz0 hz1 hz2 rfl (by omega) g24 c24 (k + 1) (vl IV (p.take k) ++ vl IV [y]) (by rfl) TE _ cw nk (p.drop k) (by rw [List.length_drop]; have := HNP.out; have := HNK.out; omega) (by rfl) hro TItem_size itm_one (by unfold maxLen; have := HKP.out; have := HPL.out; have := HNP.out; have := HNK.out; omega) (by have := HKP.out; have := HPL.out; have := HNP.out; have := HNK.out; omega) ?_
                          intro g25 c25 w25 TF
                          refine hK.out _ _ (HFS.out _ _ (TF.ord [1, 0])) (fun hHeld => ?_)
                          clear hK K HT TE hro
                          have HT := Lib.hid TF; clear TF
                          simp only [Act.put, List.getElem_toArray, List.getElem_cons_zero, List.getElem_cons_succ, List.setIfInBounds_toArray, List.set_cons_zero, List.set_cons_succ]
                          refine tkH 12 rfl ?_
                          simp only [Act.put, List.setIfInBounds_toArray, List.set_cons_zero, List.set_cons_succ]
                          refine wpAnyH_done (by kernel_rfl) ?_ _
                          try simp only [Exit.then]
                          have hl2 : k + 1 + nk = (insL mZ p y).length := by rw [insL_len]; have := HNP.out; have := HNK.out; omega
                          have hv2 : vl IV (p.take k) ++ vl IV [y] ++ vl IV (p.drop k) = vl IV (insL mZ p y) := by
                            rw [HINS.out, List.append_assoc]
                            have e : p.take k ++ y :: p.drop k = p.take k ++ ([y] ++ p.drop k) := rfl
                            rw [e]
                            unfold vl
                            rw [flatV_append, flatV_append, Array.toList_append, Array.toList_append]
                          have TE := (HT.out.ord [1, 2, 0]).drop.drop
                          rw [hl2, hv2] at TE
                          rw [hl2]
                          have HT2 := Lib.hid TE
                          clear hl2 hv2 TE HT HFS
                          go_wp2_with fail
                          go_roundw
                          case rel => exact ⟨j + 1, insL mZ p y, by go_num, by omega, HADD.out, HT2.out⟩
                          case measure => simp [intOf]; omega
                      · refine AllReadyH.cons (o := _) rfl (fun K hK => ?_) AllReadyH.nil
                        go_simp
                        have TE := HT.out.vecNew (IV y) 35 2 1 rfl (by unfold maxLen; omega)
                        rw [← vl_one] at TE
                        refine hK.out _ _ (HFS.out _ _ (TE.ord [1, 0])) (fun hHeld => ?_)
                        clear hK K HT
                        have HT := Lib.hid TE; clear TE
                        generalize World.alloc w20 _ = w22 at *
                        generalize (w20).heap.size = gY at *
                        refine wpAnyH_ready (rs := [0]) (by kernel_rfl) (by simp) ?_
                        refine AllReadyH.cons (o := _) rfl (fun K hK => ?_) AllReadyH.nil
                        go_simp
                        have TE := HT.out.vecNew #[] 35 2 0 rfl (by unfold maxLen; omega)
                        refine hK.out _ _ (HFS.out _ _ (TE.ord [2, 0, 1])) (fun hHeld => ?_)
                        clear hK K HT
                        have HT := Lib.hid TE; clear TE
                        generalize World.alloc w22 _ = w21 at *
                        generalize (w22).heap.size = gE at *
                        refine wpAnyH_ready (rs := [4]) (by kernel_rfl) (by simp) ?_
                        refine AllReadyH.cons (o := _) rfl (fun K hK => ?_) AllReadyH.nil
                        have TE := HT.out
                        have hro := (vec_in TItem_size HNP.out.symm (TE.ord [3, 0, 1, 2]) (by omega) (by have := HPL.out; omega)).take k
                        refine step_append_inE (by rfl) _ _ _ (by rfl) 35 i0 _ 2 16 Try.underlying30 hi hz0 hz1 hz2 rfl (by omega) _ 0 0 [] (by rfl) TE _ co k (p.take k) (by rw [List.length_take]; have := HKP.out; have := HNP.out; omega) (by rfl) hro TItem_size itm_one (by unfold maxLen; have := HKP.out; have := HPL.out; omega) (by have := HKP.out; have := HPL.out; omega) ?_
                        intro g23 c23 w23 TF
                        rw [Nat.zero_add, List.nil_append] at TF
                        rw [Nat.zero_add]
                        refine hK.out _ _ (HFS.out _ _ (TF.ord [2, 0, 1])) (fun hHeld => ?_)
                        clear hK K HT TE hro
                        have HT := Lib.hid TF; clear TF
                        simp only [Act.put, List.getElem_toArray, List.getElem_cons_zero, List.getElem_cons_succ, List.setIfInBounds_toArray, List.set_cons_zero, List.set_cons_succ]
                        have HT0 := HT; clear HT
                        have HT := Lib.hid (HT0.out.ord [1, 0]); clear HT0
                        refine wpAnyH_ready (rs := [7]) (by kernel_rfl) (by simp) ?_
                        refine AllReadyH.cons (o := _) rfl (fun K hK => ?_) AllReadyH.nil
                        have TE := HT.out.ord [1, 0]
                        have hro := vec_in (A := some ⟨gY, 0, none⟩) TItem_size rfl HT.out (by omega) (by simp)
                        refine step_append_inE (by rfl) _ _ _ (by rfl) 35 i0 _ 2 16 Try.underlying30 hi hz0 hz1 hz2 rfl (by omega) g23 c23 k (vl IV (p.take k)) (by rfl) TE _ 1 1 [y] rfl (by rfl) hro TItem_size itm_one (by unfold maxLen; have := HKP.out; have := HPL.out; have := HNP.out; have := HNK.out; omega) (by have := HKP.out; have := HPL.out; have := HNP.out; have := HNK.out; omega) ?_
                        intro g24 c24 w24 TF
                        refine hK.out _ _ (HFS.out _ _ (TF.ord [2, 0, 1])) (fun hHeld => ?_)
                        clear hK K HT TE hro
                        have HT := Lib.hid (TF.ord [1, 0]).drop; clear TF
                        simp only [Act.put, List.getElem_toArray, List.getElem_cons_zero, List.getElem_cons_succ, List.setIfInBounds_toArray, List.set_cons_zero, List.set_cons_succ]
                        refine wpAnyH_ready (rs := [11]) (by kernel_rfl) (by simp) ?_
                        refine AllReadyH.cons (o := _) rfl (fun K hK => ?_) AllReadyH.nil
                        have TE := HT.out
                        have hro := HC4.out _ _ (HNP.out.symm.trans HNK.out) (vec_in TItem_size HNP.out.symm (TE.ord [2, 0, 1]) (by omega) (by have := HPL.out; omega))
                        refine step_append_inE (by rfl) _ _ _ (by rfl) 35 i0 _ 2 16 Try.underlying30 hi hz0 hz1 hz2 rfl (by omega) g24 c24 (k + 1) (vl IV (p.take k) ++ vl IV [y]) (by rfl) TE _ cw nk (p.drop k) (by rw [List.length_drop]; have := HNP.out; have := HNK.out; omega) (by rfl) hro TItem_size itm_one (by unfold maxLen; have := HKP.out; have := HPL.out; have := HNP.out; have := HNK.out; omega) (by have := HKP.out; have := HPL.out; have := HNP.out; have := HNK.out; omega) ?_
                        intro g25 c25 w25 TF
                        refine hK.out _ _ (HFS.out _ _ (TF.ord [1, 0])) (fun hHeld => ?_)
                        clear hK K HT TE hro
                        have HT := Lib.hid TF; clear TF
                        simp only [Act.put, List.getElem_toArray, List.getElem_cons_zero, List.getElem_cons_succ, List.setIfInBounds_toArray, List.set_cons_zero, List.set_cons_succ]
                        refine tkH 12 rfl ?_
                        simp only [Act.put, List.setIfInBounds_toArray, List.set_cons_zero, List.set_cons_succ]
                        refine wpAnyH_done (by kernel_rfl) ?_ _
                        try simp only [Exit.then]
                        have hl2 : k + 1 + nk = (insL mZ p y).length := by rw [insL_len]; have := HNP.out; have := HNK.out; omega
                        have hv2 : vl IV (p.take k) ++ vl IV [y] ++ vl IV (p.drop k) = vl IV (insL mZ p y) := by
                          rw [HINS.out, List.append_assoc]
                          have e : p.take k ++ y :: p.drop k = p.take k ++ ([y] ++ p.drop k) := rfl
                          rw [e]
                          unfold vl
                          rw [flatV_append, flatV_append, Array.toList_append, Array.toList_append]
                        have TE := (HT.out.ord [1, 2, 0]).drop.drop
                        rw [hl2, hv2] at TE
                        rw [hl2]
                        have HT2 := Lib.hid TE
                        clear hl2 hv2 TE HT HFS
                        go_wp2_with fail
                        go_roundw
                        case rel => exact ⟨j + 1, insL mZ p y, by go_num, by omega, HADD.out, HT2.out⟩
                        case measure => simp [intOf]; omega
          · have hjn1 : ¬ (j : Int) < (nL : Int) := by omega
            have hmj := HMJ.out
            rw [show j = L.length by rw [← HNL.out]; omega] at hmj
            have hs := HST.out p hmj
            rw [← HTK.out] at hs
            have HS := Lib.hid hs
            have HT := Lib.hid (T.ord [1, 0]).drop; clear T hmj hs
            go_wp2
            go_roundw
            case rel => exact ⟨i + 1, p, by go_num, by omega, HS.out, HT.out⟩
            case measure => simp [intOf]; omega
    · have hin1 : ¬ (i : Int) < (ni : Int) := by omega
      have hm := HM.out
      rw [List.take_of_length_le (by rw [← HNI.out]; omega)] at hm
      have HM2 := Lib.hid hm
      have HT := Lib.hid T.swap; clear T hm
      go_wp2
      go_ret
      exact ⟨_, rfl, p0, HM2.out, HFin.out _ _ HT.out⟩
end
end Go.Proofs.Ytnjgjhjilolanaa
