/- Several texts in one. -/
import Derived.Test.YtnjgjhjilolanaaV31
import Derived.Test.YtnjgjhjilolanaaV42
/- GraphOrders: Order tells the parts of what is to be done, as the document says, of every item; or what isn't committed. -/
namespace Go.Proofs.Ytnjgjhjilolanaa
open Go.RowKit Go.Shelf
set_option linter.unusedVariables false
set_option maxRecDepth 20000
attribute [local go_sem] Oper.semAt_some
attribute [local go_sem] row_alloc row_drew row_drewN row_ext row_setCell row_setRow size_ext setRow_alloc setRow_drew loadOf storeOf piece_lit loadVal_at storeVal_at allOne_lit buildOf buildRes_some
attribute [local go_sem high] cell_alloc frozen_alloc setCell_alloc cell_ext frozen_ext cell_setRow frozen_setRow
attribute [local go_sem ↓] TDeed_ld0 TDeed_st0 TDeed_fd0 TDeed_bd0
attribute [local go_sem] TDeed_size TDeed_one TDeed_piece TDeed_c0 TDeed_c1 TDeed_c2 TDeed_c3 TDeed_c4 TDeed_c5 TDeed_set_kind TDeed_set_key TDeed_set_val TDeed_set_ver TDeed_set_ses TDeed_set_num TDeed_ld TDeed_st TDeed_f_kind TDeed_f_key TDeed_f_val TDeed_f_ver TDeed_f_ses TDeed_f_num TDeed_bd TDeed_fl TDeed_fl_kind TDeed_fl_key TDeed_fl_val TDeed_fl_ver TDeed_fl_ses TDeed_fl_num
attribute [local go_sem high] TDeed_eql TDeed_neq
attribute [local go_sem ↓] index_deps0 load_deps0 store_deps0
attribute [local go_sem] DV_piece DV_size DV_one index_deps load_deps store_deps
attribute [local go_sem high] TDeps_eql TDeps_neq
attribute [local go_sem ↓] TCall_ld0 TCall_st0 TCall_fd0 TCall_bd0
attribute [local go_sem] TCall_size TCall_one TCall_piece TCall_c0 TCall_c1 TCall_c2 TCall_c3 TCall_c4 TCall_c5 TCall_c6 TCall_c7 TCall_c8 TCall_c9 TCall_c10 TCall_c11 TCall_c12 TCall_c13 TCall_p_deed TCall_put_deed TCall_p_deps TCall_put_deps TCall_set_seq TCall_ld TCall_st TCall_f_deed TCall_f_deps TCall_f_seq TCall_bd TCall_fl TCall_fl_deed TCall_fl_deps TCall_fl_seq
attribute [local go_sem high] TCall_eql TCall_neq
attribute [local go_sem ↓] TItem_ld0 TItem_st0 TItem_fd0 TItem_bd0
attribute [local go_sem] TItem_size TItem_one TItem_piece TItem_c0 TItem_c1 TItem_set_rep TItem_set_num TItem_ld TItem_st TItem_f_rep TItem_f_num TItem_bd TItem_fl TItem_fl_rep TItem_fl_num
attribute [local go_sem high] TItem_eql TItem_neq
attribute [local go_sem ↓] itm_slice0
attribute [local go_sem] itm_slice1
theorem GBld.docOk {n : Int} {k : Nat} {m : RowsMK} {q : RowsML} {items : List Item} {calls : List Call} {dn : List Item} (h : GBld n k m q items calls dn) (hk : k ≤ 1000) : DocOk m q items calls dn where
  len := by have := h.lei; omega
  lend := by have := h.led; omega
  lc := h.len
  get := h.get
  ov y := by rw [Bool.eq_iff_iff, h.over, inB_iff]
theorem DocOk.unc {m : RowsMK} {q : RowsML} {items : List Item} {calls : List Call} {dn : List Item} (h : DocOk m q items calls dn) (y : Item) : (!(getMK m y).isSome) = decide (idxI y items < 0) := by
  have hget := h.get y
  have hlc := h.lc
  unfold idxI
  by_cases hlt : idxN y items < items.length
  · have hk : idxN y items < calls.length := by omega
    rw [if_pos hlt, hget, List.getElem?_eq_getElem hk]
    simp
  · rw [if_neg hlt, hget, List.getElem?_eq_none (by omega)]
    simp
section
variable {w W : World} {F : Nat → Prop} {R : List Res}
set_option maxHeartbeats 32000000 in
theorem law_orders (n : Int) (A : Option Addr) (c : Nat) (l : List GStep) (W : World) (hl : RowsIn W A 17 GSV l) :
    Calls Try.prog 4 #[.int .i64 n, .slice A l.length c] W fun e W' => e = .returned (.bool true) ∧ Below W.heap.size W W' := by
  have hlen := hl.len
  have HL := Lib.hid hl; clear hl
  have T := Sts.start0 W
  have HAL := Lib.hid (alive18 T)
  clear T
  go_enter Try.func4, Try.ntmps4
  go_wp2_with fail
  refine HAL.out.mono ?_
  clear HAL
  rintro e1 w1 ⟨rfl, T⟩
  have HT := Lib.hid T; clear T
  obtain ⟨gb, hgb⟩ : ∃ v, v = greatG n l.length := ⟨_, rfl⟩
  have HG := Lib.hid (fun w => great18 n A l.length c (by omega) w)
  rw [← hgb] at HG
  have HGB := Lib.hid hgb; clear hgb
  go_wp2_with fail
  refine (HG.out _).mono ?_
  clear HG
  rintro e2 w2 ⟨rfl, rfl⟩
  cases gb
  case true =>
    go_wp2
    go_ret
    exact ⟨rfl, HT.out.below⟩
  case false =>
    obtain ⟨hn, hl25⟩ := great_no HGB.out.symm
    have HBD := Lib.hid (buildT n hn A c l HL.out hl25 HT.out)
    have hHN := Lib.hid hn; clear hn
    go_wp2_with fail
    refine HBD.out.mono ?_
    clear HBD HT
    rintro e3 w3 ⟨b, gc, gd, g, vi, vc, vd, m, q, items, calls, dn, rfl, hB, T⟩
    have T : Sts W (fun _ => False) w3 (rowR g (docC vi vc vd) :: vecR 35 2 vi items.length (vl IV items) :: vecR 47 14 vc calls.length (vl CV calls) :: vecR 35 2 vd dn.length (vl IV dn) :: rowR b #[.pointer (some ⟨gc, 0, none⟩), .pointer (some ⟨gd, 0, none⟩)] :: rowsIRK gc m :: rowsIRL gd q :: []) := T
    have G := hB.inv (by have := hHN.out; omega)
    have hD := hB.docOk (by omega)
    have hit : items.length ≤ 25 := by have := hB.lei; omega
    have hmb : 0 ≤ m.n ∧ m.n ≤ 7 := by rw [hB.mn]; have := hHN.out; omega
    have hqb : 0 ≤ q.n ∧ q.n ≤ 7 := by rw [hB.qn]; have := hHN.out; omega
    have HG := Lib.hid G; have HD := Lib.hid hD; have HIT := Lib.hid hit; have HMB := Lib.hid hmb; have HQB := Lib.hid hqb
    have HT := Lib.hid T
    have hn7 : 3 ≤ n ∧ n ≤ 7 := by have := hHN.out; omega
    clear G hD hit hmb hqb T hB
    go_wp2_with fail
    go_loopw [8] (fun u8 wr => ∃ rep : Int, u8 = .int .i64 rep ∧ -1 ≤ rep ∧ rep ≤ n + 1 ∧ Sts W (fun _ => False) wr (rowR g (docC vi vc vd) :: vecR 35 2 vi items.length (vl IV items) :: vecR 47 14 vc calls.length (vl CV calls) :: vecR 35 2 vd dn.length (vl IV dn) :: rowR b #[.pointer (some ⟨gc, 0, none⟩), .pointer (some ⟨gd, 0, none⟩)] :: rowsIRK gc m :: rowsIRL gd q :: [])) (fun u8 _ => (n + 1 - intOf u8).toNat)
    case atStart => exact ⟨-1, rfl, by omega, by omega, HT.out⟩
    case round =>
      clear HT
      obtain ⟨rep, hrel⟩ := hrel
      obtain ⟨rfl, hr1, hr2, T⟩ := hrel
      have HT := Lib.hid T; clear T
      by_cases hrn : rep ≤ n
      · have hw : IntKind.i64.wrap (rep + 1) = rep + 1 := by rw [IntKind.wrap_i64] <;> omega
        go_wp2_with fail
        go_loopw [9] (fun u9 wr => ∃ j : Nat, u9 = .int .i64 j ∧ j ≤ 7 ∧ Sts W (fun _ => False) wr (rowR g (docC vi vc vd) :: vecR 35 2 vi items.length (vl IV items) :: vecR 47 14 vc calls.length (vl CV calls) :: vecR 35 2 vd dn.length (vl IV dn) :: rowR b #[.pointer (some ⟨gc, 0, none⟩), .pointer (some ⟨gd, 0, none⟩)] :: rowsIRK gc m :: rowsIRL gd q :: [])) (fun u9 _ => 7 - (intOf u9).toNat)
        case atStart => exact ⟨0, rfl, by omega, HT.out⟩
        case round =>
          clear HT
          obtain ⟨j, hrel⟩ := hrel
          obtain ⟨rfl, hj, T⟩ := hrel
          by_cases hj7 : j < 7
          · have hj1 : (j : Int) < 7 := by omega
            have T2 := T.new (IV ⟨rep, (j : Int)⟩) 35
            have HT := Lib.hid T2
            clear T T2
            go_upto_region 15 with fail
            generalize (⟨rep, (j : Int)⟩ : Item) = x at *
            generalize wr.alloc _ = w4 at *
            generalize wr.heap.size = gx at *
            have rx := HT.out.row; have lx := row_lt rx
            have HAT := Lib.hid ((docAtR g vi vc vd items calls dn HD.out.len x).at (R := rowR b #[.pointer (some ⟨gc, 0, none⟩), .pointer (some ⟨gd, 0, none⟩)] :: _) (by have T0 := HT.out.ord [1, 2, 3, 4, 5, 6, 7, 0]; exact T0))
            go_wp2_with fail
            refine HAT.out.mono ?_
            clear HAT rx lx
            rintro e5 w5 ⟨rfl, hb⟩
            have T := HT.out.pure hb
            clear HT hb
            have rx := T.row; have lx := row_lt rx
            have HCL := Lib.hid ((grCallR b gc gd m q HMB.out x).at (R := rowR g (docC vi vc vd) :: _) (by have T0 := T.ord [5, 6, 7, 1, 2, 3, 4, 0]; exact T0))
            have HT := Lib.hid T; clear T
            go_wp2_with fail
            refine HCL.out.mono ?_
            clear HCL
            rintro e6 w6 ⟨rfl, hb⟩
            have T := HT.out.pure hb
            clear HT hb rx lx
            have T2 := T.new (CV ((getMK m x).getD noCall)) 47
            have HT := Lib.hid T2; clear T T2
            go_upto_region 17 with fail
            generalize w6.alloc _ = w7 at *
            generalize w6.heap.size = gcb at *
            have rx := HT.out.row1; have lx := row_lt rx
            have hK : SortsTo items.length := fun w W F R b gc gd g c m q d n h1 h2 h3 T => sorts49 w W F R b gc gd g c m q d n h1 (by have := HIT.out; omega) h3 T
            have HOR := Lib.hid (grOrderT (R := rowR gcb (CV ((getMK m x).getD noCall)) :: rowR gx (IV x) :: rowR g (docC vi vc vd) :: vecR 35 2 vi items.length (vl IV items) :: vecR 47 14 vc calls.length (vl CV calls) :: vecR 35 2 vd dn.length (vl IV dn) :: []) hK (by have := HIT.out; omega) HG.out HMB.out HQB.out x (by have T0 := HT.out.ord [6, 7, 8, 0, 1, 2, 3, 4, 5]; exact T0))
            clear HT hK
            go_wp2_with fail
            refine HOR.out.mono ?_
            clear HOR rx lx
            rintro e8 w8 ⟨vp, vm, P, M, rfl, hO, T⟩
            have T : Sts W (fun _ => False) w8 (paR vp P :: vecR 35 2 vm M.length (vl IV M) :: rowR b #[.pointer (some ⟨gc, 0, none⟩), .pointer (some ⟨gd, 0, none⟩)] :: rowsIRK gc m :: rowsIRL gd q :: rowR gcb (CV ((getMK m x).getD noCall)) :: rowR gx (IV x) :: rowR g (docC vi vc vd) :: vecR 35 2 vi items.length (vl IV items) :: vecR 47 14 vc calls.length (vl CV calls) :: vecR 35 2 vd dn.length (vl IV dn) :: []) := T
            have HT := Lib.hid (T.ord [6, 5, 0, 1, 2, 3, 4, 7, 8, 9, 10]); have HO := Lib.hid hO
            clear T hO
            go_upto_region 18 with fail
            obtain ⟨ai, hai⟩ : ∃ v, v = idxI x items := ⟨_, rfl⟩
            obtain ⟨isb, his⟩ : ∃ v, v = (getMK m x).isSome := ⟨_, rfl⟩
            rw [← hai, ← his]
            have hrel2 : (isb = true → ∃ (ki : Nat) (c : Call), ai = (ki : Int) ∧ calls[ki]? = some c ∧ getMK m x = some c) ∧ (isb = false → ai = -1) := by
              have hget := HD.out.get x
              have hlc := HD.out.lc
              constructor
              · intro h
                rw [h] at his
                have hxi := com_mem HD.out his.symm
                have hlt := idxN_lt.2 hxi
                have hk : idxN x items < calls.length := by omega
                refine ⟨idxN x items, calls[idxN x items], by rw [hai, idxI, if_pos hlt], List.getElem?_eq_getElem hk, by rw [hget, List.getElem?_eq_getElem hk]⟩
              · intro h
                rw [h] at his
                rw [hai, idxI, if_neg]
                intro hlt
                have hk : idxN x items < calls.length := by omega
                rw [hget, List.getElem?_eq_getElem hk] at his
                cases his
            have HREL := Lib.hid hrel2; have HIS := Lib.hid his
            clear hrel2 hai
            go_cut [102] from 67 to 102 (fun u102 wx => u102 = .bool false ∧ Sts W (fun _ => False) wx (rowR gx (IV x) :: rowR gcb (CV ((getMK m x).getD noCall)) :: paR vp P :: vecR 35 2 vm M.length (vl IV M) :: rowR b #[.pointer (some ⟨gc, 0, none⟩), .pointer (some ⟨gd, 0, none⟩)] :: rowsIRK gc m :: rowsIRL gd q :: rowR g (docC vi vc vd) :: vecR 35 2 vi items.length (vl IV items) :: vecR 47 14 vc calls.length (vl CV calls) :: vecR 35 2 vd dn.length (vl IV dn) :: []))
            case first =>
              -- FIRST{
              have HI := Lib.hid (grIsR b gc gd m q HMB.out x)
              rw [← his] at HI
              have HGO := Lib.hid (grOverR b gc gd m q HQB.out x)
              have HDO := Lib.hid (docOverR g vi vc vd items calls dn HD.out.lend x)
              rw [show decide (idxN x dn < dn.length) = inB x dn from rfl, ← HD.out.ov x] at HDO
              generalize (getML q x).isSome = ov at *
              cases isb
              case false =>
                have hai := HREL.out.2 rfl
                subst hai
                clear HREL his
                have FS : ∀ W' R', Sts W (fun _ => False) W' (rowR gx (IV x) :: R') → row? W' gx = some (IV x) := fun W' R' T => T.row
                have HFS := Lib.hid FS
                have HT2 := Lib.hid HT.out.drew
                have S0 := FS _ _ HT2.out
                clear FS HT
                have HT := HT2; clear HT2
                refine wp_region_held_drew (S := fun W' => row? W' gx = some (IV x)) (by kernel_rfl) S0 (fun hHeld => ?_)
                clear S0
                refine tkH 0 rfl (v := ?_) ?_ ?_
                rotate_left
                · intro w h; (try dsimp only at h); go_simp; try with_reducible rfl
                simp only [Act.put, List.getElem_toArray, List.getElem_cons_zero, List.setIfInBounds_toArray, List.set_cons_zero, List.set_cons_succ]
                refine tkH 1 rfl (v := ?_) ?_ ?_
                rotate_left
                · intro w h; (try dsimp only at h); go_simp; try with_reducible rfl
                go_frame
                refine tkH 3 rfl (v := ?_) ?_ ?_
                rotate_left
                · intro w h; (try dsimp only at h); go_simp; try with_reducible rfl
                go_frame
                refine tkH 4 rfl (v := ?_) ?_ ?_
                rotate_left
                · intro w h; (try dsimp only at h); go_simp; try with_reducible rfl
                go_frame
                refine wpAnyH_ready (rs := [2]) (by kernel_rfl) (by simp) ?_
                refine AllReadyH.cons (o := _) rfl (fun K hK => ?_) AllReadyH.nil
                go_simp
                refine (HI.out.at (R := rowR gx (IV x) :: _) (by have T0 := HT.out.ord [4, 5, 6, 0, 1, 2, 3]; exact T0)).mono ?_
                rintro e9 w9 ⟨rfl, hb⟩
                have T := HT.out.pure hb
                refine hK.out _ _ (HFS.out _ _ T) (fun hHeld => ?_)
                clear hK K hb HT HI
                have HT := Lib.hid T; clear T
                refine tkH 5 rfl (v := ?_) ?_ ?_
                rotate_left
                · intro w h; (try dsimp only at h); go_simp; try with_reducible rfl
                simp only [Act.put, List.getElem_toArray, List.getElem_cons_succ, List.getElem_cons_zero, List.setIfInBounds_toArray, List.set_cons_zero, List.set_cons_succ]
                refine tkH 6 rfl (v := ?_) ?_ ?_
                rotate_left
                · intro w h; (try dsimp only at h); go_simp; try with_reducible rfl
                go_frame
                refine tkH 7 rfl (v := ?_) ?_ ?_
                rotate_left
                · intro w h; (try dsimp only at h); go_simp; try with_reducible rfl
                go_frame
                refine tkH 8 rfl (v := ?_) ?_ ?_
                rotate_left
                · intro w h; (try dsimp only at h); go_simp; try with_reducible rfl
                go_frame
                refine tkH 9 rfl (v := ?_) ?_ ?_
                rotate_left
                · intro w h; (try dsimp only at h); go_simp; try with_reducible rfl
                go_frame
                refine tkH 10 rfl (v := ?_) ?_ ?_
                rotate_left
                · intro w h; (try dsimp only at h); go_simp; try with_reducible rfl
                go_frame
                refine tkH 11 rfl (v := ?_) ?_ ?_
                rotate_left
                · intro w h; (try dsimp only at h); go_simp; try with_reducible rfl
                go_frame
                refine tkH 12 rfl (v := ?_) ?_ ?_
                rotate_left
                · intro w h; (try dsimp only at h); go_simp; try with_reducible rfl
                go_frame
                refine tkH 13 rfl (v := ?_) ?_ ?_
                rotate_left
                · intro w h; (try dsimp only at h); go_simp; try with_reducible rfl
                go_frame
                refine tkH 14 rfl (v := ?_) ?_ ?_
                rotate_left
                · intro w h; (try dsimp only at h); go_simp; try with_reducible rfl
                go_frame
                refine tkH 15 rfl (v := ?_) ?_ ?_
                rotate_left
                · intro w h; (try dsimp only at h); go_simp; try with_reducible rfl
                go_frame
                refine skH 16 rfl ?_
                simp only [Act.put, List.getElem_toArray, List.getElem_cons_succ, List.getElem_cons_zero, List.setIfInBounds_toArray, List.set_cons_zero, List.set_cons_succ]
                refine skH 17 rfl ?_
                go_frame
                refine skH 18 rfl ?_
                go_frame
                refine skH 19 rfl ?_
                go_frame
                refine skH 20 rfl ?_
                go_frame
                refine skH 21 rfl ?_
                go_frame
                refine skH 22 rfl ?_
                go_frame
                refine skH 23 rfl ?_
                go_frame
                refine skH 24 rfl ?_
                go_frame
                refine tkH 25 rfl (v := ?_) ?_ ?_
                rotate_left
                · intro w h; (try dsimp only at h); go_simp; try with_reducible rfl
                simp only [Act.put, List.getElem_toArray, List.getElem_cons_succ, List.getElem_cons_zero, List.setIfInBounds_toArray, List.set_cons_zero, List.set_cons_succ]
                refine tkH 26 rfl (v := ?_) ?_ ?_
                rotate_left
                · intro w h; (try dsimp only at h); go_simp; try with_reducible rfl
                go_frame
                refine tkH 27 rfl (v := ?_) ?_ ?_
                rotate_left
                · intro w h; (try dsimp only at h); go_simp; try with_reducible rfl
                go_frame
                refine tkH 28 rfl (v := ?_) ?_ ?_
                rotate_left
                · intro w h; (try dsimp only at h); go_simp; try with_reducible rfl
                go_frame
                refine tkH 29 rfl (v := ?_) ?_ ?_
                rotate_left
                · intro w h; (try dsimp only at h); go_simp; try with_reducible rfl
                go_frame
                refine tkH 31 rfl (v := ?_) ?_ ?_
                rotate_left
                · intro w h; (try dsimp only at h); go_simp; try with_reducible rfl
                go_frame
                refine tkH 32 rfl (v := ?_) ?_ ?_
                rotate_left
                · intro w h; (try dsimp only at h); go_simp; try with_reducible rfl
                go_frame
                refine wpAnyH_ready (rs := [30]) (by kernel_rfl) (by simp) ?_
                refine AllReadyH.cons (o := _) rfl (fun K hK => ?_) AllReadyH.nil
                go_simp
                refine (HGO.out.at (R := rowR gx (IV x) :: _) (by have T0 := HT.out.ord [4, 5, 6, 0, 1, 2, 3]; exact T0)).mono ?_
                rintro e9 w9 ⟨rfl, hb⟩
                have T := HT.out.pure hb
                refine hK.out _ _ (HFS.out _ _ T) (fun hHeld => ?_)
                clear hK K hb HT
                have HT := Lib.hid T; clear T
                refine wpAnyH_ready (rs := [33]) (by kernel_rfl) (by simp) ?_
                refine AllReadyH.cons (o := _) rfl (fun K hK => ?_) AllReadyH.nil
                go_simp
                refine (HDO.out.at (R := rowR gx (IV x) :: _) (by have T0 := HT.out.ord [7, 8, 9, 10, 0, 1, 2, 3, 4, 5, 6]; exact T0)).mono ?_
                rintro e9 w9 ⟨rfl, hb⟩
                have T := HT.out.pure hb
                refine hK.out _ _ (HFS.out _ _ T) (fun hHeld => ?_)
                clear hK K hb HT
                have HT := Lib.hid T; clear T
                refine tkH 34 rfl (v := ?_) ?_ ?_
                rotate_left
                · intro w h; (try dsimp only at h); go_simp; try with_reducible rfl
                simp only [Act.put, List.getElem_toArray, List.getElem_cons_succ, List.getElem_cons_zero, List.setIfInBounds_toArray, List.set_cons_zero, List.set_cons_succ]
                refine tkH 35 rfl (v := ?_) ?_ ?_
                rotate_left
                · intro w h; (try dsimp only at h); go_simp; try with_reducible rfl
                go_frame
                refine wpAnyH_done (by kernel_rfl) ?_ _
                simp only [Exit.then]
                go_step
                go_meet
                case rel => exact ⟨by simp, HT.out⟩
              case true =>
                obtain ⟨ki, cl, rfl, hc1, hc2⟩ := HREL.out.1 rfl
                have hkc : ki < calls.length := (List.getElem?_eq_some_iff.1 hc1).1
                have hki1 : (ki : Int) < (calls.length : Int) := by omega
                have hki0 : (0 : Int) ≤ (ki : Int) := by omega
                have hcl : (getMK m x).getD noCall = cl := by rw [hc2]; rfl
                have HCL := Lib.hid hcl
                have hlc := HD.out.lc; have hle := HD.out.len
                obtain ⟨gcs, cc, rfl, -⟩ := deps_at (gcs := 0) (cc := 0) (HT.out.ord [9, 0, 1, 2, 3, 4, 5, 6, 7, 8]) (by omega) hc1
                have FS : ∀ W' R', Sts W (fun _ => False) W' (rowR gx (IV x) :: rowR gcb (CV ((getMK m x).getD noCall)) :: paR vp P :: vecR 35 2 vm M.length (vl IV M) :: rowR b #[.pointer (some ⟨gc, 0, none⟩), .pointer (some ⟨gd, 0, none⟩)] :: rowsIRK gc m :: rowsIRL gd q :: rowR g (docC vi (.slice (some ⟨gcs, 0, none⟩) calls.length cc) vd) :: vecR 35 2 vi items.length (vl IV items) :: vecR 47 14 (.slice (some ⟨gcs, 0, none⟩) calls.length cc) calls.length (vl CV calls) :: R') → (row? W' gx = some (IV x) ∧ row? W' gcb = some (CV cl) ∧ W'.cell? ⟨g, 1, none⟩ = some (.slice (some ⟨gcs, 0, none⟩) calls.length cc) ∧ loadVal Try.prog 47 14 W' (.pointer (some ⟨gcs, ki * 14, none⟩)) = .ok (.agg (CV cl)) W') := fun W' R' T => by
                  refine ⟨T.row, by rw [← HCL.out]; exact T.row1, by rw [row_cell (T.ord [7, 0, 1, 2, 3, 4, 5, 6]).row 1]; rfl, ?_⟩
                  obtain ⟨g2, e, h⟩ := vec_load (P := Try.prog) (e := 47) TCall_size (by omega) TCall_und rfl (by kernel_rfl) (T.ord [9, 0, 1, 2, 3, 4, 5, 6, 7, 8]) rfl hc1 (by omega)
                  injection e with e
                  injection e with e
                  subst e
                  exact h
                have HFS := Lib.hid FS
                have HT2 := Lib.hid HT.out.drew
                have S0 := FS _ _ HT2.out
                have hee : eqA (CV cl) (CV cl) = true := eqA_refl _
                clear FS HT hc1 hc2 HREL his hcl hlc hle
                have HT := HT2; clear HT2
                refine wp_region_held_drew (S := fun W' => (row? W' gx = some (IV x) ∧ row? W' gcb = some (CV cl) ∧ W'.cell? ⟨g, 1, none⟩ = some (.slice (some ⟨gcs, 0, none⟩) calls.length cc) ∧ loadVal Try.prog 47 14 W' (.pointer (some ⟨gcs, ki * 14, none⟩)) = .ok (.agg (CV cl)) W')) (by kernel_rfl) S0 (fun hHeld => ?_)
                clear S0
                refine tkH 0 rfl (v := ?_) ?_ ?_
                rotate_left
                · intro w h; (try dsimp only at h); go_simp; try with_reducible rfl
                simp only [Act.put, List.getElem_toArray, List.getElem_cons_zero, List.setIfInBounds_toArray, List.set_cons_zero, List.set_cons_succ]
                refine tkH 1 rfl (v := ?_) ?_ ?_
                rotate_left
                · intro w h; (try dsimp only at h); go_simp; try with_reducible rfl
                go_frame
                refine tkH 3 rfl (v := ?_) ?_ ?_
                rotate_left
                · intro w h; (try dsimp only at h); go_simp; try with_reducible rfl
                go_frame
                refine tkH 4 rfl (v := ?_) ?_ ?_
                rotate_left
                · intro w h; (try dsimp only at h); go_simp; try with_reducible rfl
                go_frame
                refine wpAnyH_ready (rs := [2]) (by kernel_rfl) (by simp) ?_
                refine AllReadyH.cons (o := _) rfl (fun K hK => ?_) AllReadyH.nil
                go_simp
                refine (HI.out.at (R := rowR gx (IV x) :: _) (by have T0 := HT.out.ord [4, 5, 6, 0, 1, 2, 3]; exact T0)).mono ?_
                rintro e9 w9 ⟨rfl, hb⟩
                have T := HT.out.pure hb
                refine hK.out _ _ (HFS.out _ _ T) (fun hHeld => ?_)
                clear hK K hb HT HI
                have HT := Lib.hid T; clear T
                refine tkH 5 rfl (v := ?_) ?_ ?_
                rotate_left
                · intro w h; (try dsimp only at h); go_simp; try with_reducible rfl
                simp only [Act.put, List.getElem_toArray, List.getElem_cons_succ, List.getElem_cons_zero, List.setIfInBounds_toArray, List.set_cons_zero, List.set_cons_succ]
                refine tkH 6 rfl (v := ?_) ?_ ?_
                rotate_left
                · intro w h; (try dsimp only at h); go_simp; try with_reducible rfl
                go_frame
                refine tkH 7 rfl (v := ?_) ?_ ?_
                rotate_left
                · intro w h; (try dsimp only at h); go_simp; try with_reducible rfl
                go_frame
                refine tkH 8 rfl (v := ?_) ?_ ?_
                rotate_left
                · intro w h; (try dsimp only at h); go_simp; try with_reducible rfl
                go_frame
                refine tkH 9 rfl (v := ?_) ?_ ?_
                rotate_left
                · intro w h; (try dsimp only at h); go_simp; try with_reducible rfl
                go_frame
                refine tkH 10 rfl (v := ?_) ?_ ?_
                rotate_left
                · intro w h; (try dsimp only at h); go_simp; try with_reducible rfl
                go_frame
                refine tkH 11 rfl (v := ?_) ?_ ?_
                rotate_left
                · intro w h; (try dsimp only at h); go_simp; try with_reducible rfl
                go_frame
                refine tkH 12 rfl (v := ?_) ?_ ?_
                rotate_left
                · intro w h; (try dsimp only at h); go_simp; try with_reducible rfl
                go_frame
                refine tkH 13 rfl (v := ?_) ?_ ?_
                rotate_left
                · intro w h; (try dsimp only at h); go_simp; try with_reducible rfl
                go_frame
                refine tkH 14 rfl (v := ?_) ?_ ?_
                rotate_left
                · intro w h; (try dsimp only at h); go_simp; try with_reducible rfl
                go_frame
                refine tkH 15 rfl (v := ?_) ?_ ?_
                rotate_left
                · intro w h; (try dsimp only at h); go_simp; try with_reducible rfl
                go_frame
                refine tkH 16 rfl (v := ?_) ?_ ?_
                rotate_left
                · intro w h; (try dsimp only at h); go_simp; try with_reducible rfl
                go_frame
                refine tkH 17 rfl (v := ?_) ?_ ?_
                rotate_left
                · intro w h; (try dsimp only at h); go_simp; try with_reducible rfl
                go_frame
                refine tkH 18 rfl (v := ?_) ?_ ?_
                rotate_left
                · intro w h; (try dsimp only at h); go_simp; try with_reducible rfl
                go_frame
                refine tkH 19 rfl (v := ?_) ?_ ?_
                rotate_left
                · intro w h; (try dsimp only at h); go_simp; try with_reducible rfl
                go_frame
                refine tkH 20 rfl (v := ?_) ?_ ?_
                rotate_left
                · intro w h; (try dsimp only at h); go_simp; try with_reducible rfl
                go_frame
                refine tkH 21 rfl (v := ?_) ?_ ?_
                rotate_left
                · intro w h; (try dsimp only at h); go_simp; try with_reducible rfl
                go_frame
                refine tkH 22 rfl (v := ?_) ?_ ?_
                rotate_left
                · intro w h; (try dsimp only at h); go_simp; try with_reducible rfl
                go_frame
                refine tkH 23 rfl (v := ?_) ?_ ?_
                rotate_left
                · intro w h; (try dsimp only at h); go_simp; try with_reducible rfl
                go_frame
                refine tkH 24 rfl (v := ?_) ?_ ?_
                rotate_left
                · intro w h; (try dsimp only at h); go_simp; try with_reducible rfl
                go_frame
                refine tkH 25 rfl (v := ?_) ?_ ?_
                rotate_left
                · intro w h; (try dsimp only at h); go_simp; try with_reducible rfl
                go_frame
                refine tkH 26 rfl (v := ?_) ?_ ?_
                rotate_left
                · intro w h; (try dsimp only at h); go_simp; try with_reducible rfl
                go_frame
                refine tkH 27 rfl (v := ?_) ?_ ?_
                rotate_left
                · intro w h; (try dsimp only at h); go_simp; try with_reducible rfl
                go_frame
                refine tkH 28 rfl (v := ?_) ?_ ?_
                rotate_left
                · intro w h; (try dsimp only at h); go_simp; try with_reducible rfl
                go_frame
                refine tkH 29 rfl (v := ?_) ?_ ?_
                rotate_left
                · intro w h; (try dsimp only at h); go_simp; try with_reducible rfl
                go_frame
                refine tkH 31 rfl (v := ?_) ?_ ?_
                rotate_left
                · intro w h; (try dsimp only at h); go_simp; try with_reducible rfl
                go_frame
                refine tkH 32 rfl (v := ?_) ?_ ?_
                rotate_left
                · intro w h; (try dsimp only at h); go_simp; try with_reducible rfl
                go_frame
                refine wpAnyH_ready (rs := [30]) (by kernel_rfl) (by simp) ?_
                refine AllReadyH.cons (o := _) rfl (fun K hK => ?_) AllReadyH.nil
                go_simp
                refine (HGO.out.at (R := rowR gx (IV x) :: _) (by have T0 := HT.out.ord [4, 5, 6, 0, 1, 2, 3]; exact T0)).mono ?_
                rintro e9 w9 ⟨rfl, hb⟩
                have T := HT.out.pure hb
                refine hK.out _ _ (HFS.out _ _ T) (fun hHeld => ?_)
                clear hK K hb HT
                have HT := Lib.hid T; clear T
                refine wpAnyH_ready (rs := [33]) (by kernel_rfl) (by simp) ?_
                refine AllReadyH.cons (o := _) rfl (fun K hK => ?_) AllReadyH.nil
                go_simp
                refine (HDO.out.at (R := rowR gx (IV x) :: _) (by have T0 := HT.out.ord [7, 8, 9, 10, 0, 1, 2, 3, 4, 5, 6]; exact T0)).mono ?_
                rintro e9 w9 ⟨rfl, hb⟩
                have T := HT.out.pure hb
                refine hK.out _ _ (HFS.out _ _ T) (fun hHeld => ?_)
                clear hK K hb HT
                have HT := Lib.hid T; clear T
                refine tkH 34 rfl (v := ?_) ?_ ?_
                rotate_left
                · intro w h; (try dsimp only at h); go_simp; try with_reducible rfl
                simp only [Act.put, List.getElem_toArray, List.getElem_cons_succ, List.getElem_cons_zero, List.setIfInBounds_toArray, List.set_cons_zero, List.set_cons_succ]
                refine tkH 35 rfl (v := ?_) ?_ ?_
                rotate_left
                · intro w h; (try dsimp only at h); go_simp; try with_reducible rfl
                go_frame
                refine wpAnyH_done (by kernel_rfl) ?_ _
                simp only [Exit.then]
                go_step
                go_meet
                case rel => exact ⟨by simp, HT.out⟩
              -- }FIRST
            case rest =>
              obtain ⟨rfl, T⟩ := hcut
              clear HT his
              obtain ⟨Ap, cp, rfl⟩ : ∃ Ap cp, vp = .slice Ap P.length cp := by
                obtain ⟨pv, Ap, cp, hpv, h, -⟩ := (T.ord [2, 0, 1]).paOpen2
                exact ⟨Ap, cp, by rw [h, ← hpv, List.length_map]⟩
              obtain ⟨Am, cm, rfl⟩ := vec_shape2 (T.ord [3, 0, 1, 2])
              have rx := T.row; have lx := row_lt rx
              cases isb
              case false =>
                have hai := HREL.out.2 rfl
                subst hai
                have hPM : P = [] ∧ M = [] := by
                  rcases HO.out with ⟨-, h1, h2⟩ | ⟨⟨h1, -⟩, -⟩
                  · exact ⟨h1, h2⟩
                  · rw [← HIS.out] at h1; cases h1
                obtain ⟨rfl, rfl⟩ := hPM
                have HT := Lib.hid (T.ord [7, 8, 9, 10, 4, 5, 6, 0, 1, 2, 3]); clear T
                go_wp2_with fail
                go_roundw
                case rel => exact ⟨j + 1, by go_num, by omega, (HT.out.ord [7, 8, 9, 10, 0, 1, 2, 3, 4, 5, 6]).drop.drop.drop.drop⟩
                case measure => simp [intOf]; omega
              case true =>
                obtain ⟨ki, cl, rfl, -, hc2⟩ := HREL.out.1 rfl
                have HDO := Lib.hid ((docOverR g vi vc vd items calls dn HD.out.lend x).at (R := rowR gx (IV x) :: _) (by have T0 := T.ord [7, 8, 9, 10, 0, 1, 2, 3, 4, 5, 6]; exact T0))
                rw [show decide (idxN x dn < dn.length) = inB x dn from rfl, ← HD.out.ov x] at HDO
                obtain ⟨ov, hov⟩ : ∃ v, v = (getML q x).isSome := ⟨_, rfl⟩
                rw [← hov] at HDO
                have HOV := Lib.hid hov; have HT := Lib.hid T
                clear T hov hc2
                go_wp2_with fail
                refine HDO.out.mono ?_
                clear HDO rx lx
                rintro e9 w9 ⟨rfl, hb⟩
                have T := HT.out.pure hb
                clear HT hb
                cases ov
                case true =>
                  have hPM : P = [] ∧ M = [] := by
                    rcases HO.out with ⟨-, h1, h2⟩ | ⟨⟨-, h1⟩, -⟩
                    · exact ⟨h1, h2⟩
                    · rw [← HOV.out] at h1; cases h1
                  obtain ⟨rfl, rfl⟩ := hPM
                  have HT := Lib.hid (T.ord [7, 8, 9, 10, 4, 5, 6, 0, 1, 2, 3]); clear T
                  go_wp2_with fail
                  go_roundw
                  case rel => exact ⟨j + 1, by go_num, by omega, (HT.out.ord [7, 8, 9, 10, 0, 1, 2, 3, 4, 5, 6]).drop.drop.drop.drop⟩
                  case measure => simp [intOf]; omega
                case false =>
                  have rx := T.row; have lx := row_lt rx
                  have HRC := Lib.hid (docReachT HG.out g vi vc vd items calls dn HD.out x (R := rowR gx (IV x) :: rowR gcb (CV ((getMK m x).getD noCall)) :: paR (.slice Ap P.length cp) P :: vecR 35 2 (.slice Am M.length cm) M.length (vl IV M) :: rowR b #[.pointer (some ⟨gc, 0, none⟩), .pointer (some ⟨gd, 0, none⟩)] :: rowsIRK gc m :: rowsIRL gd q :: []) (by have T0 := T.ord [7, 8, 9, 10, 0, 1, 2, 3, 4, 5, 6]; exact T0))
                  clear T
                  go_wp2_with fail
                  refine HRC.out.mono ?_
                  clear HRC rx lx
                  rintro e10 w10 ⟨vR, rfl, T⟩
                  have T : Sts W (fun _ => False) w10 (vecR 35 2 vR (reachL m q x).length (vl IV (reachL m q x)) :: rowR g (docC vi vc vd) :: vecR 35 2 vi items.length (vl IV items) :: vecR 47 14 vc calls.length (vl CV calls) :: vecR 35 2 vd dn.length (vl IV dn) :: rowR gx (IV x) :: rowR gcb (CV ((getMK m x).getD noCall)) :: paR (.slice Ap P.length cp) P :: vecR 35 2 (.slice Am M.length cm) M.length (vl IV M) :: rowR b #[.pointer (some ⟨gc, 0, none⟩), .pointer (some ⟨gd, 0, none⟩)] :: rowsIRK gc m :: rowsIRL gd q :: []) := T
                  have hw := ord_want HG.out (by rw [← HIS.out]) (by rw [← HOV.out]) HO.out
                  have hwl := want_len HG.out hw.1 hw.2.1
                  have hrl := (reach_inv (q := q) (x := x) HG.out).len
                  obtain ⟨L, hL⟩ : ∃ v, v = reachL m q x := ⟨_, rfl⟩
                  rw [← hL] at hwl hrl T
                  obtain ⟨nL, hnL⟩ : ∃ v, v = L.length := ⟨_, rfl⟩
                  rw [← hnL] at hrl T
                  obtain ⟨AL, cL, rfl⟩ := vec_shape2 T
                  have T2 := T.vecNil 35 2
                  have HT := Lib.hid T2; have HW := Lib.hid hw; have HWL := Lib.hid hwl; have HL' := Lib.hid hL; have HNL := Lib.hid hnL
                  clear T T2 hw hwl hL hnL
                  obtain ⟨i0, hi, hz0, hz1, hz2⟩ := itm_i
                  go_wp2_with fail
                  go_loopw [16, 120] (fun u16 u120 wr => ∃ (i : Nat) (wl : List Item), u120 = .int .i64 i ∧ i ≤ nL ∧ wl = (L.take i).filter (fun z => !(getMK m z).isSome) ∧ Sts W (fun _ => False) wr (vecR 35 2 u16 wl.length (vl IV wl) :: vecR 35 2 (.slice AL nL cL) nL (vl IV L) :: rowR g (docC vi vc vd) :: vecR 35 2 vi items.length (vl IV items) :: vecR 47 14 vc calls.length (vl CV calls) :: vecR 35 2 vd dn.length (vl IV dn) :: rowR gx (IV x) :: rowR gcb (CV ((getMK m x).getD noCall)) :: paR (.slice Ap P.length cp) P :: vecR 35 2 (.slice Am M.length cm) M.length (vl IV M) :: rowR b #[.pointer (some ⟨gc, 0, none⟩), .pointer (some ⟨gd, 0, none⟩)] :: rowsIRK gc m :: rowsIRL gd q :: [])) (fun _ u120 _ => nL - (intOf u120).toNat)
                  case atStart => exact ⟨0, [], rfl, by omega, rfl, HT.out⟩
                  case round =>
                    clear HT
                    obtain ⟨i, wl, hrel⟩ := hrel
                    obtain ⟨rfl, hin, hwe, T⟩ := hrel
                    have hwl448 : wl.length ≤ 448 := by
                      rw [hwe]
                      refine Nat.le_trans (List.length_filter_le _ _) ?_
                      rw [List.length_take, ← HNL.out]; omega
                    by_cases hil : i < nL
                    · have hil1 : (i : Int) < (nL : Int) := by omega
                      have hi0 : (0 : Int) ≤ (i : Int) := by omega
                      obtain ⟨y, hy⟩ : ∃ y, L[i]? = some y := ⟨L[i]'(by rw [← HNL.out]; exact hil), List.getElem?_eq_getElem _⟩
                      obtain ⟨gL, rfl, hld⟩ := vec_load (P := Try.prog) (e := 35) TItem_size (by omega) TItem_und rfl (by kernel_rfl) (T.ord [1, 0]) HNL.out hy (by omega)
                      have hnx := take_filter (p := fun z => !(getMK m z).isSome) hy
                      rw [← hwe, HD.out.unc y] at hnx
                      have T2 := T.new (IV y) 35
                      have HNX := Lib.hid hnx
                      have HT := Lib.hid T2
                      clear T T2 hy hwe hnx
                      go_upto_region 27 with fail
                      generalize wr.alloc _ = w12 at *
                      generalize wr.heap.size = gy at *
                      clear hld
                      have ry := HT.out.row; have ly := row_lt ry
                      have HAT := Lib.hid ((docAtR g vi vc vd items calls dn HD.out.len y).at (R := rowR gy (IV y) :: _) (by have T0 := HT.out.ord [3, 4, 5, 6, 0, 1, 2]; exact T0))
                      generalize idxI y items = av at *
                      go_wp2_with fail
                      refine HAT.out.mono ?_
                      clear HAT ry ly
                      rintro e12 w13 ⟨rfl, hb⟩
                      have T := HT.out.pure hb
                      clear HT hb
                      by_cases hav : av < 0
                      · have hnx := HNX.out
                        rw [if_pos (decide_eq_true hav)] at hnx
                        have HN2 := Lib.hid hnx
                        clear hnx HNX
                        have ry := T.row; have ly := row_lt ry
                        have TA := T.new (IV y) 35
                        have hnw := Lib.hid (news_row TA.row)
                        have TA := Lib.hid (TA.ord [2, 0, 1])
                        have h63 : wl.length + 1 ≤ maxLen := by unfold maxLen; omega
                        have hby : (wl.length + 1) * 16 ≤ 140737488355328 := by omega
                        have HOK := Lib.hid (itm_one y)
                        clear T
                        go_wp2_with (at_builtin; refine wpList_append_vec rfl _ _ 30 rfl 35 i0 (.agg (IV noItem)) 2 16 Try.underlying30 hi hz0 hz1 hz2 rfl (by decide) _ _ _ rfl TA.out ⟨_, 0, none⟩ 1 1 (IV y).toList rfl rfl hnw.out HOK.out h63 hby ?_)
                        intro v14 w14 T14
                        obtain ⟨A14, c14, rfl⟩ := vec_shape2 T14
                        have hl1 : wl.length + 1 = (wl ++ [y]).length := by simp
                        rw [hl1, show vl IV wl ++ (IV y).toList = vl IV (wl ++ [y]) from (vl_snoc IV wl y).symm] at T14
                        have HT := Lib.hid (T14.ord [1, 2, 0]).drop.drop
                        rw [hl1]
                        clear TA hnw ry ly h63 hby T14 HOK hl1
                        go_wp2_with fail
                        go_roundw
                        case rel => exact ⟨i + 1, wl ++ [y], by go_num, by omega, HN2.out.symm, HT.out⟩
                        case measure => simp [intOf]; omega
                      · have hnx := HNX.out
                        rw [if_neg (by rw [decide_eq_false hav]; simp)] at hnx
                        have HN2 := Lib.hid hnx
                        clear hnx HNX
                        have HT := Lib.hid T.drop
                        clear T
                        go_wp2_with fail
                        go_roundw
                        case rel => exact ⟨i + 1, wl, by go_num, by omega, HN2.out.symm, HT.out⟩
                        case measure => simp [intOf]; omega
                    · have hil1 : ¬ (i : Int) < (nL : Int) := by omega
                      rw [List.take_of_length_le (by rw [← HNL.out]; omega)] at hwe
                      have hwlen : wl.length = M.length := by rw [hwe, HWL.out]
                      obtain ⟨Aw, cw, rfl⟩ := vec_shape2 T
                      rw [hwlen] at T ⊢
                      have hm25 : M.length ≤ 448 := by rw [← hwlen]; exact hwl448
                      have T2 : Sts W (fun _ => False) wr (rowR gx (IV x) :: vecR 35 2 (.slice Aw M.length cw) M.length (vl IV wl) :: paR (.slice Ap P.length cp) P :: vecR 35 2 (.slice Am M.length cm) M.length (vl IV M) :: rowR g (docC vi vc vd) :: vecR 35 2 vi items.length (vl IV items) :: vecR 47 14 vc calls.length (vl CV calls) :: vecR 35 2 vd dn.length (vl IV dn) :: rowR b #[.pointer (some ⟨gc, 0, none⟩), .pointer (some ⟨gd, 0, none⟩)] :: rowsIRK gc m :: rowsIRL gd q :: []) := (T.ord [1, 7, 6, 0, 8, 9, 2, 3, 4, 5, 10, 11, 12]).drop.drop
                      have HT := Lib.hid T2; have HWLE := Lib.hid hwlen; have HWE := Lib.hid hwe
                      clear T T2 hwe hwlen hwl448
                      go_upto_region 30 with fail
                      go_cut [165] from 133 to 165 (fun u165 wx => u165 = .bool false ∧ Sts W (fun _ => False) wx (rowR gx (IV x) :: vecR 35 2 (.slice Aw M.length cw) M.length (vl IV wl) :: paR (.slice Ap P.length cp) P :: vecR 35 2 (.slice Am M.length cm) M.length (vl IV M) :: rowR g (docC vi vc vd) :: vecR 35 2 vi items.length (vl IV items) :: vecR 47 14 vc calls.length (vl CV calls) :: vecR 35 2 vd dn.length (vl IV dn) :: rowR b #[.pointer (some ⟨gc, 0, none⟩), .pointer (some ⟨gd, 0, none⟩)] :: rowsIRK gc m :: rowsIRL gd q :: []))
                      case first =>
                        by_cases hM0 : M = []
                        · subst hM0
                          have hc1 : (getMK m x).isSome = true := by rw [← HIS.out]
                          have hc2 : (getML q x).isSome = false := by rw [← HOV.out]
                          obtain ⟨hOK, hPE⟩ := parts_ok HG.out hc1 hc2 HO.out
                          have hHC := fun z hz => (ord_reach HG.out hc1 hc2 HO.out z hz).1
                          have hpl := hOK.len HG.out
                          have rx := HT.out.row; have lx := row_lt rx
                          have HRT := Lib.hid (rightT HG.out (by have := HIT.out; omega) g vi vc vd (.slice Ap P.length cp) items calls dn HD.out x P hOK (R := rowR gx (IV x) :: vecR 35 2 (.slice Aw ([] : List Item).length cw) ([] : List Item).length (vl IV wl) :: vecR 35 2 (.slice Am ([] : List Item).length cm) ([] : List Item).length (vl IV []) :: rowR b #[.pointer (some ⟨gc, 0, none⟩), .pointer (some ⟨gd, 0, none⟩)] :: rowsIRK gc m :: rowsIRL gd q :: []) (by have T0 := HT.out.ord [2, 4, 5, 6, 7, 0, 1, 3, 8, 9, 10]; exact T0))
                          have HPE := Lib.hid hPE; have HHC := Lib.hid hHC; have HPLN := Lib.hid (show P.length ≤ 1000 ∧ ∀ p ∈ P, p.length ≤ 1000 from ⟨by have := HIT.out; omega, fun p hp => by have := hpl.2.2 p hp; have := HIT.out; omega⟩)
                          clear HT hc1 hc2 hOK hPE hHC hpl
                          go_wp2_with fail
                          refine HRT.out.mono ?_
                          clear HRT rx lx
                          rintro e15 w15 ⟨rfl, T⟩
                          have T : Sts W (fun _ => False) w15 (paR (.slice Ap P.length cp) P :: rowR g (docC vi vc vd) :: vecR 35 2 vi items.length (vl IV items) :: vecR 47 14 vc calls.length (vl CV calls) :: vecR 35 2 vd dn.length (vl IV dn) :: rowR gx (IV x) :: _) := T
                          have rx := (T.ord [5, 0, 1, 2, 3, 4]).row; have lx := row_lt rx
                          have HTD := Lib.hid (toldT HG.out (by have := HIT.out; omega) g vi vc vd (.slice Ap P.length cp) items calls dn HD.out x HHC.out P HPE.out HPLN.out (R := rowR gx (IV x) :: _) T)
                          clear T
                          go_wp2_with fail
                          refine HTD.out.mono ?_
                          clear HTD rx lx
                          rintro e16 w16 ⟨rfl, T⟩
                          have T : Sts W (fun _ => False) w16 (paR (.slice Ap P.length cp) P :: rowR g (docC vi vc vd) :: vecR 35 2 vi items.length (vl IV items) :: vecR 47 14 vc calls.length (vl CV calls) :: vecR 35 2 vd dn.length (vl IV dn) :: rowR gx (IV x) :: _) := T
                          have HT := Lib.hid (T.ord [5, 6, 0, 7, 1, 2, 3, 4]); clear T
                          go_wp2_with fail
                          go_meet
                          case rel => exact ⟨rfl, HT.out⟩
                        · have hP0 : P = [] := HW.out.2.2 hM0
                          subst hP0
                          have hpos : 0 < M.length := List.length_pos_iff.2 hM0
                          have hpos1 : (0 : Int) < (M.length : Int) := by omega
                          have hpos2 : ((M.length : Int) == 0) = false := by rw [beq_eq_false_iff_ne]; omega
                          have hpos3 : ¬ ((M.length : Int) = 0) := by omega
                          clear hM0
                          go_wp2_with fail
                          go_meet
                          case rel => exact ⟨rfl, HT.out⟩
                      case rest =>
                        obtain ⟨rfl, T⟩ := hcut
                        clear HT
                        have HT := Lib.hid T; clear T
                        go_wp2_with fail
                        go_loopw [168] (fun u168 wx => ∃ k : Nat, u168 = .int .i64 k ∧ k ≤ M.length ∧ Sts W (fun _ => False) wx (rowR gx (IV x) :: vecR 35 2 (.slice Aw M.length cw) M.length (vl IV wl) :: paR (.slice Ap P.length cp) P :: vecR 35 2 (.slice Am M.length cm) M.length (vl IV M) :: rowR g (docC vi vc vd) :: vecR 35 2 vi items.length (vl IV items) :: vecR 47 14 vc calls.length (vl CV calls) :: vecR 35 2 vd dn.length (vl IV dn) :: rowR b #[.pointer (some ⟨gc, 0, none⟩), .pointer (some ⟨gd, 0, none⟩)] :: rowsIRK gc m :: rowsIRL gd q :: [])) (fun u168 _ => M.length - (intOf u168).toNat)
                        case atStart => exact ⟨0, rfl, by omega, HT.out⟩
                        case round =>
                          clear HT
                          obtain ⟨k, hrel⟩ := hrel
                          obtain ⟨rfl, hkm, T⟩ := hrel
                          by_cases hkl : k < M.length
                          · have hkl1 : (k : Int) < (M.length : Int) := by omega
                            have hk0 : (0 : Int) ≤ (k : Int) := by omega
                            obtain ⟨y, hy⟩ : ∃ y, M[k]? = some y := ⟨M[k]'hkl, List.getElem?_eq_getElem _⟩
                            obtain ⟨gM, rfl, hld⟩ := vec_load (P := Try.prog) (e := 35) TItem_size (by omega) TItem_und rfl (by kernel_rfl) (T.ord [3, 0, 1, 2]) rfl hy (by omega)
                            have hcm : M.length ≤ cm := by
                              rcases (T.ord [3, 0, 1, 2]).vec.2 with ⟨h, _⟩ | ⟨g2, cap, cur, h, _, _, h3, _⟩
                              · cases h
                              · injection h with _ _ h
                                subst h; exact h3
                            have hyM : y ∈ M := List.mem_of_getElem? hy
                            have hyw : inB y wl = true := by
                              rw [inB_iff, HWE.out, HL'.out, List.mem_filter]
                              have := (HW.out.2.1 y).1 hyM
                              exact ⟨this.1, by rw [this.2]; rfl⟩
                            have hyk : inB y (M.take k) = false := by
                              cases hc : inB y (M.take k) with
                              | false => rfl
                              | true =>
                                have hnd := HW.out.1
                                have hs : M = M.take k ++ M.drop k := (List.take_append_drop k M).symm
                                rw [hs, List.nodup_append] at hnd
                                refine absurd rfl (hnd.2.2 y (inB_iff.1 hc) y ?_)
                                obtain ⟨h1, rfl⟩ := List.getElem?_eq_some_iff.1 hy
                                have e := List.drop_eq_getElem_cons h1
                                rw [e]
                                exact List.mem_cons_self
                            have T2 := T.new (IV y) 35
                            have HT := Lib.hid T2
                            clear T T2 hy hyM
                            go_upto_region 35 with fail
                            generalize wr.alloc _ = w20 at *
                            generalize wr.heap.size = gy at *
                            clear hld
                            have HT2 := Lib.hid HT.out.drew
                            have HHW := Lib.hid (docHasR (.slice Aw M.length cw) wl (by rw [HWLE.out]; omega) y)
                            rw [hyw, HWLE.out] at HHW
                            have FS : ∀ W' R', Sts W (fun _ => False) W' (rowR gy (IV y) :: R') → row? W' gy = some (IV y) := fun W' R' T => T.row
                            have HFS := Lib.hid FS
                            have S0 := FS _ _ HT2.out
                            have htl : (M.take k).length = k := by rw [List.length_take]; omega
                            have hk3 : k ≤ cm := by omega
                            have hk4 : (k : Int) ≤ (cm : Int) := by omega
                            have HYK := Lib.hid hyk; have HTL := Lib.hid htl; have HM25 := Lib.hid hm25
                            clear FS HT hyw hyk htl
                            refine wp_region_held_drew (S := fun W' => row? W' gy = some (IV y)) (by kernel_rfl) S0 (fun hHeld => ?_)
                            clear S0
                            refine tkH 0 rfl (v := ?_) ?_ ?_
                            rotate_left
                            · intro w h; (try dsimp only at h); go_simp; try with_reducible rfl
                            simp only [Act.put, List.getElem_toArray, List.getElem_cons_zero, List.setIfInBounds_toArray, List.set_cons_zero, List.set_cons_succ]
                            refine tkH 1 rfl (v := ?_) ?_ ?_
                            rotate_left
                            · intro w h; (try dsimp only at h); go_simp; try with_reducible rfl
                            go_frame
                            refine wpAnyH_ready (rs := [2]) (by kernel_rfl) (by simp) ?_
                            refine AllReadyH.cons (o := _) rfl (fun K hK => ?_) AllReadyH.nil
                            go_simp
                            refine (HHW.out.at1 (by have T0 := HT2.out.ord [2, 0, 1]; exact T0)).mono ?_
                            rintro e9 w9 ⟨rfl, hb⟩
                            have T := HT2.out.pure hb
                            refine hK.out _ _ (HFS.out _ _ T) (fun hHeld => ?_)
                            clear hK K hb HT2 HHW
                            have HT2 := Lib.hid T; clear T
                            refine tkH 3 rfl (v := ?_) ?_ ?_
                            rotate_left
                            · intro w h; (try dsimp only at h); go_simp; try with_reducible rfl
                            simp only [Act.put, List.getElem_toArray, List.getElem_cons_succ, List.getElem_cons_zero, List.setIfInBounds_toArray, List.set_cons_zero, List.set_cons_succ]
                            refine tkH 4 rfl (v := ?_) ?_ ?_
                            rotate_left
                            · intro w h; (try dsimp only at h); go_simp; try with_reducible rfl
                            go_frame
                            refine tkH 5 rfl (v := ?_) ?_ ?_
                            rotate_left
                            · intro w h; (try dsimp only at h); go_simp; try with_reducible rfl
                            go_frame
                            refine tkH 6 rfl (v := ?_) ?_ ?_
                            rotate_left
                            · intro w h; (try dsimp only at h); go_simp; try with_reducible rfl
                            go_frame
                            refine tkH 7 rfl (v := ?_) ?_ ?_
                            rotate_left
                            · intro w h; (try dsimp only at h); go_simp; try with_reducible rfl
                            go_frame
                            refine tkH 8 rfl (v := ?_) ?_ ?_
                            rotate_left
                            · intro w h; (try dsimp only at h); go_simp; try with_reducible rfl
                            go_frame
                            refine wpAnyH_ready (rs := [9]) (by kernel_rfl) (by simp) ?_
                            refine AllReadyH.cons (o := _) rfl (fun K hK => ?_) AllReadyH.nil
                            go_simp
                            have hro := (vec_in TItem_size rfl (HT2.out.ord [4, 0, 1, 2, 3]) (by omega) (by have := HM25.out; omega)).take k
                            have hhs := docHasIn (some ⟨gM, 0, none⟩) cm (M.take k) (by rw [HTL.out]; have := HM25.out; omega) y _ hro
                            rw [HTL.out, HYK.out] at hhs
                            refine hhs.mono ?_
                            clear hhs hro
                            rintro e9 w9 ⟨rfl, hb⟩
                            have T := HT2.out.pure hb
                            refine hK.out _ _ (HFS.out _ _ T) (fun hHeld => ?_)
                            clear hK K hb HT2 HFS
                            have HT := Lib.hid T.drop; clear T
                            refine tkH 10 rfl (v := ?_) ?_ ?_
                            rotate_left
                            · intro w h; (try dsimp only at h); go_simp; try with_reducible rfl
                            simp only [Act.put, List.getElem_toArray, List.getElem_cons_succ, List.getElem_cons_zero, List.setIfInBounds_toArray, List.set_cons_zero, List.set_cons_succ]
                            refine wpAnyH_done (by kernel_rfl) ?_ _
                            try simp only [Exit.then]
                            go_wp2_with fail
                            go_roundw
                            case rel => exact ⟨k + 1, by go_num, by omega, HT.out⟩
                            case measure => simp [intOf]; omega
                          · have hkl1 : ¬ (k : Int) < (M.length : Int) := by omega
                            have HT := Lib.hid (T.ord [0, 1, 2, 3]).drop.drop.drop.drop; clear T
                            go_wp2_with fail
                            go_roundw
                            case rel => exact ⟨j + 1, by go_num, by omega, HT.out⟩
                            case measure => simp [intOf]; omega
          · have hj1 : ¬ (j : Int) < 7 := by omega
            have HT := Lib.hid T; clear T
            go_wp2_with fail
            go_roundw
            case rel => exact ⟨rep + 1, rfl, by omega, by omega, HT.out⟩
            case measure => simp [intOf]; omega
      · have T0 := HT.out.nil
        clear HT
        have T1 := T0.vecNew (IV ⟨noItem.rep, 1⟩) 35 2 1 rfl (by unfold maxLen; omega)
        rw [← vl_one] at T1
        have hro := vec_in (n := 1) (A := some ⟨wr.heap.size, 0, none⟩) (l := [(⟨noItem.rep, 1⟩ : Item)]) TItem_size rfl T1 (by omega) (by omega)
        have HND := Lib.hid (nilDone (some ⟨wr.heap.size, 0, none⟩) 1 ⟨noItem.rep, 1⟩ _ hro)
        have HT := Lib.hid T1.nil
        clear T0 T1 hro
        go_wp2_with fail
        refine HND.out.mono ?_
        clear HND
        rintro e30 w30 ⟨rfl, hb⟩
        have HT2 := Lib.hid (HT.out.pure hb)
        clear hb HT
        generalize wr.heap.size = gz at *
        have HO1 := Lib.hid (nilOrder ⟨noItem.rep, 1⟩)
        go_wp2_with fail
        refine (Ans.at HO1.out HT2.out).mono ?_
        clear HO1 HT2
        rintro e31 w31 ⟨rfl, T⟩
        have HT := Lib.hid T; clear T
        have HO1 := Lib.hid (nilCall ⟨noItem.rep, 1⟩)
        go_wp2_with fail
        refine (Ans.at HO1.out HT.out).mono ?_
        clear HO1 HT
        rintro e32 w32 ⟨rfl, T⟩
        have HT := Lib.hid (T.new (CV noCall) 47).nil; clear T
        have HO1 := Lib.hid (nilCommit ⟨noItem.rep, 1⟩ noCall)
        go_wp2_with fail
        refine (Ans.at HO1.out HT.out).mono ?_
        clear HO1 HT
        rintro e33 w33 ⟨rfl, T⟩
        have HT := Lib.hid T; clear T
        have HO1 := Lib.hid (nilIs ⟨noItem.rep, 1⟩)
        go_wp2_with fail
        refine (Ans.at HO1.out HT.out).mono ?_
        clear HO1 HT
        rintro e34 w34 ⟨rfl, T⟩
        have HT := Lib.hid T; clear T
        have HO1 := Lib.hid (nilOver ⟨noItem.rep, 1⟩)
        go_wp2_with fail
        refine (Ans.at HO1.out HT.out).mono ?_
        clear HO1 HT
        rintro e35 w35 ⟨rfl, T⟩
        have HT := Lib.hid T; clear T
        go_wp2_with fail
        go_ret
        exact ⟨rfl, HT.out.below⟩
end
end Go.Proofs.Ytnjgjhjilolanaa
