/- Several texts in one. -/
import Derived.Test.YtnjgjhjilolanaaZ21
import Derived.Test.YtnjgjhjilolanaaZ24
/- GraphOnce: what is committed stays, with its first call; what can't be isn't, and nothing is done by it. -/
namespace Go.Proofs.Ytnjgjhjilolanaa
open Go.RowKit Go.Shelf
set_option linter.unusedVariables false
set_option maxRecDepth 20000
attribute [local go_sem] Oper.semAt_some
attribute [local go_sem] row_alloc row_drew row_drewN row_ext row_setCell row_setRow size_ext setRow_alloc setRow_drew loadOf storeOf piece_lit loadVal_at storeVal_at allOne_lit buildOf buildRes_some
attribute [local go_sem high] cell_alloc frozen_alloc setCell_alloc cell_ext frozen_ext cell_setRow frozen_setRow
attribute [local go_sem ↓] TDeed_ld0 TDeed_st0 TDeed_fd0 TDeed_bd0
attribute [local go_sem] TDeed_size TDeed_one TDeed_piece TDeed_c0 TDeed_c1 TDeed_c2 TDeed_c3 TDeed_c4 TDeed_c5 TDeed_set_kind TDeed_set_key TDeed_set_val TDeed_set_ver TDeed_set_ses TDeed_set_num TDeed_ld TDeed_st TDeed_f_kind TDeed_f_key TDeed_f_val TDeed_f_ver TDeed_f_ses TDeed_f_num TDeed_bd TDeed_fl TDeed_fl_kind TDeed_fl_key TDeed_fl_val TDeed_fl_ver TDeed_fl_ses TDeed_fl_num
attribute [local go_sem high] TDeed_eql TDeed_neq
attribute [local go_sem ↓] index_deps0 load_deps0 store_deps0
attribute [local go_sem] DV_piece DV_size DV_one index_deps load_deps store_deps
attribute [local go_sem high] TDeps_eql TDeps_neq
attribute [local go_sem ↓] TCall_ld0 TCall_st0 TCall_fd0 TCall_bd0
attribute [local go_sem] TCall_size TCall_one TCall_piece TCall_c0 TCall_c1 TCall_c2 TCall_c3 TCall_c4 TCall_c5 TCall_c6 TCall_c7 TCall_c8 TCall_c9 TCall_c10 TCall_c11 TCall_c12 TCall_c13 TCall_p_deed TCall_put_deed TCall_p_deps TCall_put_deps TCall_set_seq TCall_ld TCall_st TCall_f_deed TCall_f_deps TCall_f_seq TCall_bd TCall_fl TCall_fl_deed TCall_fl_deps TCall_fl_seq
attribute [local go_sem high] TCall_eql TCall_neq
attribute [local go_sem ↓] TItem_ld0 TItem_st0 TItem_fd0 TItem_bd0
attribute [local go_sem] TItem_size TItem_one TItem_piece TItem_c0 TItem_c1 TItem_set_rep TItem_set_num TItem_ld TItem_st TItem_f_rep TItem_f_num TItem_bd TItem_fl TItem_fl_rep TItem_fl_num
attribute [local go_sem high] TItem_eql TItem_neq
theorem GBld.canNo {n : Int} {k : Nat} {m : RowsMK} {q : RowsML} {items : List Item} {calls : List Call} {dn : List Item} (h : GBld n k m q items calls dn) {x : Item} (hx : x ∈ items) (c : Call) : canC m x c = false := by
  unfold canC
  rw [(h.is x).2 hx]
  simp
theorem idxN_at {l : List Item} (hn : l.Nodup) {i : Nat} {x : Item} (hx : l[i]? = some x) : idxN x l = i := by
  obtain ⟨hil, rfl⟩ := List.getElem?_eq_some_iff.1 hx
  unfold idxN
  rw [List.findIdx_eq hil]
  refine ⟨eqA_refl _, fun j hj => eqA_no.2 fun h => ?_⟩
  exact List.pairwise_iff_getElem.1 hn j i (by omega) hil hj (IV_eq h).symm
theorem vec_load {α : Type} {V : α → Array Value} {size : Nat} {P : Program} {e : TypeId} {td : TypeDesc} {w W : World} {F : Nat → Prop} {R : List Res} {A : Option Addr} {k c : Nat} {l : List α} {i : Nat} {y : α} (hV : ∀ x, (V x).size = size) (h0 : 0 < size) (hu : P.underlying e = some td) (hd : td.isRow = true) (hi : (P.info? e).map (·.size) = some size) (T : Sts w F W (vecR e size (.slice A k c) k (vl V l) :: R)) (hk : k = l.length) (hy : l[i]? = some y) (hl : k ≤ 1000000) :
    ∃ g, A = some ⟨g, 0, none⟩ ∧ loadVal P e size W (.pointer (some ⟨g, i * size, none⟩)) = .ok (.agg (V y)) W := by
  subst hk
  obtain ⟨A', c', hv, hA, -, hA0⟩ := vec_rows hV T h0 (by omega)
  injection hv with e1 e2 e3
  subst e1
  obtain ⟨hil, rfl⟩ := List.getElem?_eq_some_iff.1 hy
  cases hh : A with
  | none => have := hA.nil hh; subst this; simp at hil
  | some a =>
    obtain ⟨g, rfl⟩ := hA0 a hh
    have hld := hA.load (P := P) (T := e) hV hu hd hi (Below.refl _ _) hh hil
    rw [add_none, Nat.zero_add] at hld
    exact ⟨g, rfl, hld⟩
set_option maxHeartbeats 16000000 in
theorem law_once (n : Int) (A : Option Addr) (c : Nat) (l : List GStep) (cl : Call) (W : World) (hl : RowsIn W A 17 GSV l) :
    Calls Try.prog 5 #[.int .i64 n, .slice A l.length c, .agg (CV cl)] W fun e W' => e = .returned (.bool true) ∧ Below W.heap.size W W' := by
  have hlen := hl.len
  have HL := Lib.hid hl; clear hl
  have T := (Sts.start0 W).new (CV cl) 47
  have HT := Lib.hid T
  have HAL := Lib.hid (alive18 T)
  clear T
  go_enter Try.func5, Try.ntmps5
  go_wp2_with fail
  refine HAL.out.mono ?_
  clear HAL
  rintro e1 w1 ⟨rfl, T⟩
  clear HT
  have HT := Lib.hid T; clear T
  generalize hgx : W.heap.size = gx at *
  obtain ⟨gb, hgb⟩ : ∃ v, v = greatG n l.length := ⟨_, rfl⟩
  have HG := Lib.hid (fun w => great18 n A l.length c (by omega) w)
  rw [← hgb] at HG
  have HGB := Lib.hid hgb; clear hgb
  go_wp2_with fail
  refine (HG.out _).mono ?_
  clear HG
  rintro e2 w2 ⟨rfl, rfl⟩
  cases gb
  case true =>
    go_wp2
    go_ret
    exact ⟨rfl, by first | exact HT.out.below | (rw [← hgx]; exact HT.out.below)⟩
  case false =>
    obtain ⟨hn, hl25⟩ := great_no HGB.out.symm
    have HBD := Lib.hid (buildT n hn A c l HL.out hl25 HT.out)
    have hHN := Lib.hid hn; clear hn
    go_wp2_with fail
    refine HBD.out.mono ?_
    clear HBD HT
    rintro e3 w3 ⟨b, gc, gd, g, vi, vc, vd, m, q, items, calls, dn, rfl, hB, T⟩
    have T : Sts W (fun _ => False) w3 (rowR g (docC vi vc vd) :: vecR 35 2 vi items.length (vl IV items) :: vecR 47 14 vc calls.length (vl CV calls) :: vecR 35 2 vd dn.length (vl IV dn) :: rowR b #[.pointer (some ⟨gc, 0, none⟩), .pointer (some ⟨gd, 0, none⟩)] :: rowsIRK gc m :: rowsIRL gd q :: rowR gx (CV cl) :: []) := T
    obtain ⟨Ai, ci, rfl⟩ := vec_shape2 (T.ord [1, 0])
    obtain ⟨Ac, cc, rfl⟩ := vec_shape2 (T.ord [2, 0, 1])
    obtain ⟨ni, hni⟩ : ∃ v, v = items.length := ⟨_, rfl⟩
    have hcl : calls.length = ni := by rw [hni, hB.len]
    have hni25 : ni ≤ 25 := by rw [hni]; have := hB.lei; omega
    rw [← hni, hcl] at T
    have hr := T.row; have hlt := row_lt hr
    have c0 : w3.cell? ⟨g, 0, none⟩ = some (.slice Ai ni ci) := by rw [row_cell hr 0]; rfl
    have HT := Lib.hid T; have HB := Lib.hid hB; have HNI := Lib.hid hni; have HCL := Lib.hid hcl
    clear T hB hni hcl
    go_wp2_with fail
    go_loopw [32] (fun u32 wr => ∃ i : Nat, u32 = .int .i64 i ∧ i ≤ ni ∧ Sts W (fun _ => False) wr (rowR g (docC (.slice Ai ni ci) (.slice Ac ni cc) vd) :: vecR 35 2 (.slice Ai ni ci) ni (vl IV items) :: vecR 47 14 (.slice Ac ni cc) ni (vl CV calls) :: vecR 35 2 vd dn.length (vl IV dn) :: rowR b #[.pointer (some ⟨gc, 0, none⟩), .pointer (some ⟨gd, 0, none⟩)] :: rowsIRK gc m :: rowsIRL gd q :: rowR gx (CV cl) :: [])) (fun u32 _ => ni - (intOf u32).toNat)
    case atStart => exact ⟨0, rfl, Nat.zero_le _, HT.out⟩
    case round =>
      clear HT hr hlt c0
      obtain ⟨i, rfl, hi, T⟩ := hrel
      by_cases hin : i < ni
      · have hin' : (i : Int) < (ni : Int) := by omega
        have hi0 : (0 : Int) ≤ (i : Int) := by omega
        obtain ⟨x, hx⟩ : ∃ x, items[i]? = some x := ⟨items[i]'(by rw [← HNI.out]; exact hin), List.getElem?_eq_getElem _⟩
        obtain ⟨y, hy⟩ : ∃ y, calls[i]? = some y := ⟨calls[i]'(by rw [HCL.out]; exact hin), List.getElem?_eq_getElem _⟩
        have hxm : x ∈ items := List.mem_of_getElem? hx
        have hget : getMK m x = some y := by
          have h1 : idxN x items = i := idxN_at HB.out.nodup hx
          rw [HB.out.get, h1, hy]
        have hcan := HB.out.canNo hxm cl
        have hcom := comC_no hcan
        have HCM := Lib.hid (grCommitD b gc gd m q (by rw [HB.out.mn]; have := hHN.out; omega) x cl)
        rw [hcan, hcom] at HCM
        have HCR := Lib.hid (grCallR b gc gd m q (by rw [HB.out.mn]; have := hHN.out; omega) x)
        rw [hget] at HCR
        simp only [Option.getD_some, Option.isSome_some] at HCR
        obtain ⟨gi, rfl, hld⟩ := vec_load (P := Try.prog) (e := 35) TItem_size (by omega) TItem_und rfl (by kernel_rfl) (T.ord [1, 0]) HNI.out hx (by omega)
        have T2 := (T.new (IV x) 35).ord [1, 0]
        have HT := Lib.hid T2
        have HY := Lib.hid hy
        have hrx := HT.out.row1; have hlx := row_lt hrx
        have hrc := (HT.out.ord [8, 0, 1, 2, 3, 4, 5, 6, 7]).row; have hlc := row_lt hrc
        clear T T2 hx hy hxm hget hcan hcom
        go_upto_region 9 with fail
        generalize hw4 : wr.alloc _ = w4 at *
        generalize wr.heap.size = gy at *
        clear hw4 hld
        go_wp2_with fail
        refine (Does.at (L := grL b gc gd m q) (R := rowR g _ :: _) HCM.out (by have T0 := HT.out.ord [5, 6, 7, 0, 1, 2, 3, 4, 8]; exact T0)).mono ?_
        clear HCM HT hrx hlx hrc hlc
        rintro e5 w5 ⟨rfl, T⟩
        have T : Sts W (fun _ => False) w5 (rowR b #[.pointer (some ⟨gc, 0, none⟩), .pointer (some ⟨gd, 0, none⟩)] :: rowsIRK gc m :: rowsIRL gd q :: rowR g (docC (.slice (some ⟨gi, 0, none⟩) ni ci) (.slice Ac ni cc) vd) :: rowR gy (IV x) :: vecR 35 2 (.slice (some ⟨gi, 0, none⟩) ni ci) ni (vl IV items) :: vecR 47 14 (.slice Ac ni cc) ni (vl CV calls) :: vecR 35 2 vd dn.length (vl IV dn) :: rowR gx (CV cl) :: []) := T
        have hrx := (T.ord [4, 0, 1, 2, 3]).row; have hlx := row_lt hrx
        have HT := Lib.hid T; clear T
        go_wp2_with fail
        refine (HCR.out.at (R := rowR g _ :: _) HT.out).mono ?_
        clear HCR hrx hlx
        rintro e6 w6 ⟨rfl, hb⟩
        have T := (HT.out.pure hb).new (CV y) 47
        have HT2 := Lib.hid (T.ord [4, 0, 7, 1, 2, 3, 5, 6]); clear hb HT T
        go_upto_region 12 with fail
        generalize hw7 : w6.alloc _ = w7 at *
        generalize w6.heap.size = gz at *
        clear hw7
        have FS : ∀ W' R', Sts W (fun _ => False) W' (rowR g (docC (.slice (some ⟨gi, 0, none⟩) ni ci) (.slice Ac ni cc) vd) :: rowR gz (CV y) :: vecR 47 14 (.slice Ac ni cc) ni (vl CV calls) :: R') → ∃ gq, Ac = some ⟨gq, 0, none⟩ ∧ (row? W' gz = some (CV y) ∧ W'.cell? ⟨g, 1, none⟩ = some (.slice Ac ni cc) ∧ loadVal Try.prog 47 14 W' (.pointer (some ⟨gq, i * 14, none⟩)) = .ok (.agg (CV y)) W') := fun W' R' T => by
          obtain ⟨gq, hq, hld⟩ := vec_load (P := Try.prog) (e := 47) TCall_size (by omega) TCall_und rfl (by kernel_rfl) (T.ord [2, 0, 1]) HCL.out.symm HY.out (by omega)
          exact ⟨gq, hq, T.row1, by rw [row_cell T.row 1]; rfl, hld⟩
        have HT3 := Lib.hid HT2.out.drew
        obtain ⟨gq, rfl, S0⟩ := FS _ _ HT3.out
        clear FS HT2
        refine wp_region_held_drew (S := fun W' => (row? W' gz = some (CV y) ∧ W'.cell? ⟨g, 1, none⟩ = some (.slice (some ⟨gq, 0, none⟩) ni cc) ∧ loadVal Try.prog 47 14 W' (.pointer (some ⟨gq, i * 14, none⟩)) = .ok (.agg (CV y)) W')) (by kernel_rfl) S0 (fun hHeld => ?_)
        clear S0
        have hself := eqA_refl (CV y)
        refine wpAnyH_take (i := 0) (oi := _) (v := ?_) rfl (by kernel_rfl) (by kernel_rfl) (by kernel_rfl) (fun _ _ _ h => h) (Or.inl ⟨by kernel_rfl, ?_⟩) (by assumption) ?_
        rotate_left
        · (intro w hSw; (try dsimp only at hSw); go_simp; try (with_reducible rfl))
        simp only [Act.put, List.getElem_toArray, List.getElem_cons_zero, List.setIfInBounds_toArray, List.set_cons_zero, List.set_cons_succ]
        refine wpAnyH_take (i := 1) (oi := _) (v := ?_) rfl (by kernel_rfl) (by kernel_rfl) (by kernel_rfl) (fun _ _ _ h => h) (Or.inl ⟨by kernel_rfl, ?_⟩) (by assumption) ?_
        rotate_left
        · (intro w hSw; (try dsimp only at hSw); go_simp; try (with_reducible rfl))
        simp only [Act.put, List.getElem_toArray, List.getElem_cons_succ, List.getElem_cons_zero, List.setIfInBounds_toArray, List.set_cons_zero, List.set_cons_succ]
        refine wpAnyH_take (i := 2) (oi := _) (v := ?_) rfl (by kernel_rfl) (by kernel_rfl) (by kernel_rfl) (fun _ _ _ h => h) (Or.inl ⟨by kernel_rfl, ?_⟩) (by assumption) ?_
        rotate_left
        · (intro w hSw; (try dsimp only at hSw); go_simp; try (with_reducible rfl))
        simp only [Act.put, List.getElem_toArray, List.getElem_cons_succ, List.getElem_cons_zero, List.setIfInBounds_toArray, List.set_cons_zero, List.set_cons_succ]
        refine wpAnyH_take (i := 3) (oi := _) (v := ?_) rfl (by kernel_rfl) (by kernel_rfl) (by kernel_rfl) (fun _ _ _ h => h) (Or.inl ⟨by kernel_rfl, ?_⟩) (by assumption) ?_
        rotate_left
        · (intro w hSw; (try dsimp only at hSw); go_simp; try (with_reducible rfl))
        simp only [Act.put, List.getElem_toArray, List.getElem_cons_succ, List.getElem_cons_zero, List.setIfInBounds_toArray, List.set_cons_zero, List.set_cons_succ]
        refine wpAnyH_take (i := 4) (oi := _) (v := ?_) rfl (by kernel_rfl) (by kernel_rfl) (by kernel_rfl) (fun _ _ _ h => h) (Or.inl ⟨by kernel_rfl, ?_⟩) (by assumption) ?_
        rotate_left
        · (intro w hSw; (try dsimp only at hSw); go_simp; try (with_reducible rfl))
        simp only [Act.put, List.getElem_toArray, List.getElem_cons_succ, List.getElem_cons_zero, List.setIfInBounds_toArray, List.set_cons_zero, List.set_cons_succ]
        refine wpAnyH_take (i := 5) (oi := _) (v := ?_) rfl (by kernel_rfl) (by kernel_rfl) (by kernel_rfl) (fun _ _ _ h => h) (Or.inl ⟨by kernel_rfl, ?_⟩) (by assumption) ?_
        rotate_left
        · (intro w hSw; (try dsimp only at hSw); go_simp; try (with_reducible rfl))
        simp only [Act.put, List.getElem_toArray, List.getElem_cons_succ, List.getElem_cons_zero, List.setIfInBounds_toArray, List.set_cons_zero, List.set_cons_succ]
        refine wpAnyH_take (i := 6) (oi := _) (v := ?_) rfl (by kernel_rfl) (by kernel_rfl) (by kernel_rfl) (fun _ _ _ h => h) (Or.inl ⟨by kernel_rfl, ?_⟩) (by assumption) ?_
        rotate_left
        · (intro w hSw; (try dsimp only at hSw); go_simp; try (with_reducible rfl))
        simp only [Act.put, List.getElem_toArray, List.getElem_cons_succ, List.getElem_cons_zero, List.setIfInBounds_toArray, List.set_cons_zero, List.set_cons_succ]
        refine wpAnyH_take (i := 7) (oi := _) (v := ?_) rfl (by kernel_rfl) (by kernel_rfl) (by kernel_rfl) (fun _ _ _ h => h) (Or.inl ⟨by kernel_rfl, ?_⟩) (by assumption) ?_
        rotate_left
        · (intro w hSw; (try dsimp only at hSw); go_simp; try (with_reducible rfl))
        simp only [Act.put, List.getElem_toArray, List.getElem_cons_succ, List.getElem_cons_zero, List.setIfInBounds_toArray, List.set_cons_zero, List.set_cons_succ]
        refine wpAnyH_take (i := 8) (oi := _) (v := ?_) rfl (by kernel_rfl) (by kernel_rfl) (by kernel_rfl) (fun _ _ _ h => h) (Or.inl ⟨by kernel_rfl, ?_⟩) (by assumption) ?_
        rotate_left
        · (intro w hSw; (try dsimp only at hSw); go_simp; try (with_reducible rfl))
        simp only [Act.put, List.getElem_toArray, List.getElem_cons_succ, List.getElem_cons_zero, List.setIfInBounds_toArray, List.set_cons_zero, List.set_cons_succ]
        refine wpAnyH_take (i := 9) (oi := _) (v := ?_) rfl (by kernel_rfl) (by kernel_rfl) (by kernel_rfl) (fun _ _ _ h => h) (Or.inl ⟨by kernel_rfl, ?_⟩) (by assumption) ?_
        rotate_left
        · (intro w hSw; (try dsimp only at hSw); go_simp; try (with_reducible rfl))
        simp only [Act.put, List.getElem_toArray, List.getElem_cons_succ, List.getElem_cons_zero, List.setIfInBounds_toArray, List.set_cons_zero, List.set_cons_succ]
        refine wpAnyH_take (i := 10) (oi := _) (v := ?_) rfl (by kernel_rfl) (by kernel_rfl) (by kernel_rfl) (fun _ _ _ h => h) (Or.inl ⟨by kernel_rfl, ?_⟩) (by assumption) ?_
        rotate_left
        · (intro w hSw; (try dsimp only at hSw); go_simp; try (with_reducible rfl))
        simp only [Act.put, List.getElem_toArray, List.getElem_cons_succ, List.getElem_cons_zero, List.setIfInBounds_toArray, List.set_cons_zero, List.set_cons_succ]
        refine wpAnyH_take (i := 11) (oi := _) (v := ?_) rfl (by kernel_rfl) (by kernel_rfl) (by kernel_rfl) (fun _ _ _ h => h) (Or.inl ⟨by kernel_rfl, ?_⟩) (by assumption) ?_
        rotate_left
        · (intro w hSw; (try dsimp only at hSw); go_simp; try (with_reducible rfl))
        simp only [Act.put, List.getElem_toArray, List.getElem_cons_succ, List.getElem_cons_zero, List.setIfInBounds_toArray, List.set_cons_zero, List.set_cons_succ]
        refine wpAnyH_take (i := 12) (oi := _) (v := ?_) rfl (by kernel_rfl) (by kernel_rfl) (by kernel_rfl) (fun _ _ _ h => h) (Or.inl ⟨by kernel_rfl, ?_⟩) (by assumption) ?_
        rotate_left
        · (intro w hSw; (try dsimp only at hSw); go_simp; try (with_reducible rfl))
        simp only [Act.put, List.getElem_toArray, List.getElem_cons_succ, List.getElem_cons_zero, List.setIfInBounds_toArray, List.set_cons_zero, List.set_cons_succ]
        refine wpAnyH_done (by kernel_rfl) ?_ _
        try simp only [Exit.then]
        clear hHeld
        go_wp2
        go_roundw
        case rel => exact ⟨i + 1, by go_num, by omega, (HT3.out.ord [1, 6, 0, 7, 2, 8, 3, 4, 5]).drop.drop⟩
        case measure => simp [intOf]; omega
      · have hin' : ¬ (i : Int) < (ni : Int) := by omega
        have hgi1 : goodI ⟨n, 1⟩ m.n = false := by rw [HB.out.mn]; simp [goodI]
        have hgi2 : goodI ⟨noItem.rep, 65⟩ m.n = false := by simp [goodI]
        have hc1 : canC m ⟨n, 1⟩ cl = false := by unfold canC; rw [hgi1, Bool.and_false]
        have hc2 : canC m ⟨noItem.rep, 65⟩ cl = false := by unfold canC; rw [hgi2, Bool.and_false]
        have his : (getMK m ⟨n, 1⟩).isSome = false := by
          cases h : (getMK m ⟨n, 1⟩).isSome with
          | false => rfl
          | true => rw [getMK_good h] at hgi1; cases hgi1
        have hmb : 0 ≤ m.n ∧ m.n ≤ 7 := by rw [HB.out.mn]; have := hHN.out; omega
        have HC1 := Lib.hid (grCommitD b gc gd m q hmb ⟨n, 1⟩ cl)
        rw [hc1, comC_no hc1] at HC1
        have HC2 := Lib.hid (grCommitD b gc gd m q hmb ⟨noItem.rep, 65⟩ cl)
        rw [hc2, comC_no hc2] at HC2
        have HIS := Lib.hid (grIsR b gc gd m q hmb ⟨n, 1⟩)
        rw [his] at HIS
        have T2 := (T.new (IV ⟨n, 1⟩) 35).ord [5, 6, 7, 0, 8, 1, 2, 3, 4]
        have HT := Lib.hid T2
        have hry := HT.out.row3; have hly := row_lt hry
        have hrc := (HT.out.ord [4, 0, 1, 2, 3]).row; have hlc := row_lt hrc
        clear T T2 hgi1 hgi2 hc1 hc2 his hmb
        go_upto_region 16 with fail
        generalize hw4 : wr.alloc _ = w4 at *
        generalize wr.heap.size = gy at *
        clear hw4
        go_wp2_with fail
        refine (Does.at (L := grL b gc gd m q) (R := rowR gy _ :: _) HC1.out HT.out).mono ?_
        clear HC1 HT hry hly hrc hlc
        rintro e5 w5 ⟨rfl, T⟩
        have T : Sts W (fun _ => False) w5 (grL b gc gd m q ++ rowR gy (IV ⟨n, 1⟩) :: rowR gx (CV cl) :: rowR g (docC (.slice Ai ni ci) (.slice Ac ni cc) vd) :: vecR 35 2 (.slice Ai ni ci) ni (vl IV items) :: vecR 47 14 (.slice Ac ni cc) ni (vl CV calls) :: vecR 35 2 vd dn.length (vl IV dn) :: []) := T
        have T' : Sts W (fun _ => False) w5 (rowR b #[.pointer (some ⟨gc, 0, none⟩), .pointer (some ⟨gd, 0, none⟩)] :: rowsIRK gc m :: rowsIRL gd q :: rowR gy (IV ⟨n, 1⟩) :: rowR gx (CV cl) :: rowR g (docC (.slice Ai ni ci) (.slice Ac ni cc) vd) :: vecR 35 2 (.slice Ai ni ci) ni (vl IV items) :: vecR 47 14 (.slice Ac ni cc) ni (vl CV calls) :: vecR 35 2 vd dn.length (vl IV dn) :: []) := T
        have hry := T'.row3; have hly := row_lt hry
        have hrc := (T'.ord [4, 0, 1, 2, 3]).row; have hlc := row_lt hrc
        have HT := Lib.hid T'; clear T T'
        go_wp2_with fail
        refine (HIS.out.at (R := rowR gy _ :: _) HT.out).mono ?_
        clear HIS hry hly hrc hlc
        rintro e6 w6 ⟨rfl, hb⟩
        have T := HT.out.pure hb
        clear hb HT
        have hry := T.row3; have hly := row_lt hry
        have hrc := (T.ord [4, 0, 1, 2, 3]).row; have hlc := row_lt hrc
        have HT := Lib.hid T; clear T
        go_wp2_with fail
        refine (Does.at (L := grL b gc gd m q) (R := rowR gy _ :: _) HC2.out HT.out).mono ?_
        clear HC2 HT hry hly hrc hlc
        rintro e7 w7 ⟨rfl, T⟩
        have HT := Lib.hid T; clear T
        go_wp2
        go_ret
        exact ⟨rfl, by first | exact HT.out.below | (rw [← hgx]; exact HT.out.below)⟩
end Go.Proofs.Ytnjgjhjilolanaa
