/- Several texts in one. -/
import Derived.Test.YtpganpiidgkofaaX39
import Derived.Test.YtpganpiidgkofaaX40
/- SpaceKnows: Know answers what the document says; what is known is the last of each item; Next and Top go by it; a nil space. -/
namespace Go.Proofs.Ytpganpiidgkofaa
open Go.RowKit Go.Shelf
set_option linter.unusedVariables false
set_option maxRecDepth 20000
attribute [local go_sem] Oper.semAt_some
attribute [local go_sem] row_alloc row_drew row_drewN row_ext row_setCell row_setRow size_ext setRow_alloc setRow_drew loadOf storeOf piece_lit loadVal_at storeVal_at allOne_lit buildOf buildRes_some
attribute [local go_sem high] cell_alloc frozen_alloc setCell_alloc cell_ext frozen_ext cell_setRow frozen_setRow
attribute [local go_sem ↓] TDeed_ld0 TDeed_st0 TDeed_fd0 TDeed_bd0
attribute [local go_sem] TDeed_size TDeed_one TDeed_piece TDeed_c0 TDeed_c1 TDeed_c2 TDeed_c3 TDeed_c4 TDeed_c5 TDeed_set_kind TDeed_set_key TDeed_set_val TDeed_set_ver TDeed_set_ses TDeed_set_num TDeed_ld TDeed_st TDeed_f_kind TDeed_f_key TDeed_f_val TDeed_f_ver TDeed_f_ses TDeed_f_num TDeed_bd TDeed_fl TDeed_fl_kind TDeed_fl_key TDeed_fl_val TDeed_fl_ver TDeed_fl_ses TDeed_fl_num
attribute [local go_sem high] TDeed_eql TDeed_neq
attribute [local go_sem ↓] index_deps0 load_deps0 store_deps0
attribute [local go_sem] DV_piece DV_size DV_one index_deps load_deps store_deps
attribute [local go_sem high] TDeps_eql TDeps_neq
attribute [local go_sem ↓] TCall_ld0 TCall_st0 TCall_fd0 TCall_bd0
attribute [local go_sem] TCall_size TCall_one TCall_piece TCall_c0 TCall_c1 TCall_c2 TCall_c3 TCall_c4 TCall_c5 TCall_c6 TCall_c7 TCall_c8 TCall_c9 TCall_c10 TCall_c11 TCall_c12 TCall_c13 TCall_p_deed TCall_put_deed TCall_p_deps TCall_put_deps TCall_set_seq TCall_ld TCall_st TCall_f_deed TCall_f_deps TCall_f_seq TCall_bd TCall_fl TCall_fl_deed TCall_fl_deps TCall_fl_seq
attribute [local go_sem high] TCall_eql TCall_neq
attribute [local go_sem ↓] TItem_ld0 TItem_st0 TItem_fd0 TItem_bd0
attribute [local go_sem] TItem_size TItem_one TItem_piece TItem_c0 TItem_c1 TItem_set_rep TItem_set_num TItem_ld TItem_st TItem_f_rep TItem_f_num TItem_bd TItem_fl TItem_fl_rep TItem_fl_num
attribute [local go_sem high] TItem_eql TItem_neq
attribute [local go_sem ↓] TBallot_ld0 TBallot_st0 TBallot_fd0 TBallot_bd0
attribute [local go_sem] TBallot_size TBallot_one TBallot_piece TBallot_c0 TBallot_c1 TBallot_set_round TBallot_set_rep TBallot_ld TBallot_st TBallot_f_round TBallot_f_rep TBallot_bd TBallot_fl TBallot_fl_round TBallot_fl_rep
attribute [local go_sem high] TBallot_eql TBallot_neq
attribute [local go_sem ↓] TInst_ld0 TInst_st0 TInst_fd0 TInst_bd0
attribute [local go_sem] TInst_size TInst_one TInst_piece TInst_c0 TInst_c1 TInst_c2 TInst_c3 TInst_c4 TInst_c5 TInst_c6 TInst_c7 TInst_c8 TInst_c9 TInst_c10 TInst_c11 TInst_c12 TInst_c13 TInst_c14 TInst_c15 TInst_c16 TInst_c17 TInst_c18 TInst_c19 TInst_p_prom TInst_put_prom TInst_p_vote TInst_put_vote TInst_set_status TInst_p_call TInst_put_call TInst_set_same TInst_ld TInst_st TInst_f_prom TInst_f_vote TInst_f_status TInst_f_call TInst_f_same TInst_bd TInst_fl TInst_fl_prom TInst_fl_vote TInst_fl_status TInst_fl_call TInst_fl_same
attribute [local go_sem high] TInst_eql TInst_neq
attribute [local go_sem ↓] TSCall_ld0 TSCall_st0 TSCall_fd0 TSCall_bd0
attribute [local go_sem] TSCall_size TSCall_one TSCall_piece TSCall_c0 TSCall_c1 TSCall_c2 TSCall_c3 TSCall_c4 TSCall_c5 TSCall_c6 TSCall_c7 TSCall_c8 TSCall_c9 TSCall_c10 TSCall_c11 TSCall_c12 TSCall_c13 TSCall_c14 TSCall_c15 TSCall_c16 TSCall_c17 TSCall_c18 TSCall_c19 TSCall_c20 TSCall_c21 TSCall_c22 TSCall_c23 TSCall_c24 TSCall_set_kind TSCall_p_item TSCall_put_item TSCall_p_inst TSCall_put_inst TSCall_set_keep TSCall_set_spoil TSCall_ld TSCall_st TSCall_f_kind TSCall_f_item TSCall_f_inst TSCall_f_keep TSCall_f_spoil TSCall_bd TSCall_fl TSCall_fl_kind TSCall_fl_item TSCall_fl_inst TSCall_fl_keep TSCall_fl_spoil
attribute [local go_sem high] TSCall_eql TSCall_neq
theorem results_cellK {P : Program} {fn : Func} {p : Tmp} {ty : TypeId} {d : TypeDesc} {tmps : Array Value} {w : World} {g : Nat} {v : Value} (h : fn.results = #[.cell p ty]) (hp : tmps.getD p undef = .pointer (some ⟨g, 0, none⟩)) (hc : w.cell? ⟨g, 0, none⟩ = some v) (hu : P.underlying ty = some d) (hd : d.isRow = false) :
    (results fn tmps).run P w = .ok v w := by
  have hp' : tmps[p]?.getD undef = .pointer (some ⟨g, 0, none⟩) := by simpa using hp
  have ha : (isAgg ty).run P w = .ok false w := by
    unfold isAgg
    simp only [Sem.run_bind, run_underlying hu, Result.andThen_ok]
    cases d <;> first | rfl | (cases hd; done)
  simp [results, h, hp', asAddr, loadVar, ha, hc]
theorem sameB_book {B : List Ent} {m : RowsM} (h : BookI B m) (hm : RowsOk m) : sameB (ents m) B = true := by
  have hk := ents_keys hm
  have hl : (ents m).length = B.length := by
    have h1 := len_le_of_sub (a := (ents m).map Prod.fst) (b := B.map Prod.fst) hk fun x hx => by
      obtain ⟨e, he, rfl⟩ := List.mem_map.1 hx
      have := ents_mem he
      rw [← h.get] at this
      exact List.mem_map.2 ⟨_, getB_mem this, rfl⟩
    have h2 := len_le_of_sub (a := B.map Prod.fst) (b := (ents m).map Prod.fst) h.keys fun x hx => by
      obtain ⟨e, he, rfl⟩ := List.mem_map.1 hx
      exact (ents_key hm e.1).2 (by rw [h.mem he]; rfl)
    simp at h1 h2
    omega
  unfold sameB
  rw [decide_eq_true hl, Bool.true_and, List.all_eq_true]
  intro e he
  have h1 := ents_mem he
  rw [← h.get] at h1
  rw [List.any_eq_true]
  refine ⟨_, getB_mem h1, ?_⟩
  rw [eqA_refl, eqA_refl]
  rfl
def nearDeed : Deed := { noDeed with kind := 2, key := ⟨#[97]⟩ }
set_option maxHeartbeats 16000000 in
theorem law_knows (n : Int) (A : Option Addr) (c : Nat) (l : List SCall) (rep : Int) (W : World) (hl : RowsIn W A 25 SCV l) (hf : FitS l) (hkp : SFits l) (hr : Fits rep) :
    Calls Try.prog 12 #[.int .i64 n, .slice A l.length c, .int .i64 rep] W fun e W' => e = .returned (.bool true) ∧ Below W.heap.size W W' := by
  have HT9 := alive12
  have hlen := hl.len
  have HX := Lib.hid hl; have HF := Lib.hid hf; have HKP := Lib.hid hkp; have HR := Lib.hid hr
  clear hl hf hkp hr
  refine (callsIn_wide (n := 4)).1 ?_
  refine callsIn_of_wp_marks Try.func12 rfl trivial ?_ rfl
  simp only [Try.ntmps12, List.size_toArray, List.length_cons, List.length_nil, Nat.reduceAdd, Nat.reduceSub, Array.replicate_succ, Array.replicate_zero, List.push_toArray, List.append_toArray, List.nil_append, List.cons_append]
  refine wpIn_wide.2 ?_
  have T := (Sts.start0 W).new #[.bool false] 4
  have HT := Lib.hid T; clear T
  go_wp2_with fail
  refine (HT9 _).mono ?_
  rintro e w1 ⟨rfl, hb⟩
  have T := HT.out.pure hb
  clear hb HT9 HT
  generalize hg6 : W.heap.size = g6 at *
  have HT := Lib.hid T; clear T
  go_wp2_with fail
  refine (great12 A c l W w1 _ HX.out HF.out HT.out).mono ?_
  clear HT
  rintro e w2 ⟨rfl, T⟩
  have HT := Lib.hid T; clear T
  cases hg : greatS l
  case true =>
    have r6 := HT.out.row; have l6 := row_lt r6; have c6 := row_cell r6 0; have f6 := row_frozen r6 0
    have T2 := HT.out.setCell 0 (.bool true)
    have HT2 := Lib.hid T2; clear T2 HT
    go_wp2
    refine retM0 (results_cellK rfl rfl (row_cell HT2.out.row 0) Try.underlying4 rfl) ⟨rfl, ?_⟩ rfl
    first | exact HT2.out.below | (rw [hg6]; exact HT2.out.below) | (rw [← hg6]; exact HT2.out.below)
  case false =>
    have h60 : l.length ≤ 60 := by
      unfold greatS at hg
      rw [Bool.or_eq_false_iff] at hg
      have := hg.2
      rw [decide_eq_false_iff_not] at this
      omega
    clear hg
    have HA := Lib.hid (spAllNil HT.out); clear HT
    go_wp2_with fail
    refine HA.out.mono ?_
    clear HA
    rintro e w3 ⟨c0, g0, rfl, T⟩
    have HT := Lib.hid T; clear T
    go_wp2_with fail
    have hno : ents noRows = [] := ents_nil (by decide)
    have hok : RowsOk noRows := RowsOk.new (by omega)
    have T0 : Sts W (fun _ => False) w3 ([] ++ (iterIR c0 g0 noRows ++ [rowR g6 #[.bool false]])) := HT.out
    clear HT
    refine (wpIn_wide (n := 4)).1 ?_
    refine wp_rangeSts (gf := 116) (lb := #[.pointer (some ⟨c0, 0, none⟩)]) (enc := fun x : Item × Inst => #[.agg (IV x.1), .agg (NV x.2)]) (xs := ents noRows)
      (fun k => []) (fun _ _ => [noR]) (iterIR c0 g0 noRows ++ [rowR g6 #[.bool false]])
      (fun k x a' own' => False)
      rfl (enters_of Try.func116 (by kernel_rfl) rfl) (fun _ => rfl) (Gives.part fun H hS => irAllG c0 g0 noRows hok _ H hS) T0 ?calm ?calmX ?assign ?body ?done ?stop
    case calm => exact fun k => calmL_nil _
    case calmX => exact fun _ _ => calmL_cons (noR_calm _) (calmL_nil _)
    case assign =>
      intro lr k x W1 G1 K hx T1 hK
      rw [hno] at hx; simp at hx
    case body =>
      rintro lr k x _ _ W1 G1 hx h
      exact h.elim
    case stop =>
      intro D1 c1 k W1 _ _ T1
      exact (Sts.no T1.drop).elim
    case done =>
      intro D0 W1 T1
      clear T0
      have T1 : Sts W (fun _ => False) W1 (objR D0 (.deferred (some [])) :: rowR c0 #[.pointer (some ⟨g0, 0, none⟩)] :: rowsIR g0 noRows :: rowR g6 #[.bool false] :: []) := T1
      have T2 := (T1.ord [1, 2, 0, 3]).drop.drop
      have T3 : Sts W (fun _ => False) W1 (marksR [D0] :: rowR g6 #[.bool false] :: []) := (Sts.pack (L := [objR D0 (.deferred (some []))]) T2)
      have HT := Lib.hid T3; clear T1 T2 T3 hno hok
      have HWN := Lib.hid (spWayNil HT.out nearDeed noItem); clear HT
      go_wp2_with fail
      refine HWN.out.mono ?_
      clear HWN
      rintro e w4 ⟨rfl, T⟩
      have T2 := T.new (DV fun _ => 0) 35
      have HNX := Lib.hid (spNextNil 0 T2); clear T T2
      go_wp2_with fail
      refine HNX.out.mono ?_
      clear HNX
      rintro e w5 ⟨rfl, T⟩
      have T2 := T.new (IV ⟨0, 1⟩) 42
      have r1 := T2.row; have l1 := row_lt r1; have c1 := row_cell r1 1
      have r2 := T2.row1; have l2 := row_lt r2
      have he1 := eqA_refl (NV noInst); have he2 := eqA_refl (DV fun _ => 0)
      have hz : (#[.int .i64 0, .int .i64 0, .int .i64 0, .int .i64 0, .int .i64 0, .int .i64 0, .int .i64 0] : Array Value) = DV fun _ => 0 := rfl
      have HT := Lib.hid T2; clear T T2
      go_wp2_with fail
      refine (Ans.at (spKnowNil noItem noInst) HT.out).mono ?_
      rintro e w6 ⟨rfl, T⟩
      have HT := Lib.hid T; clear T
      go_wp2_with fail
      refine (Ans.at spSyncNil HT.out).mono ?_
      clear HT
      rintro e w7 ⟨rfl, T⟩
      have HT := Lib.hid T; clear T
      go_wp2_with fail
      refine (Ans.at (spAtNil noItem) HT.out).mono ?_
      clear HT
      rintro e w8 ⟨rfl, T⟩
      have HT := Lib.hid T; clear T
      go_wp2_with fail
      refine (Ans.at (spTopNil 0) HT.out).mono ?_
      clear HT
      rintro e w9 ⟨rfl, T⟩
      have HT := Lib.hid T; clear T
      go_wp2_with fail
      refine (Ans.at spSizeNil HT.out).mono ?_
      clear HT r1 l1 c1 r2 l2
      rintro e w10 ⟨rfl, T⟩
      have r1 := T.row; have l1 := row_lt r1; have c1 := row_cell r1 1
      have r2 := T.row1; have l2 := row_lt r2
      have T2 := T.ord [3, 0, 1, 2]
      have HNW := Lib.hid (newT T2)
      clear T T2
      go_wp2_with fail
      clear r1 l1 c1 r2 l2 he1 he2 hz
      refine HNW.out.mono ?_
      clear HNW
      rintro e w11 ⟨rfl, T⟩
      generalize w10.heap.size = p at *
      have T : Sts W (fun _ => False) w11 (plR p [] 0 :: rowR g6 #[.bool false] :: rowR w5.heap.size (IV ⟨0, 1⟩) :: rowR w4.heap.size (DV fun _ => 0) :: marksR [D0] :: []) := T
      have T2 := (T.ord [2, 3, 0, 1, 4]).drop.drop
      cases hs : sizeB n
      case false =>
        have h357 : ¬ n = 3 ∧ ¬ n = 5 ∧ ¬ n = 7 := by
          unfold sizeB at hs
          simp at hs
          omega
        have b3 : (n != 3) = true := by simp [h357.1]
        have b5 : (n != 5) = true := by simp [h357.2.1]
        have b7 : (n != 7) = true := by simp [h357.2.2]
        clear h357
        have HB := Lib.hid (Ans.at (spBad p n hs) T2); clear T T2
        go_wp2_with fail
        refine HB.out.mono ?_
        clear HB
        rintro e w12 ⟨rfl, T⟩
        have r6 := T.row1; have l6 := row_lt r6; have c6 := row_cell r6 0; have f6 := row_frozen r6 0
        have T3 := (T.ord [1, 0, 2]).setCell 0 (.bool true)
        have T4 := T3.ord [2, 0, 1]
        have HT := Lib.hid T4; clear T T3 T4
        go_wp2
        refine retMs (Ds := [D0]) HT.out (fun W' TW => ⟨results_cellK rfl rfl (row_cell TW.row 0) Try.underlying4 rfl, rfl, ?_⟩) rfl
        first | exact TW.below | (rw [hg6]; exact TW.below) | (rw [← hg6]; exact TW.below)
      case true =>
        have hnn := sizeB_n hs
        have HB := Lib.hid (spOpenT T2 (by simp) n hs); clear T T2
        go_wp2_with fail
        refine HB.out.mono ?_
        clear HB
        rintro e w12 ⟨s, lg, g, bk, bs, rfl, T⟩
        have hI := SpI.open hnn (D := []) (by simp) 0
        have hD0 : (openD n []).length ≤ 310 * 0 := by unfold openD; split <;> simp
        generalize idxF (ents (mK n (goT n []))) = I0 at *
        generalize mK n (goT n []) = m0 at *
        generalize openD n [] = D1 at *
        generalize openF n [] 0 = f0 at *
        have T : Sts W (fun _ => False) w12 (spL s lg p g bk bs I0 D1 f0 m0 ++ (rowR g6 #[.bool false] :: marksR [D0] :: [])) := T
        have HT := Lib.hid T; have HI := Lib.hid hI; have HD := Lib.hid hD0
        clear T hI hD0
        go_wp2_with fail
        go_loopw [110] (fun sj wr => ∃ (j : Nat) (I : Idx) (D : List UInt8) (safe : Nat) (m : RowsM), sj = .int .i64 j ∧ j ≤ l.length ∧ SpI n j I D m ∧ D.length ≤ 310 * j ∧ Sts W (fun _ => False) wr (spL s lg p g bk bs I D safe m ++ (rowR g6 #[.bool false] :: marksR [D0] :: []))) (fun sj _ => l.length - (intOf sj).toNat)
        case atStart => exact ⟨0, I0, D1, f0, m0, rfl, Nat.zero_le _, HI.out, HD.out, HT.out⟩
        case round =>
          clear HT HI HD
          obtain ⟨j, I, D, safe, m, rfl, hj, hI, hD, T⟩ := hrel
          by_cases hjl : j < l.length
          · cases A with
            | none => have := HX.out.nil rfl; subst this; simp at hjl
            | some a =>
              have hld := HX.out.load (P := Try.prog) (T := 72) TSCall_size TSCall_und rfl (by kernel_rfl) (by first | exact T.below | (rw [hg6]; exact T.below) | (rw [← hg6]; exact T.below)) rfl hjl
              have hk3 : (j : Int) < (l.length : Int) := by omega
              have hk0 : (0 : Int) ≤ (j : Int) := by omega
              generalize l[j] = x at *
              have T : Sts W (fun _ => False) wr (idxR s lg bk bs I :: rowR lg (ledCells p g m.n) :: plR p D safe :: rowsIR g m :: rowR g6 #[.bool false] :: marksR [D0] :: []) := T
              have T2 := T.new (SCV x) 72
              have T3 := T2.ord [1, 2, 3, 4, 0, 5, 6]
              have T3 : Sts W (fun _ => False) _ (spL s lg p g bk bs I D safe m ++ (rowR wr.heap.size (SCV x) :: rowR g6 #[.bool false] :: marksR [D0] :: [])) := T3
              have hkn := spKnowD s lg p g bk bs I hI.idx (by have := hI.N; omega) D safe m hI.ok hI.good hI.len x.item x.inst
              have hI2 := hI.know (by omega) safe x.item x.inst
              have hcode : ((goodI x.item n && goodN x.inst n) = true → (addM D safe m x.item x.inst).2.2.2 = 0) ∧ ((goodI x.item n && goodN x.inst n) = false → (addM D safe m x.item x.inst).2.2.2 = 1) ∧ (addM D safe m x.item x.inst).1.length ≤ 310 * (j + 1) := by
                rw [← hI.mn]
                have hn7 := hI.ok.n.2
                cases hgd : goodI x.item m.n && goodN x.inst m.n with
                | true =>
                  simp only [Bool.and_eq_true] at hgd
                  obtain ⟨e1, e2⟩ := add_easy (D := D) (safe := safe) hgd.1 hgd.2 hn7 (by omega)
                  rw [e1]
                  refine ⟨fun _ => rfl, fun h => (by cases h), ?_⟩
                  dsimp only
                  rw [List.length_append]; omega
                | false =>
                  have e1 : addM D safe m x.item x.inst = (D, safe, m, 1) := by
                    unfold addM
                    rw [if_neg]
                    rintro ⟨h1, h2⟩
                    rw [h1, h2] at hgd; cases hgd
                  rw [e1]
                  exact ⟨fun h => (by cases h), fun _ => rfl, by dsimp only; omega⟩
              generalize knowI I D safe m x.item x.inst = I2 at *
              generalize addM D safe m x.item x.inst = q at *
              obtain ⟨D2, f2, m2, e2⟩ := q
              dsimp only at hkn hI2 hcode
              have HKN := Lib.hid hkn; have HI2 := Lib.hid hI2; have HCD := Lib.hid hcode; have HT := Lib.hid T3
              have HI1 := Lib.hid hI
              clear hkn hI2 hcode T T2 T3 hI
              have hg3 := ritemGood_any x.item n
              have hg9 := rgoodN_any x.inst n
              have HG3 := Lib.hid hg3; have HG9 := Lib.hid hg9; clear hg3 hg9
              go_upto_region 19 with fail
              generalize hw20 : wr.alloc _ = w20 at *
              generalize wr.heap.size = gx at *
              clear hw20 hld
              have FS : ∀ W' R', Sts W (fun _ => False) W' (rowR gx (SCV x) :: R') → (W'.cell? ⟨gx, 0, none⟩ = some (.int .i64 x.kind) ∧ row? W' gx = some (SCV x)) := fun W' R' T => ⟨row_cell T.row 0, T.row⟩
              have T0 : Sts W (fun _ => False) w20.drew (idxR s lg bk bs I :: rowR lg (ledCells p g m.n) :: plR p D safe :: rowsIR g m :: rowR gx (SCV x) :: rowR g6 #[.bool false] :: marksR [D0] :: []) := HT.out.drew
              have S0 := FS _ _ (T0.ord [4, 0, 1, 2, 3, 5, 6])
              have HFS := Lib.hid FS; have HT0 := Lib.hid T0
              clear FS T0 HT
              refine wp_region_noPanic ?_
              refine wp_region_held_drew (S := fun W' => W'.cell? ⟨gx, 0, none⟩ = some (.int .i64 x.kind) ∧ row? W' gx = some (SCV x)) (by kernel_rfl) S0 (fun hHeld => ?_)
              clear S0
              refine wpAnyH_take (i := 0) (oi := _) (v := ?_) rfl (by kernel_rfl) (by kernel_rfl) (by kernel_rfl) (fun _ _ _ h => h) (Or.inl ⟨by kernel_rfl, ?_⟩) (by assumption) ?_
              rotate_left
              · (intro w hSw; (try dsimp only at hSw); go_simp; try (with_reducible rfl))
              simp only [Act.put, List.getElem_toArray, List.getElem_cons_zero, List.setIfInBounds_toArray, List.set_cons_zero, List.set_cons_succ]
              refine wpAnyH_take (i := 1) (oi := _) (v := ?_) rfl (by kernel_rfl) (by kernel_rfl) (by kernel_rfl) (fun _ _ _ h => h) (Or.inl ⟨by kernel_rfl, ?_⟩) (by assumption) ?_
              rotate_left
              · (intro w hSw; (try dsimp only at hSw); go_simp; try (with_reducible rfl))
              simp only [Act.put, List.getElem_toArray, List.getElem_cons_succ, List.getElem_cons_zero, List.setIfInBounds_toArray, List.set_cons_zero, List.set_cons_succ]
              refine wpAnyH_take (i := 2) (oi := _) (v := ?_) rfl (by kernel_rfl) (by kernel_rfl) (by kernel_rfl) (fun _ _ _ h => h) (Or.inl ⟨by kernel_rfl, ?_⟩) (by assumption) ?_
              rotate_left
              · (intro w hSw; (try dsimp only at hSw); go_simp; try (with_reducible rfl))
              simp only [Act.put, List.getElem_toArray, List.getElem_cons_succ, List.getElem_cons_zero, List.setIfInBounds_toArray, List.set_cons_zero, List.set_cons_succ]
              refine wpAnyH_take (i := 3) (oi := _) (v := ?_) rfl (by kernel_rfl) (by kernel_rfl) (by kernel_rfl) (fun _ _ _ h => h) (Or.inl ⟨by kernel_rfl, ?_⟩) (by assumption) ?_
              rotate_left
              · (intro w hSw; (try dsimp only at hSw); go_simp; try (with_reducible rfl))
              simp only [Act.put, List.getElem_toArray, List.getElem_cons_succ, List.getElem_cons_zero, List.setIfInBounds_toArray, List.set_cons_zero, List.set_cons_succ]
              cases hq0 : (x.kind == 0)
              case false =>
                have hD9 : D.length ≤ 310 * (j + 1) := by omega
                have hI9 := HI1.out.mono (Nat.le_succ j)
                have HI9 := Lib.hid hI9; clear hI9
                refine wpAnyH_take (i := 4) (oi := _) (v := undef) rfl (by kernel_rfl) (by kernel_rfl) (by kernel_rfl) (fun _ _ _ h => h) (Or.inr ⟨by kernel_rfl, rfl⟩) (by assumption) ?_
                simp only [Act.put, List.getElem_toArray, List.getElem_cons_succ, List.getElem_cons_zero, List.setIfInBounds_toArray, List.set_cons_zero, List.set_cons_succ]
                refine wpAnyH_take (i := 5) (oi := _) (v := undef) rfl (by kernel_rfl) (by kernel_rfl) (by kernel_rfl) (fun _ _ _ h => h) (Or.inr ⟨by kernel_rfl, rfl⟩) (by assumption) ?_
                simp only [Act.put, List.getElem_toArray, List.getElem_cons_succ, List.getElem_cons_zero, List.setIfInBounds_toArray, List.set_cons_zero, List.set_cons_succ]
                refine wpAnyH_take (i := 6) (oi := _) (v := undef) rfl (by kernel_rfl) (by kernel_rfl) (by kernel_rfl) (fun _ _ _ h => h) (Or.inr ⟨by kernel_rfl, rfl⟩) (by assumption) ?_
                simp only [Act.put, List.getElem_toArray, List.getElem_cons_succ, List.getElem_cons_zero, List.setIfInBounds_toArray, List.set_cons_zero, List.set_cons_succ]
                refine wpAnyH_take (i := 7) (oi := _) (v := undef) rfl (by kernel_rfl) (by kernel_rfl) (by kernel_rfl) (fun _ _ _ h => h) (Or.inr ⟨by kernel_rfl, rfl⟩) (by assumption) ?_
                simp only [Act.put, List.getElem_toArray, List.getElem_cons_succ, List.getElem_cons_zero, List.setIfInBounds_toArray, List.set_cons_zero, List.set_cons_succ]
                refine wpAnyH_take (i := 8) (oi := _) (v := undef) rfl (by kernel_rfl) (by kernel_rfl) (by kernel_rfl) (fun _ _ _ h => h) (Or.inr ⟨by kernel_rfl, rfl⟩) (by assumption) ?_
                simp only [Act.put, List.getElem_toArray, List.getElem_cons_succ, List.getElem_cons_zero, List.setIfInBounds_toArray, List.set_cons_zero, List.set_cons_succ]
                refine wpAnyH_take (i := 9) (oi := _) (v := undef) rfl (by kernel_rfl) (by kernel_rfl) (by kernel_rfl) (fun _ _ _ h => h) (Or.inr ⟨by kernel_rfl, rfl⟩) (by assumption) ?_
                simp only [Act.put, List.getElem_toArray, List.getElem_cons_succ, List.getElem_cons_zero, List.setIfInBounds_toArray, List.set_cons_zero, List.set_cons_succ]
                refine wpAnyH_take (i := 10) (oi := _) (v := undef) rfl (by kernel_rfl) (by kernel_rfl) (by kernel_rfl) (fun _ _ _ h => h) (Or.inr ⟨by kernel_rfl, rfl⟩) (by assumption) ?_
                simp only [Act.put, List.getElem_toArray, List.getElem_cons_succ, List.getElem_cons_zero, List.setIfInBounds_toArray, List.set_cons_zero, List.set_cons_succ]
                refine wpAnyH_take (i := 11) (oi := _) (v := undef) rfl (by kernel_rfl) (by kernel_rfl) (by kernel_rfl) (fun _ _ _ h => h) (Or.inr ⟨by kernel_rfl, rfl⟩) (by assumption) ?_
                simp only [Act.put, List.getElem_toArray, List.getElem_cons_succ, List.getElem_cons_zero, List.setIfInBounds_toArray, List.set_cons_zero, List.set_cons_succ]
                refine wpAnyH_take (i := 12) (oi := _) (v := undef) rfl (by kernel_rfl) (by kernel_rfl) (by kernel_rfl) (fun _ _ _ h => h) (Or.inr ⟨by kernel_rfl, rfl⟩) (by assumption) ?_
                simp only [Act.put, List.getElem_toArray, List.getElem_cons_succ, List.getElem_cons_zero, List.setIfInBounds_toArray, List.set_cons_zero, List.set_cons_succ]
                refine wpAnyH_take (i := 13) (oi := _) (v := undef) rfl (by kernel_rfl) (by kernel_rfl) (by kernel_rfl) (fun _ _ _ h => h) (Or.inr ⟨by kernel_rfl, rfl⟩) (by assumption) ?_
                simp only [Act.put, List.getElem_toArray, List.getElem_cons_succ, List.getElem_cons_zero, List.setIfInBounds_toArray, List.set_cons_zero, List.set_cons_succ]
                refine wpAnyH_take (i := 14) (oi := _) (v := undef) rfl (by kernel_rfl) (by kernel_rfl) (by kernel_rfl) (fun _ _ _ h => h) (Or.inr ⟨by kernel_rfl, rfl⟩) (by assumption) ?_
                simp only [Act.put, List.getElem_toArray, List.getElem_cons_succ, List.getElem_cons_zero, List.setIfInBounds_toArray, List.set_cons_zero, List.set_cons_succ]
                refine wpAnyH_take (i := 15) (oi := _) (v := undef) rfl (by kernel_rfl) (by kernel_rfl) (by kernel_rfl) (fun _ _ _ h => h) (Or.inr ⟨by kernel_rfl, rfl⟩) (by assumption) ?_
                simp only [Act.put, List.getElem_toArray, List.getElem_cons_succ, List.getElem_cons_zero, List.setIfInBounds_toArray, List.set_cons_zero, List.set_cons_succ]
                refine wpAnyH_take (i := 16) (oi := _) (v := undef) rfl (by kernel_rfl) (by kernel_rfl) (by kernel_rfl) (fun _ _ _ h => h) (Or.inr ⟨by kernel_rfl, rfl⟩) (by assumption) ?_
                simp only [Act.put, List.getElem_toArray, List.getElem_cons_succ, List.getElem_cons_zero, List.setIfInBounds_toArray, List.set_cons_zero, List.set_cons_succ]
                refine wpAnyH_take (i := 17) (oi := _) (v := undef) rfl (by kernel_rfl) (by kernel_rfl) (by kernel_rfl) (fun _ _ _ h => h) (Or.inr ⟨by kernel_rfl, rfl⟩) (by assumption) ?_
                simp only [Act.put, List.getElem_toArray, List.getElem_cons_succ, List.getElem_cons_zero, List.setIfInBounds_toArray, List.set_cons_zero, List.set_cons_succ]
                refine wpAnyH_take (i := 18) (oi := _) (v := undef) rfl (by kernel_rfl) (by kernel_rfl) (by kernel_rfl) (fun _ _ _ h => h) (Or.inr ⟨by kernel_rfl, rfl⟩) (by assumption) ?_
                simp only [Act.put, List.getElem_toArray, List.getElem_cons_succ, List.getElem_cons_zero, List.setIfInBounds_toArray, List.set_cons_zero, List.set_cons_succ]
                refine wpAnyH_take (i := 19) (oi := _) (v := undef) rfl (by kernel_rfl) (by kernel_rfl) (by kernel_rfl) (fun _ _ _ h => h) (Or.inr ⟨by kernel_rfl, rfl⟩) (by assumption) ?_
                simp only [Act.put, List.getElem_toArray, List.getElem_cons_succ, List.getElem_cons_zero, List.setIfInBounds_toArray, List.set_cons_zero, List.set_cons_succ]
                refine wpAnyH_take (i := 20) (oi := _) (v := undef) rfl (by kernel_rfl) (by kernel_rfl) (by kernel_rfl) (fun _ _ _ h => h) (Or.inr ⟨by kernel_rfl, rfl⟩) (by assumption) ?_
                simp only [Act.put, List.getElem_toArray, List.getElem_cons_succ, List.getElem_cons_zero, List.setIfInBounds_toArray, List.set_cons_zero, List.set_cons_succ]
                refine wpAnyH_take (i := 21) (oi := _) (v := undef) rfl (by kernel_rfl) (by kernel_rfl) (by kernel_rfl) (fun _ _ _ h => h) (Or.inr ⟨by kernel_rfl, rfl⟩) (by assumption) ?_
                simp only [Act.put, List.getElem_toArray, List.getElem_cons_succ, List.getElem_cons_zero, List.setIfInBounds_toArray, List.set_cons_zero, List.set_cons_succ]
                refine wpAnyH_take (i := 22) (oi := _) (v := ?_) rfl (by kernel_rfl) (by kernel_rfl) (by kernel_rfl) (fun _ _ _ h => h) (Or.inl ⟨by kernel_rfl, ?_⟩) (by assumption) ?_
                rotate_left
                · (intro w hSw; (try dsimp only at hSw); go_simp; try (with_reducible rfl))
                simp only [Act.put, List.getElem_toArray, List.getElem_cons_succ, List.getElem_cons_zero, List.setIfInBounds_toArray, List.set_cons_zero, List.set_cons_succ]
                refine wpAnyH_done (by kernel_rfl) ?_ _
                refine NoPanic.normal ?_
                have hT9 := (HT0.out.ord [4, 0, 1, 2, 3, 5, 6]).drop
                have HT9 := Lib.hid hT9; clear hT9 HT0
                go_wp2
                go_roundw
                case rel => exact ⟨j + 1, I, D, safe, m, by go_num, by omega, HI9.out, hD9, HT9.out⟩
                case measure => simp [intOf]; omega
              case true =>
                cases h3 : goodI x.item n
                case false =>
                  have he := HCD.out.2.1 (by rw [h3]; rfl)
                  subst he
                  rw [h3] at HG3
                  refine wpAnyH_take (i := 4) (oi := _) (v := ?_) rfl (by kernel_rfl) (by kernel_rfl) (by kernel_rfl) (fun _ _ _ h => h) (Or.inl ⟨by kernel_rfl, ?_⟩) (by assumption) ?_
                  rotate_left
                  · (intro w hSw; (try dsimp only at hSw); go_simp; try (with_reducible rfl))
                  simp only [Act.put, List.getElem_toArray, List.getElem_cons_succ, List.getElem_cons_zero, List.setIfInBounds_toArray, List.set_cons_zero, List.set_cons_succ]
                  refine wpAnyH_take (i := 5) (oi := _) (v := ?_) rfl (by kernel_rfl) (by kernel_rfl) (by kernel_rfl) (fun _ _ _ h => h) (Or.inl ⟨by kernel_rfl, ?_⟩) (by assumption) ?_
                  rotate_left
                  · (intro w hSw; (try dsimp only at hSw); go_simp; try (with_reducible rfl))
                  simp only [Act.put, List.getElem_toArray, List.getElem_cons_succ, List.getElem_cons_zero, List.setIfInBounds_toArray, List.set_cons_zero, List.set_cons_succ]
                  refine wpAnyH_take (i := 6) (oi := _) (v := ?_) rfl (by kernel_rfl) (by kernel_rfl) (by kernel_rfl) (fun _ _ _ h => h) (Or.inl ⟨by kernel_rfl, ?_⟩) (by assumption) ?_
                  rotate_left
                  · (intro w hSw; (try dsimp only at hSw); go_simp; try (with_reducible rfl))
                  simp only [Act.put, List.getElem_toArray, List.getElem_cons_succ, List.getElem_cons_zero, List.setIfInBounds_toArray, List.set_cons_zero, List.set_cons_succ]
                  refine wpAnyH_take (i := 7) (oi := _) (v := ?_) rfl (by kernel_rfl) (by kernel_rfl) (by kernel_rfl) (fun _ _ _ h => h) (Or.inl ⟨by kernel_rfl, ?_⟩) (by assumption) ?_
                  rotate_left
                  · (intro w hSw; (try dsimp only at hSw); go_simp; try (with_reducible rfl))
                  simp only [Act.put, List.getElem_toArray, List.getElem_cons_succ, List.getElem_cons_zero, List.setIfInBounds_toArray, List.set_cons_zero, List.set_cons_succ]
                  refine wpAnyH_take (i := 8) (oi := _) (v := ?_) rfl (by kernel_rfl) (by kernel_rfl) (by kernel_rfl) (fun _ _ _ h => h) (Or.inl ⟨by kernel_rfl, ?_⟩) (by assumption) ?_
                  rotate_left
                  · (intro w hSw; (try dsimp only at hSw); go_simp; try (with_reducible rfl))
                  simp only [Act.put, List.getElem_toArray, List.getElem_cons_succ, List.getElem_cons_zero, List.setIfInBounds_toArray, List.set_cons_zero, List.set_cons_succ]
                  refine wpAnyH_take (i := 11) (oi := _) (v := ?_) rfl (by kernel_rfl) (by kernel_rfl) (by kernel_rfl) (fun _ _ _ h => h) (Or.inl ⟨by kernel_rfl, ?_⟩) (by assumption) ?_
                  rotate_left
                  · (intro w hSw; (try dsimp only at hSw); go_simp; try (with_reducible rfl))
                  simp only [Act.put, List.getElem_toArray, List.getElem_cons_succ, List.getElem_cons_zero, List.setIfInBounds_toArray, List.set_cons_zero, List.set_cons_succ]
                  refine wpAnyH_take (i := 12) (oi := _) (v := ?_) rfl (by kernel_rfl) (by kernel_rfl) (by kernel_rfl) (fun _ _ _ h => h) (Or.inl ⟨by kernel_rfl, ?_⟩) (by assumption) ?_
                  rotate_left
                  · (intro w hSw; (try dsimp only at hSw); go_simp; try (with_reducible rfl))
                  simp only [Act.put, List.getElem_toArray, List.getElem_cons_succ, List.getElem_cons_zero, List.setIfInBounds_toArray, List.set_cons_zero, List.set_cons_succ]
                  refine wpAnyH_take (i := 13) (oi := _) (v := ?_) rfl (by kernel_rfl) (by kernel_rfl) (by kernel_rfl) (fun _ _ _ h => h) (Or.inl ⟨by kernel_rfl, ?_⟩) (by assumption) ?_
                  rotate_left
                  · (intro w hSw; (try dsimp only at hSw); go_simp; try (with_reducible rfl))
                  simp only [Act.put, List.getElem_toArray, List.getElem_cons_succ, List.getElem_cons_zero, List.setIfInBounds_toArray, List.set_cons_zero, List.set_cons_succ]
                  refine wpAnyH_ready (rs := [9]) (by kernel_rfl) (by simp) ?_
                  refine AllReadyH.cons (o := _) rfl (fun K hK => ?_) AllReadyH.nil
                  go_simp
                  refine (Does.at (L := spL s lg p g bk bs I D safe m) (R := [rowR gx (SCV x), rowR g6 #[.bool false], marksR [D0]]) HKN.out HT0.out).mono ?_
                  clear HKN HT0
                  rintro e w21 ⟨rfl, T⟩
                  have T : Sts W (fun _ => False) w21 (idxR s lg bk bs I2 :: rowR lg (ledCells p g m2.n) :: plR p D2 f2 :: rowsIR g m2 :: rowR gx (SCV x) :: rowR g6 #[.bool false] :: marksR [D0] :: []) := T
                  refine hK.out _ _ (HFS.out _ _ (T.ord [4, 0, 1, 2, 3, 5, 6])) (fun hHeld => ?_)
                  clear hK K
                  have HT0 := Lib.hid T; clear T
                  refine wpAnyH_take (i := 10) (oi := _) (v := ?_) rfl (by kernel_rfl) (by kernel_rfl) (by kernel_rfl) (fun _ _ _ h => h) (Or.inl ⟨by kernel_rfl, ?_⟩) (by assumption) ?_
                  rotate_left
                  · (intro w hSw; (try dsimp only at hSw); go_simp; try (with_reducible rfl))
                  simp only [Act.put, List.getElem_toArray, List.getElem_cons_succ, List.getElem_cons_zero, List.setIfInBounds_toArray, List.set_cons_zero, List.set_cons_succ]
                  refine wpAnyH_ready (rs := [14]) (by kernel_rfl) (by simp) ?_
                  refine AllReadyH.cons (o := _) rfl (fun K hK => ?_) AllReadyH.nil
                  go_simp
                  refine (Ans.at HG3.out HT0.out).mono ?_
                  clear HG3 HT0
                  rintro e w22 ⟨rfl, T⟩
                  refine hK.out _ _ (HFS.out _ _ (T.ord [4, 0, 1, 2, 3, 5, 6])) (fun hHeld => ?_)
                  clear hK K
                  have HT0 := Lib.hid T; clear T
                  refine wpAnyH_take (i := 15) (oi := _) (v := ?_) rfl (by kernel_rfl) (by kernel_rfl) (by kernel_rfl) (fun _ _ _ h => h) (Or.inl ⟨by kernel_rfl, ?_⟩) (by assumption) ?_
                  rotate_left
                  · (intro w hSw; (try dsimp only at hSw); go_simp; try (with_reducible rfl))
                  simp only [Act.put, List.getElem_toArray, List.getElem_cons_succ, List.getElem_cons_zero, List.setIfInBounds_toArray, List.set_cons_zero, List.set_cons_succ]
                  refine wpAnyH_take (i := 16) (oi := _) (v := undef) rfl (by kernel_rfl) (by kernel_rfl) (by kernel_rfl) (fun _ _ _ h => h) (Or.inr ⟨by kernel_rfl, rfl⟩) (by assumption) ?_
                  simp only [Act.put, List.getElem_toArray, List.getElem_cons_succ, List.getElem_cons_zero, List.setIfInBounds_toArray, List.set_cons_zero, List.set_cons_succ]
                  refine wpAnyH_take (i := 17) (oi := _) (v := undef) rfl (by kernel_rfl) (by kernel_rfl) (by kernel_rfl) (fun _ _ _ h => h) (Or.inr ⟨by kernel_rfl, rfl⟩) (by assumption) ?_
                  simp only [Act.put, List.getElem_toArray, List.getElem_cons_succ, List.getElem_cons_zero, List.setIfInBounds_toArray, List.set_cons_zero, List.set_cons_succ]
                  refine wpAnyH_take (i := 18) (oi := _) (v := undef) rfl (by kernel_rfl) (by kernel_rfl) (by kernel_rfl) (fun _ _ _ h => h) (Or.inr ⟨by kernel_rfl, rfl⟩) (by assumption) ?_
                  simp only [Act.put, List.getElem_toArray, List.getElem_cons_succ, List.getElem_cons_zero, List.setIfInBounds_toArray, List.set_cons_zero, List.set_cons_succ]
                  refine wpAnyH_take (i := 19) (oi := _) (v := undef) rfl (by kernel_rfl) (by kernel_rfl) (by kernel_rfl) (fun _ _ _ h => h) (Or.inr ⟨by kernel_rfl, rfl⟩) (by assumption) ?_
                  simp only [Act.put, List.getElem_toArray, List.getElem_cons_succ, List.getElem_cons_zero, List.setIfInBounds_toArray, List.set_cons_zero, List.set_cons_succ]
                  refine wpAnyH_take (i := 20) (oi := _) (v := ?_) rfl (by kernel_rfl) (by kernel_rfl) (by kernel_rfl) (fun _ _ _ h => h) (Or.inl ⟨by kernel_rfl, ?_⟩) (by assumption) ?_
                  rotate_left
                  · (intro w hSw; (try dsimp only at hSw); go_simp; try (with_reducible rfl))
                  simp only [Act.put, List.getElem_toArray, List.getElem_cons_succ, List.getElem_cons_zero, List.setIfInBounds_toArray, List.set_cons_zero, List.set_cons_succ]
                  refine wpAnyH_take (i := 21) (oi := _) (v := ?_) rfl (by kernel_rfl) (by kernel_rfl) (by kernel_rfl) (fun _ _ _ h => h) (Or.inl ⟨by kernel_rfl, ?_⟩) (by assumption) ?_
                  rotate_left
                  · (intro w hSw; (try dsimp only at hSw); go_simp; try (with_reducible rfl))
                  simp only [Act.put, List.getElem_toArray, List.getElem_cons_succ, List.getElem_cons_zero, List.setIfInBounds_toArray, List.set_cons_zero, List.set_cons_succ]
                  refine wpAnyH_take (i := 22) (oi := _) (v := ?_) rfl (by kernel_rfl) (by kernel_rfl) (by kernel_rfl) (fun _ _ _ h => h) (Or.inl ⟨by kernel_rfl, ?_⟩) (by assumption) ?_
                  rotate_left
                  · (intro w hSw; (try dsimp only at hSw); go_simp; try (with_reducible rfl))
                  simp only [Act.put, List.getElem_toArray, List.getElem_cons_succ, List.getElem_cons_zero, List.setIfInBounds_toArray, List.set_cons_zero, List.set_cons_succ]
                  refine wpAnyH_done (by kernel_rfl) ?_ _
                  refine NoPanic.normal ?_
                  have hT9 := (HT0.out.ord [4, 0, 1, 2, 3, 5, 6]).drop
                  have HT9 := Lib.hid hT9; clear hT9 HT0
                  go_wp2
                  go_roundw
                  case rel => exact ⟨j + 1, I2, D2, f2, m2, by go_num, by omega, HI2.out, HCD.out.2.2, HT9.out⟩
                  case measure => simp [intOf]; omega
                case true =>
                  rw [h3] at HG3
                  cases h9 : goodN x.inst n
                  case false =>
                    have he := HCD.out.2.1 (by rw [h3, h9]; rfl)
                    subst he
                    rw [h9] at HG9
                    refine wpAnyH_take (i := 4) (oi := _) (v := ?_) rfl (by kernel_rfl) (by kernel_rfl) (by kernel_rfl) (fun _ _ _ h => h) (Or.inl ⟨by kernel_rfl, ?_⟩) (by assumption) ?_
                    rotate_left
                    · (intro w hSw; (try dsimp only at hSw); go_simp; try (with_reducible rfl))
                    simp only [Act.put, List.getElem_toArray, List.getElem_cons_succ, List.getElem_cons_zero, List.setIfInBounds_toArray, List.set_cons_zero, List.set_cons_succ]
                    refine wpAnyH_take (i := 5) (oi := _) (v := ?_) rfl (by kernel_rfl) (by kernel_rfl) (by kernel_rfl) (fun _ _ _ h => h) (Or.inl ⟨by kernel_rfl, ?_⟩) (by assumption) ?_
                    rotate_left
                    · (intro w hSw; (try dsimp only at hSw); go_simp; try (with_reducible rfl))
                    simp only [Act.put, List.getElem_toArray, List.getElem_cons_succ, List.getElem_cons_zero, List.setIfInBounds_toArray, List.set_cons_zero, List.set_cons_succ]
                    refine wpAnyH_take (i := 6) (oi := _) (v := ?_) rfl (by kernel_rfl) (by kernel_rfl) (by kernel_rfl) (fun _ _ _ h => h) (Or.inl ⟨by kernel_rfl, ?_⟩) (by assumption) ?_
                    rotate_left
                    · (intro w hSw; (try dsimp only at hSw); go_simp; try (with_reducible rfl))
                    simp only [Act.put, List.getElem_toArray, List.getElem_cons_succ, List.getElem_cons_zero, List.setIfInBounds_toArray, List.set_cons_zero, List.set_cons_succ]
                    refine wpAnyH_take (i := 7) (oi := _) (v := ?_) rfl (by kernel_rfl) (by kernel_rfl) (by kernel_rfl) (fun _ _ _ h => h) (Or.inl ⟨by kernel_rfl, ?_⟩) (by assumption) ?_
                    rotate_left
                    · (intro w hSw; (try dsimp only at hSw); go_simp; try (with_reducible rfl))
                    simp only [Act.put, List.getElem_toArray, List.getElem_cons_succ, List.getElem_cons_zero, List.setIfInBounds_toArray, List.set_cons_zero, List.set_cons_succ]
                    refine wpAnyH_take (i := 8) (oi := _) (v := ?_) rfl (by kernel_rfl) (by kernel_rfl) (by kernel_rfl) (fun _ _ _ h => h) (Or.inl ⟨by kernel_rfl, ?_⟩) (by assumption) ?_
                    rotate_left
                    · (intro w hSw; (try dsimp only at hSw); go_simp; try (with_reducible rfl))
                    simp only [Act.put, List.getElem_toArray, List.getElem_cons_succ, List.getElem_cons_zero, List.setIfInBounds_toArray, List.set_cons_zero, List.set_cons_succ]
                    refine wpAnyH_take (i := 11) (oi := _) (v := ?_) rfl (by kernel_rfl) (by kernel_rfl) (by kernel_rfl) (fun _ _ _ h => h) (Or.inl ⟨by kernel_rfl, ?_⟩) (by assumption) ?_
                    rotate_left
                    · (intro w hSw; (try dsimp only at hSw); go_simp; try (with_reducible rfl))
                    simp only [Act.put, List.getElem_toArray, List.getElem_cons_succ, List.getElem_cons_zero, List.setIfInBounds_toArray, List.set_cons_zero, List.set_cons_succ]
                    refine wpAnyH_take (i := 12) (oi := _) (v := ?_) rfl (by kernel_rfl) (by kernel_rfl) (by kernel_rfl) (fun _ _ _ h => h) (Or.inl ⟨by kernel_rfl, ?_⟩) (by assumption) ?_
                    rotate_left
                    · (intro w hSw; (try dsimp only at hSw); go_simp; try (with_reducible rfl))
                    simp only [Act.put, List.getElem_toArray, List.getElem_cons_succ, List.getElem_cons_zero, List.setIfInBounds_toArray, List.set_cons_zero, List.set_cons_succ]
                    refine wpAnyH_take (i := 13) (oi := _) (v := ?_) rfl (by kernel_rfl) (by kernel_rfl) (by kernel_rfl) (fun _ _ _ h => h) (Or.inl ⟨by kernel_rfl, ?_⟩) (by assumption) ?_
                    rotate_left
                    · (intro w hSw; (try dsimp only at hSw); go_simp; try (with_reducible rfl))
                    simp only [Act.put, List.getElem_toArray, List.getElem_cons_succ, List.getElem_cons_zero, List.setIfInBounds_toArray, List.set_cons_zero, List.set_cons_succ]
                    refine wpAnyH_ready (rs := [9]) (by kernel_rfl) (by simp) ?_
                    refine AllReadyH.cons (o := _) rfl (fun K hK => ?_) AllReadyH.nil
                    go_simp
                    refine (Does.at (L := spL s lg p g bk bs I D safe m) (R := [rowR gx (SCV x), rowR g6 #[.bool false], marksR [D0]]) HKN.out HT0.out).mono ?_
                    clear HKN HT0
                    rintro e w21 ⟨rfl, T⟩
                    have T : Sts W (fun _ => False) w21 (idxR s lg bk bs I2 :: rowR lg (ledCells p g m2.n) :: plR p D2 f2 :: rowsIR g m2 :: rowR gx (SCV x) :: rowR g6 #[.bool false] :: marksR [D0] :: []) := T
                    refine hK.out _ _ (HFS.out _ _ (T.ord [4, 0, 1, 2, 3, 5, 6])) (fun hHeld => ?_)
                    clear hK K
                    have HT0 := Lib.hid T; clear T
                    refine wpAnyH_take (i := 10) (oi := _) (v := ?_) rfl (by kernel_rfl) (by kernel_rfl) (by kernel_rfl) (fun _ _ _ h => h) (Or.inl ⟨by kernel_rfl, ?_⟩) (by assumption) ?_
                    rotate_left
                    · (intro w hSw; (try dsimp only at hSw); go_simp; try (with_reducible rfl))
                    simp only [Act.put, List.getElem_toArray, List.getElem_cons_succ, List.getElem_cons_zero, List.setIfInBounds_toArray, List.set_cons_zero, List.set_cons_succ]
                    refine wpAnyH_ready (rs := [14]) (by kernel_rfl) (by simp) ?_
                    refine AllReadyH.cons (o := _) rfl (fun K hK => ?_) AllReadyH.nil
                    go_simp
                    refine (Ans.at HG3.out HT0.out).mono ?_
                    clear HG3 HT0
                    rintro e w22 ⟨rfl, T⟩
                    refine hK.out _ _ (HFS.out _ _ (T.ord [4, 0, 1, 2, 3, 5, 6])) (fun hHeld => ?_)
                    clear hK K
                    have HT0 := Lib.hid T; clear T
                    refine wpAnyH_take (i := 15) (oi := _) (v := ?_) rfl (by kernel_rfl) (by kernel_rfl) (by kernel_rfl) (fun _ _ _ h => h) (Or.inl ⟨by kernel_rfl, ?_⟩) (by assumption) ?_
                    rotate_left
                    · (intro w hSw; (try dsimp only at hSw); go_simp; try (with_reducible rfl))
                    simp only [Act.put, List.getElem_toArray, List.getElem_cons_succ, List.getElem_cons_zero, List.setIfInBounds_toArray, List.set_cons_zero, List.set_cons_succ]
                    refine wpAnyH_take (i := 16) (oi := _) (v := ?_) rfl (by kernel_rfl) (by kernel_rfl) (by kernel_rfl) (fun _ _ _ h => h) (Or.inl ⟨by kernel_rfl, ?_⟩) (by assumption) ?_
                    rotate_left
                    · (intro w hSw; (try dsimp only at hSw); go_simp; try (with_reducible rfl))
                    simp only [Act.put, List.getElem_toArray, List.getElem_cons_succ, List.getElem_cons_zero, List.setIfInBounds_toArray, List.set_cons_zero, List.set_cons_succ]
                    refine wpAnyH_take (i := 17) (oi := _) (v := ?_) rfl (by kernel_rfl) (by kernel_rfl) (by kernel_rfl) (fun _ _ _ h => h) (Or.inl ⟨by kernel_rfl, ?_⟩) (by assumption) ?_
                    rotate_left
                    · (intro w hSw; (try dsimp only at hSw); go_simp; try (with_reducible rfl))
                    simp only [Act.put, List.getElem_toArray, List.getElem_cons_succ, List.getElem_cons_zero, List.setIfInBounds_toArray, List.set_cons_zero, List.set_cons_succ]
                    refine wpAnyH_take (i := 18) (oi := _) (v := ?_) rfl (by kernel_rfl) (by kernel_rfl) (by kernel_rfl) (fun _ _ _ h => h) (Or.inl ⟨by kernel_rfl, ?_⟩) (by assumption) ?_
                    rotate_left
                    · (intro w hSw; (try dsimp only at hSw); go_simp; try (with_reducible rfl))
                    simp only [Act.put, List.getElem_toArray, List.getElem_cons_succ, List.getElem_cons_zero, List.setIfInBounds_toArray, List.set_cons_zero, List.set_cons_succ]
                    refine wpAnyH_ready (rs := [19]) (by kernel_rfl) (by simp) ?_
                    refine AllReadyH.cons (o := _) rfl (fun K hK => ?_) AllReadyH.nil
                    go_simp
                    refine (Ans.at HG9.out HT0.out).mono ?_
                    clear HG9 HT0
                    rintro e w23 ⟨rfl, T⟩
                    refine hK.out _ _ (HFS.out _ _ (T.ord [4, 0, 1, 2, 3, 5, 6])) (fun hHeld => ?_)
                    clear hK K
                    have HT0 := Lib.hid T; clear T
                    refine wpAnyH_take (i := 20) (oi := _) (v := ?_) rfl (by kernel_rfl) (by kernel_rfl) (by kernel_rfl) (fun _ _ _ h => h) (Or.inl ⟨by kernel_rfl, ?_⟩) (by assumption) ?_
                    rotate_left
                    · (intro w hSw; (try dsimp only at hSw); go_simp; try (with_reducible rfl))
                    simp only [Act.put, List.getElem_toArray, List.getElem_cons_succ, List.getElem_cons_zero, List.setIfInBounds_toArray, List.set_cons_zero, List.set_cons_succ]
                    refine wpAnyH_take (i := 21) (oi := _) (v := ?_) rfl (by kernel_rfl) (by kernel_rfl) (by kernel_rfl) (fun _ _ _ h => h) (Or.inl ⟨by kernel_rfl, ?_⟩) (by assumption) ?_
                    rotate_left
                    · (intro w hSw; (try dsimp only at hSw); go_simp; try (with_reducible rfl))
                    simp only [Act.put, List.getElem_toArray, List.getElem_cons_succ, List.getElem_cons_zero, List.setIfInBounds_toArray, List.set_cons_zero, List.set_cons_succ]
                    refine wpAnyH_take (i := 22) (oi := _) (v := ?_) rfl (by kernel_rfl) (by kernel_rfl) (by kernel_rfl) (fun _ _ _ h => h) (Or.inl ⟨by kernel_rfl, ?_⟩) (by assumption) ?_
                    rotate_left
                    · (intro w hSw; (try dsimp only at hSw); go_simp; try (with_reducible rfl))
                    simp only [Act.put, List.getElem_toArray, List.getElem_cons_succ, List.getElem_cons_zero, List.setIfInBounds_toArray, List.set_cons_zero, List.set_cons_succ]
                    refine wpAnyH_done (by kernel_rfl) ?_ _
                    refine NoPanic.normal ?_
                    have hT9 := (HT0.out.ord [4, 0, 1, 2, 3, 5, 6]).drop
                    have HT9 := Lib.hid hT9; clear hT9 HT0
                    go_wp2
                    go_roundw
                    case rel => exact ⟨j + 1, I2, D2, f2, m2, by go_num, by omega, HI2.out, HCD.out.2.2, HT9.out⟩
                    case measure => simp [intOf]; omega
                  case true =>
                    have he := HCD.out.1 (by rw [h3, h9]; rfl)
                    subst he
                    rw [h9] at HG9
                    refine wpAnyH_take (i := 4) (oi := _) (v := ?_) rfl (by kernel_rfl) (by kernel_rfl) (by kernel_rfl) (fun _ _ _ h => h) (Or.inl ⟨by kernel_rfl, ?_⟩) (by assumption) ?_
                    rotate_left
                    · (intro w hSw; (try dsimp only at hSw); go_simp; try (with_reducible rfl))
                    simp only [Act.put, List.getElem_toArray, List.getElem_cons_succ, List.getElem_cons_zero, List.setIfInBounds_toArray, List.set_cons_zero, List.set_cons_succ]
                    refine wpAnyH_take (i := 5) (oi := _) (v := ?_) rfl (by kernel_rfl) (by kernel_rfl) (by kernel_rfl) (fun _ _ _ h => h) (Or.inl ⟨by kernel_rfl, ?_⟩) (by assumption) ?_
                    rotate_left
                    · (intro w hSw; (try dsimp only at hSw); go_simp; try (with_reducible rfl))
                    simp only [Act.put, List.getElem_toArray, List.getElem_cons_succ, List.getElem_cons_zero, List.setIfInBounds_toArray, List.set_cons_zero, List.set_cons_succ]
                    refine wpAnyH_take (i := 6) (oi := _) (v := ?_) rfl (by kernel_rfl) (by kernel_rfl) (by kernel_rfl) (fun _ _ _ h => h) (Or.inl ⟨by kernel_rfl, ?_⟩) (by assumption) ?_
                    rotate_left
                    · (intro w hSw; (try dsimp only at hSw); go_simp; try (with_reducible rfl))
                    simp only [Act.put, List.getElem_toArray, List.getElem_cons_succ, List.getElem_cons_zero, List.setIfInBounds_toArray, List.set_cons_zero, List.set_cons_succ]
                    refine wpAnyH_take (i := 7) (oi := _) (v := ?_) rfl (by kernel_rfl) (by kernel_rfl) (by kernel_rfl) (fun _ _ _ h => h) (Or.inl ⟨by kernel_rfl, ?_⟩) (by assumption) ?_
                    rotate_left
                    · (intro w hSw; (try dsimp only at hSw); go_simp; try (with_reducible rfl))
                    simp only [Act.put, List.getElem_toArray, List.getElem_cons_succ, List.getElem_cons_zero, List.setIfInBounds_toArray, List.set_cons_zero, List.set_cons_succ]
                    refine wpAnyH_take (i := 8) (oi := _) (v := ?_) rfl (by kernel_rfl) (by kernel_rfl) (by kernel_rfl) (fun _ _ _ h => h) (Or.inl ⟨by kernel_rfl, ?_⟩) (by assumption) ?_
                    rotate_left
                    · (intro w hSw; (try dsimp only at hSw); go_simp; try (with_reducible rfl))
                    simp only [Act.put, List.getElem_toArray, List.getElem_cons_succ, List.getElem_cons_zero, List.setIfInBounds_toArray, List.set_cons_zero, List.set_cons_succ]
                    refine wpAnyH_take (i := 11) (oi := _) (v := ?_) rfl (by kernel_rfl) (by kernel_rfl) (by kernel_rfl) (fun _ _ _ h => h) (Or.inl ⟨by kernel_rfl, ?_⟩) (by assumption) ?_
                    rotate_left
                    · (intro w hSw; (try dsimp only at hSw); go_simp; try (with_reducible rfl))
                    simp only [Act.put, List.getElem_toArray, List.getElem_cons_succ, List.getElem_cons_zero, List.setIfInBounds_toArray, List.set_cons_zero, List.set_cons_succ]
                    refine wpAnyH_take (i := 12) (oi := _) (v := ?_) rfl (by kernel_rfl) (by kernel_rfl) (by kernel_rfl) (fun _ _ _ h => h) (Or.inl ⟨by kernel_rfl, ?_⟩) (by assumption) ?_
                    rotate_left
                    · (intro w hSw; (try dsimp only at hSw); go_simp; try (with_reducible rfl))
                    simp only [Act.put, List.getElem_toArray, List.getElem_cons_succ, List.getElem_cons_zero, List.setIfInBounds_toArray, List.set_cons_zero, List.set_cons_succ]
                    refine wpAnyH_take (i := 13) (oi := _) (v := ?_) rfl (by kernel_rfl) (by kernel_rfl) (by kernel_rfl) (fun _ _ _ h => h) (Or.inl ⟨by kernel_rfl, ?_⟩) (by assumption) ?_
                    rotate_left
                    · (intro w hSw; (try dsimp only at hSw); go_simp; try (with_reducible rfl))
                    simp only [Act.put, List.getElem_toArray, List.getElem_cons_succ, List.getElem_cons_zero, List.setIfInBounds_toArray, List.set_cons_zero, List.set_cons_succ]
                    refine wpAnyH_ready (rs := [9]) (by kernel_rfl) (by simp) ?_
                    refine AllReadyH.cons (o := _) rfl (fun K hK => ?_) AllReadyH.nil
                    go_simp
                    refine (Does.at (L := spL s lg p g bk bs I D safe m) (R := [rowR gx (SCV x), rowR g6 #[.bool false], marksR [D0]]) HKN.out HT0.out).mono ?_
                    clear HKN HT0
                    rintro e w21 ⟨rfl, T⟩
                    have T : Sts W (fun _ => False) w21 (idxR s lg bk bs I2 :: rowR lg (ledCells p g m2.n) :: plR p D2 f2 :: rowsIR g m2 :: rowR gx (SCV x) :: rowR g6 #[.bool false] :: marksR [D0] :: []) := T
                    refine hK.out _ _ (HFS.out _ _ (T.ord [4, 0, 1, 2, 3, 5, 6])) (fun hHeld => ?_)
                    clear hK K
                    have HT0 := Lib.hid T; clear T
                    refine wpAnyH_take (i := 10) (oi := _) (v := ?_) rfl (by kernel_rfl) (by kernel_rfl) (by kernel_rfl) (fun _ _ _ h => h) (Or.inl ⟨by kernel_rfl, ?_⟩) (by assumption) ?_
                    rotate_left
                    · (intro w hSw; (try dsimp only at hSw); go_simp; try (with_reducible rfl))
                    simp only [Act.put, List.getElem_toArray, List.getElem_cons_succ, List.getElem_cons_zero, List.setIfInBounds_toArray, List.set_cons_zero, List.set_cons_succ]
                    refine wpAnyH_ready (rs := [14]) (by kernel_rfl) (by simp) ?_
                    refine AllReadyH.cons (o := _) rfl (fun K hK => ?_) AllReadyH.nil
                    go_simp
                    refine (Ans.at HG3.out HT0.out).mono ?_
                    clear HG3 HT0
                    rintro e w22 ⟨rfl, T⟩
                    refine hK.out _ _ (HFS.out _ _ (T.ord [4, 0, 1, 2, 3, 5, 6])) (fun hHeld => ?_)
                    clear hK K
                    have HT0 := Lib.hid T; clear T
                    refine wpAnyH_take (i := 15) (oi := _) (v := ?_) rfl (by kernel_rfl) (by kernel_rfl) (by kernel_rfl) (fun _ _ _ h => h) (Or.inl ⟨by kernel_rfl, ?_⟩) (by assumption) ?_
                    rotate_left
                    · (intro w hSw; (try dsimp only at hSw); go_simp; try (with_reducible rfl))
                    simp only [Act.put, List.getElem_toArray, List.getElem_cons_succ, List.getElem_cons_zero, List.setIfInBounds_toArray, List.set_cons_zero, List.set_cons_succ]
                    refine wpAnyH_take (i := 16) (oi := _) (v := ?_) rfl (by kernel_rfl) (by kernel_rfl) (by kernel_rfl) (fun _ _ _ h => h) (Or.inl ⟨by kernel_rfl, ?_⟩) (by assumption) ?_
                    rotate_left
                    · (intro w hSw; (try dsimp only at hSw); go_simp; try (with_reducible rfl))
                    simp only [Act.put, List.getElem_toArray, List.getElem_cons_succ, List.getElem_cons_zero, List.setIfInBounds_toArray, List.set_cons_zero, List.set_cons_succ]
                    refine wpAnyH_take (i := 17) (oi := _) (v := ?_) rfl (by kernel_rfl) (by kernel_rfl) (by kernel_rfl) (fun _ _ _ h => h) (Or.inl ⟨by kernel_rfl, ?_⟩) (by assumption) ?_
                    rotate_left
                    · (intro w hSw; (try dsimp only at hSw); go_simp; try (with_reducible rfl))
                    simp only [Act.put, List.getElem_toArray, List.getElem_cons_succ, List.getElem_cons_zero, List.setIfInBounds_toArray, List.set_cons_zero, List.set_cons_succ]
                    refine wpAnyH_take (i := 18) (oi := _) (v := ?_) rfl (by kernel_rfl) (by kernel_rfl) (by kernel_rfl) (fun _ _ _ h => h) (Or.inl ⟨by kernel_rfl, ?_⟩) (by assumption) ?_
                    rotate_left
                    · (intro w hSw; (try dsimp only at hSw); go_simp; try (with_reducible rfl))
                    simp only [Act.put, List.getElem_toArray, List.getElem_cons_succ, List.getElem_cons_zero, List.setIfInBounds_toArray, List.set_cons_zero, List.set_cons_succ]
                    refine wpAnyH_ready (rs := [19]) (by kernel_rfl) (by simp) ?_
                    refine AllReadyH.cons (o := _) rfl (fun K hK => ?_) AllReadyH.nil
                    go_simp
                    refine (Ans.at HG9.out HT0.out).mono ?_
                    clear HG9 HT0
                    rintro e w23 ⟨rfl, T⟩
                    refine hK.out _ _ (HFS.out _ _ (T.ord [4, 0, 1, 2, 3, 5, 6])) (fun hHeld => ?_)
                    clear hK K
                    have HT0 := Lib.hid T; clear T
                    refine wpAnyH_take (i := 20) (oi := _) (v := ?_) rfl (by kernel_rfl) (by kernel_rfl) (by kernel_rfl) (fun _ _ _ h => h) (Or.inl ⟨by kernel_rfl, ?_⟩) (by assumption) ?_
                    rotate_left
                    · (intro w hSw; (try dsimp only at hSw); go_simp; try (with_reducible rfl))
                    simp only [Act.put, List.getElem_toArray, List.getElem_cons_succ, List.getElem_cons_zero, List.setIfInBounds_toArray, List.set_cons_zero, List.set_cons_succ]
                    refine wpAnyH_take (i := 21) (oi := _) (v := ?_) rfl (by kernel_rfl) (by kernel_rfl) (by kernel_rfl) (fun _ _ _ h => h) (Or.inl ⟨by kernel_rfl, ?_⟩) (by assumption) ?_
                    rotate_left
                    · (intro w hSw; (try dsimp only at hSw); go_simp; try (with_reducible rfl))
                    simp only [Act.put, List.getElem_toArray, List.getElem_cons_succ, List.getElem_cons_zero, List.setIfInBounds_toArray, List.set_cons_zero, List.set_cons_succ]
                    refine wpAnyH_take (i := 22) (oi := _) (v := ?_) rfl (by kernel_rfl) (by kernel_rfl) (by kernel_rfl) (fun _ _ _ h => h) (Or.inl ⟨by kernel_rfl, ?_⟩) (by assumption) ?_
                    rotate_left
                    · (intro w hSw; (try dsimp only at hSw); go_simp; try (with_reducible rfl))
                    simp only [Act.put, List.getElem_toArray, List.getElem_cons_succ, List.getElem_cons_zero, List.setIfInBounds_toArray, List.set_cons_zero, List.set_cons_succ]
                    refine wpAnyH_done (by kernel_rfl) ?_ _
                    refine NoPanic.normal ?_
                    have hT9 := (HT0.out.ord [4, 0, 1, 2, 3, 5, 6]).drop
                    have HT9 := Lib.hid hT9; clear hT9 HT0
                    go_wp2
                    go_roundw
                    case rel => exact ⟨j + 1, I2, D2, f2, m2, by go_num, by omega, HI2.out, HCD.out.2.2, HT9.out⟩
                    case measure => simp [intOf]; omega
          · obtain rfl : j = l.length := by omega
            have T : Sts W (fun _ => False) wr (idxR s lg bk bs I :: rowR lg (ledCells p g m.n) :: plR p D safe :: rowsIR g m :: rowR g6 #[.bool false] :: marksR [D0] :: []) := T
            have hpl := playT n A c l h60 W wr _ HX.out HKP.out T.drop.drop.drop.drop
            have HPL := Lib.hid hpl
            clear hpl T hI hD
            go_wp2_with fail
            refine HPL.out.mono ?_
            clear HPL
            rintro e w13 (⟨hs', b, rfl, T⟩ | ⟨_, s2, lg2, p2, g2, bk2, bs2, I2, D2, f2, m2, b, B, rfl, hI, hB, T⟩)
            · rw [hs] at hs'; cases hs'
            have T : Sts W (fun _ => False) w13 (idxR s2 lg2 bk2 bs2 I2 :: rowR lg2 (ledCells p2 g2 m2.n) :: plR p2 D2 f2 :: rowsIR g2 m2 :: bookR b B :: rowR g6 #[.bool false] :: marksR [D0] :: []) := T
            have T2 := (T.bookNew).new (#[.pointer (some ⟨w13.heap.size, 0, none⟩)]) 47
            rw [World.size_alloc] at T2
            have T3 := T2.ord [2, 3, 4, 5, 0, 1, 6, 7, 8]
            have T3 : Sts W (fun _ => False) _ (spL s2 lg2 p2 g2 bk2 bs2 I2 D2 f2 m2 ++ (rowR (w13.heap.size + 1) #[.pointer (some ⟨w13.heap.size, 0, none⟩)] :: bookR w13.heap.size [] :: bookR b B :: rowR g6 #[.bool false] :: marksR [D0] :: [])) := T3
            have HA := Lib.hid (spAllT T3); have HI := Lib.hid hI; have HB := Lib.hid hB
            clear T T2 T3 hI hB
            go_wp2_with fail
            generalize w13.heap.size + 1 = g19 at *
            generalize w13.heap.size = b1 at *
            refine HA.out.mono ?_
            clear HA
            rintro e w14 ⟨c7, rfl, T⟩
            have HT := Lib.hid T; clear T
            go_wp2_with fail
            have hm2 := HI.out.ok
            have T0 : Sts W (fun _ => False) w14 ([bookR b1 ((ents m2).take 0)] ++ (iterIR c7 g2 m2 ++ rowR g19 #[.pointer (some ⟨b1, 0, none⟩)] :: idxR s2 lg2 bk2 bs2 I2 :: rowR lg2 (ledCells p2 g2 m2.n) :: plR p2 D2 f2 :: bookR b B :: rowR g6 #[.bool false] :: marksR [D0] :: [])) := by
              have T1 : Sts W (fun _ => False) w14 (rowR c7 #[.pointer (some ⟨g2, 0, none⟩)] :: rowsIR g2 m2 :: idxR s2 lg2 bk2 bs2 I2 :: rowR lg2 (ledCells p2 g2 m2.n) :: plR p2 D2 f2 :: rowR g19 #[.pointer (some ⟨b1, 0, none⟩)] :: bookR b1 [] :: bookR b B :: rowR g6 #[.bool false] :: marksR [D0] :: []) := HT.out
              have T2 := T1.ord [6, 0, 1, 5, 2, 3, 4, 7, 8, 9]
              exact T2
            clear HT
            generalize w4.heap.size = k4 at *
            generalize w5.heap.size = k5 at *
            refine (wpIn_wide (n := 4)).1 ?_
            refine wp_rangeSts (gf := 116) (lb := #[.pointer (some ⟨c7, 0, none⟩)]) (enc := fun x : Item × Inst => #[.agg (IV x.1), .agg (NV x.2)]) (xs := ents m2)
              (fun k => [bookR b1 ((ents m2).take k)]) (fun _ _ => [noR]) (iterIR c7 g2 m2 ++ rowR g19 #[.pointer (some ⟨b1, 0, none⟩)] :: idxR s2 lg2 bk2 bs2 I2 :: rowR lg2 (ledCells p2 g2 m2.n) :: plR p2 D2 f2 :: bookR b B :: rowR g6 #[.bool false] :: marksR [D0] :: [])
              (fun k x a' own' => ∃ b3 b2, own' = [rowR b2 (NV x.2), rowR b3 (IV x.1), bookR b1 ((ents m2).take k)] ∧ a' = { tmps := List.toArray ((Value.int .i64 n) :: (Value.slice A l.length c) :: (Value.int .i64 rep) :: undef :: undef :: undef :: (Value.pointer (some ⟨g6, 0, none⟩)) :: (Value.pointer none) :: (Value.pointer (some ⟨k4, 0, none⟩)) :: (Value.int .i64 0) :: (Value.pointer (some ⟨k5, 0, none⟩)) :: (Value.bool false) :: (Value.pointer (some ⟨p, 0, none⟩)) :: (Value.pointer (some ⟨s, 0, none⟩)) :: (Value.int .i64 0) :: undef :: u16 :: (Value.pointer (some ⟨s2, 0, none⟩)) :: (Value.pointer (some ⟨b, 0, none⟩)) :: (Value.pointer (some ⟨g19, 0, none⟩)) :: (Value.pointer (some ⟨b3, 0, none⟩)) :: (Value.pointer (some ⟨b2, 0, none⟩)) :: undef :: undef :: undef :: (Value.bool true) :: (Value.bool false) :: (Value.slice A l.length c) :: (Value.bool false) :: (Value.pointer none) :: (allF c0) :: undef :: undef :: (Value.tuple #[.agg (DV fun x => 0), .int .i64 0]) :: (Value.pointer none) :: (Value.agg (EV nearDeed)) :: (Value.agg (IV noItem)) :: (Value.tuple #[.agg (DV fun x => 0), .int .i64 0]) :: (Value.agg (DV fun x => 0)) :: (Value.int .i64 0) :: (Value.tuple #[.agg (IV ⟨0, 1⟩), .bool false]) :: (Value.pointer none) :: (Value.tuple #[.agg (IV ⟨0, 1⟩), .bool false]) :: (Value.agg (IV ⟨0, 1⟩)) :: (Value.bool false) :: (Value.pointer none) :: (Value.agg (IV noItem)) :: (Value.agg (NV noInst)) :: (Value.int .i64 2) :: (Value.bool false) :: (Value.bool false) :: (Value.pointer none) :: (Value.int .i64 2) :: (Value.bool false) :: (Value.bool false) :: (Value.bool false) :: (Value.pointer none) :: (Value.agg (IV noItem)) :: (Value.agg (NV noInst)) :: (Value.agg (NV noInst)) :: (Value.bool false) :: (Value.bool false) :: (Value.bool false) :: (Value.pointer none) :: (Value.int .i64 0) :: (Value.pointer none) :: (Value.int .i64 0) :: (Value.int .i64 0) :: (Value.int .i64 0) :: (Value.int .i64 0) :: (Value.bool false) :: (Value.bool false) :: (Value.bool false) :: (Value.agg (DV fun x => 0)) :: (Value.agg (DV fun x => 0)) :: (Value.bool false) :: (Value.bool false) :: (Value.bool false) :: (Value.bool false) :: (Value.bool false) :: (Value.bool false) :: (Value.pointer (some ⟨k5, 1, none⟩)) :: (Value.int .i64 1) :: (Value.bool false) :: (Value.bool false) :: (Value.pointer (some ⟨p, 0, none⟩)) :: (Value.tuple #[.pointer (some ⟨s, 0, none⟩), .int .i64 0]) :: (Value.pointer (some ⟨p, 0, none⟩)) :: (Value.int .i64 n) :: (Value.tuple #[.pointer (some ⟨s, 0, none⟩), .int .i64 0]) :: (Value.pointer (some ⟨s, 0, none⟩)) :: (Value.int .i64 0) :: (Value.int .i64 0) :: (Value.bool false) :: undef :: undef :: undef :: undef :: undef :: undef :: undef :: undef :: undef :: undef :: undef :: undef :: undef :: undef :: (Value.slice A l.length c) :: (Value.int .i64 (l.length : Int)) :: (Value.int .i64 (l.length : Int)) :: (Value.bool false) :: u112 :: u113 :: u114 :: u115 :: u116 :: u117 :: u118 :: u119 :: u120 :: u121 :: u122 :: u123 :: u124 :: u125 :: u126 :: u127 :: u128 :: u129 :: u130 :: u131 :: u132 :: u133 :: u134 :: u135 :: u136 :: u137 :: (Value.tuple #[.pointer (some ⟨s2, 0, none⟩), .pointer (some ⟨b, 0, none⟩)]) :: (Value.int .i64 n) :: (Value.slice A l.length c) :: (Value.tuple #[.pointer (some ⟨s2, 0, none⟩), .pointer (some ⟨b, 0, none⟩)]) :: (Value.pointer (some ⟨s2, 0, none⟩)) :: (Value.pointer (some ⟨b, 0, none⟩)) :: (Value.agg #[.slice none 0 0, .slice none 0 0]) :: (Value.pointer (some ⟨b1, 0, none⟩)) :: (Value.pointer (some ⟨s2, 0, none⟩)) :: (allF c7) :: (Value.agg (IV x.1)) :: (Value.agg (NV x.2)) :: undef :: undef :: undef :: undef :: undef :: undef :: undef :: undef :: undef :: undef :: undef :: undef :: undef :: undef :: undef :: undef :: undef :: undef :: undef :: undef :: undef :: undef :: undef :: undef :: undef :: undef :: undef :: undef :: undef :: undef :: undef :: undef :: undef :: undef :: undef :: undef :: undef :: undef :: undef :: undef :: undef :: undef :: undef :: undef :: undef :: undef :: undef :: undef :: undef :: undef :: undef :: undef :: []), defers := [] })
              rfl (enters_of Try.func116 (by kernel_rfl) rfl) (fun _ => rfl) (Gives.part fun H hS => irAllG c7 g2 m2 hm2 _ H hS) T0 ?calm ?calmX ?assign ?body ?done ?stop
            case calm => exact fun k => calmL_cons (bookR_calm _ _ _) (calmL_nil _)
            case calmX => exact fun _ _ => calmL_cons (noR_calm _) (calmL_nil _)
            case assign =>
              intro lr k x W1 G1 K hx T1 hK
              have T2 := ((T1.new (IV x.1) 42).new (NV x.2) 39)
              rw [World.size_alloc] at T2
              have HT2 := Lib.hid T2
              clear T0 T1 T2
              gi_wp2
              exact hK _ _ _ ⟨_, _, rfl, rfl⟩ HT2.out
            case body =>
              rintro lr k x _ _ W1 G1 hx ⟨b3, b2, rfl, rfl⟩ T1 hread
              clear T0
              obtain ⟨F', w', TL⟩ := hread T1
              have TL : Sts w' F' W1 (rowR b2 (NV x.2) :: rowR b3 (IV x.1) :: bookR b1 ((ents m2).take k) :: rowR c7 #[.pointer (some ⟨g2, 0, none⟩)] :: rowsIR g2 m2 :: rowR g19 #[.pointer (some ⟨b1, 0, none⟩)] :: idxR s2 lg2 bk2 bs2 I2 :: rowR lg2 (ledCells p2 g2 m2.n) :: plR p2 D2 f2 :: bookR b B :: rowR g6 #[.bool false] :: marksR [D0] :: []) := TL
              have rb := (TL.ord [5, 0, 1, 2, 3, 4]).row
              have lb := row_lt rb
              have cb : W1.cell? ⟨g19, 0, none⟩ = some (.pointer (some ⟨b1, 0, none⟩)) := row_cell rb 0
              have r1 := T1.row; have r2 := T1.row1; have l1 := row_lt r1; have l2 := row_lt r2
              have hnx := setB_ents hm2 hx
              have hlen : ((ents m2).take k).length ≤ 1000000 := by
                have h2 := ents_len hm2
                have h3 : ((ents m2).take k).length ≤ (ents m2).length := List.length_take_le' _ _
                omega
              have hset := bookSetD b1 ((ents m2).take k) hlen x.1 x.2
              rw [hnx] at hset
              have HSET := Lib.hid hset; have HT := Lib.hid T1
              clear hset hnx hlen TL hread T1 rb
              gi_wp2_with fail
              refine ⟨trivial, ?_⟩
              refine (CallsIn.inRound lr (callsIn_wide.2 (Does.at (R := [rowR b2 (NV x.2), rowR b3 (IV x.1)]) HSET.out (HT.out.ord [2, 0, 1])))).mono ?_
              rintro e w2 ⟨rfl, T⟩
              have T6 := (T.ord [1, 2, 0]).drop.drop
              have H6 := Lib.hid T6; clear T T6 HT HSET cb r1 r2
              gi_wp2
              exact H6.out
            case stop =>
              intro D1 c1 k W1 _ _ T1
              exact (Sts.no T1.drop).elim
            case done =>
              intro D1 W1 T1
              clear T0
              rw [List.take_length] at T1
              have T1 : Sts W (fun _ => False) W1 (objR D1 (.deferred (some [])) :: bookR b1 (ents m2) :: rowR c7 #[.pointer (some ⟨g2, 0, none⟩)] :: rowsIR g2 m2 :: rowR g19 #[.pointer (some ⟨b1, 0, none⟩)] :: idxR s2 lg2 bk2 bs2 I2 :: rowR lg2 (ledCells p2 g2 m2.n) :: plR p2 D2 f2 :: bookR b B :: rowR g6 #[.bool false] :: marksR [D0] :: []) := T1
              have T2 := (T1.ord [2, 0, 10, 5, 6, 7, 3, 4, 1, 8, 9]).drop.marksCons
              have T4 := T2.ord [1, 2, 3, 4, 5, 6, 7, 8, 0]
              have T4 : Sts W (fun _ => False) W1 (spL s2 lg2 p2 g2 bk2 bs2 I2 D2 f2 m2 ++ (rowR g19 #[.pointer (some ⟨b1, 0, none⟩)] :: bookR b1 (ents m2) :: bookR b B :: rowR g6 #[.bool false] :: marksR [D1, D0] :: [])) := T4
              have HNX := Lib.hid (spNextT hm2 rep T4)
              clear T1 T2 T4
              go_wp2_with fail
              refine HNX.out.mono ?_
              clear HNX
              rintro e w15 ⟨rfl, T⟩
              have hsame := sameB_book HB.out hm2
              have htop := top_K HB.out hm2 HI.out.tp rep
              have htb := hm2.top rep
              have hmn := HI.out.mn
              have hbl := HB.out.len hm2
              have hel := ents_len hm2
              have T2 := T.new (IV ⟨rep, topM m2 rep + 1⟩) 42
              have T2 : Sts W (fun _ => False) _ (rowR w15.heap.size (IV ⟨rep, topM m2 rep + 1⟩) :: idxR s2 lg2 bk2 bs2 I2 :: rowR lg2 (ledCells p2 g2 m2.n) :: plR p2 D2 f2 :: rowsIR g2 m2 :: rowR g19 #[.pointer (some ⟨b1, 0, none⟩)] :: bookR b1 (ents m2) :: bookR b B :: rowR g6 #[.bool false] :: marksR [D1, D0] :: []) := T2
              have T3 := T2.ord [7, 6, 0, 1, 2, 3, 4, 5, 8, 9]
              have hrt := rtopR b B (by omega) rep
              rw [htop] at hrt
              have hsm := sameR b1 b (ents m2) B (by omega) (by omega)
              rw [hsame] at hsm
              have hcan : canNext m2 rep = (decide (0 ≤ rep) && decide (rep < n) && decide (topM m2 rep + 1 ≤ 64)) := by unfold canNext; rw [hmn]
              have HRT := Lib.hid hrt; have HSM := Lib.hid hsm; have HT := Lib.hid T3; have HTB := Lib.hid htb; have HMN := Lib.hid hmn; have HCAN := Lib.hid hcan
              clear T T2 T3 hrt hsm hsame htop htb hmn hbl hel hcan
              go_wp2_with fail
              refine (Reads.at (L := [bookR b B]) HRT.out HT.out).mono ?_
              clear HRT
              rintro e w16 ⟨rfl, hb⟩
              have T := HT.out.pure hb
              clear HT hb
              have rg := (T.ord [7, 0, 1, 2, 3, 4, 5, 6, 8, 9]).row; have lg9 := row_lt rg; have cg := row_cell rg 0
              have HT := Lib.hid (T.ord [1, 0, 2, 3, 4, 5, 6, 7, 8, 9]); clear T
              go_wp2_with fail
              refine (Reads.at (L := [bookR b1 (ents m2), bookR b B]) HSM.out HT.out).mono ?_
              clear HSM rg lg9 cg
              rintro e w17 ⟨rfl, hb⟩
              have T := HT.out.pure hb
              clear HT hb
              have T2 := T.ord [3, 4, 5, 6, 2, 0, 1, 7, 8, 9]
              have T2 : Sts W (fun _ => False) w17 (spL s2 lg2 p2 g2 bk2 bs2 I2 D2 f2 m2 ++ [rowR w15.heap.size (IV ⟨rep, topM m2 rep + 1⟩), bookR b1 (ents m2), bookR b B, rowR g19 #[.pointer (some ⟨b1, 0, none⟩)], rowR g6 #[.bool false], marksR [D1, D0]]) := T2
              have HTP := Lib.hid (spTopT hm2 rep T2); have HT := Lib.hid T2
              clear T T2
              go_wp2_with fail
              refine HTP.out.mono ?_
              clear HTP
              rintro e w18 ⟨rfl, hb⟩
              have T := HT.out.pure hb
              clear HT hb
              have HSZ := Lib.hid (spSizeT T); have HT := Lib.hid T
              clear T
              go_wp2_with fail
              refine HSZ.out.mono ?_
              clear HSZ
              rintro e w19 ⟨rfl, rfl⟩
              have T : Sts W (fun _ => False) w18 (idxR s2 lg2 bk2 bs2 I2 :: rowR lg2 (ledCells p2 g2 m2.n) :: plR p2 D2 f2 :: rowsIR g2 m2 :: rowR w15.heap.size (IV ⟨rep, topM m2 rep + 1⟩) :: bookR b1 (ents m2) :: bookR b B :: rowR g19 #[.pointer (some ⟨b1, 0, none⟩)] :: rowR g6 #[.bool false] :: marksR [D1, D0] :: []) := HT.out
              have T2 := T.ord [8, 9, 4, 0, 1, 2, 3, 5, 6, 7]
              have r6 := T2.row; have l6 := row_lt r6; have c6 := row_cell r6 0; have f6 := row_frozen r6 0
              have r2 := T2.row2; have l2 := row_lt r2
              have T3 := T2.setCell 0 (.bool true)
              have T4 := T3.ord [1, 0, 2, 3, 4, 5, 6, 7, 8, 9]
              have hmn := HMN.out
              have hmb : (m2.n == n) = true := by simp [hmn]
              have hw : IntKind.i64.wrap (topM m2 rep + 1) = topM m2 rep + 1 := by have := HTB.out; rw [IntKind.wrap_i64]; omega
              have he := eqA_refl (IV ⟨rep, topM m2 rep + 1⟩)
              have HT := Lib.hid T4
              clear T T2 T3 T4 hmn
              have hcan := HCAN.out
              clear HCAN HMN
              generalize topM m2 rep = tp at *
              cases q1 : decide (0 ≤ rep)
              case false =>
                have hc : canNext m2 rep = false := by rw [hcan, q1]; simp
                clear hcan
                go_wp2
                refine retMs (Ds := [D1, D0]) HT.out (fun W' TW => ⟨results_cellK rfl rfl (row_cell TW.row 0) Try.underlying4 rfl, rfl, ?_⟩) rfl
                first | exact TW.below | (rw [hg6]; exact TW.below) | (rw [← hg6]; exact TW.below)
              case true =>
                cases q2 : decide (rep < n)
                case false =>
                  have hc : canNext m2 rep = false := by rw [hcan, q1, q2]; simp
                  clear hcan
                  go_wp2
                  refine retMs (Ds := [D1, D0]) HT.out (fun W' TW => ⟨results_cellK rfl rfl (row_cell TW.row 0) Try.underlying4 rfl, rfl, ?_⟩) rfl
                  first | exact TW.below | (rw [hg6]; exact TW.below) | (rw [← hg6]; exact TW.below)
                case true =>
                  cases q3 : decide (tp < 64)
                  case false =>
                    have hc : canNext m2 rep = false := by
                      rw [hcan, q1, q2, show decide (tp + 1 ≤ 64) = false by
                        have := of_decide_eq_false q3
                        exact decide_eq_false (by omega)]; rfl
                    clear hcan
                    go_wp2
                    refine retMs (Ds := [D1, D0]) HT.out (fun W' TW => ⟨results_cellK rfl rfl (row_cell TW.row 0) Try.underlying4 rfl, rfl, ?_⟩) rfl
                    first | exact TW.below | (rw [hg6]; exact TW.below) | (rw [← hg6]; exact TW.below)
                  case true =>
                    have hc : canNext m2 rep = true := by
                      rw [hcan, q1, q2, show decide (tp + 1 ≤ 64) = true by
                        have := of_decide_eq_true q3
                        exact decide_eq_true (by omega)]; rfl
                    clear hcan
                    go_wp2
                    refine retMs (Ds := [D1, D0]) HT.out (fun W' TW => ⟨results_cellK rfl rfl (row_cell TW.row 0) Try.underlying4 rfl, rfl, ?_⟩) rfl
                    first | exact TW.below | (rw [hg6]; exact TW.below) | (rw [← hg6]; exact TW.below)
end Go.Proofs.Ytpganpiidgkofaa
