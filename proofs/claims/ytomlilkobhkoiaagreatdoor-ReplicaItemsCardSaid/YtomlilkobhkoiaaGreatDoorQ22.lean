/- Several texts in one. -/
import Derived.Test.YtomlilkobhkoiaaGreatDoorQ21
import Derived.Test.YtomlilkobhkoiaaGreatDoorQ11
import Derived.Test.YtomlilkobhkoiaaGreatDoorQ3
import Derived.Test.YtomlilkobhkoiaaGreatDoorQ15
/- Layer 9: a ledger is opened: the walk. -/
namespace Go.Proofs.YtomlilkobhkoiaaGreatDoor
open Go.RowKit Go.Shelf
set_option linter.unusedVariables false
set_option maxRecDepth 20000
attribute [local go_sem] Oper.semAt_some
attribute [local go_sem] row_alloc row_drew row_drewN row_ext row_setCell row_setRow size_ext setRow_alloc setRow_drew loadOf storeOf piece_lit loadVal_at storeVal_at allOne_lit buildOf buildRes_some
attribute [local go_sem high] cell_alloc frozen_alloc setCell_alloc cell_ext frozen_ext cell_setRow frozen_setRow
attribute [local go_sem ↓] TDeed_ld0 TDeed_st0 TDeed_fd0 TDeed_bd0
attribute [local go_sem] TDeed_size TDeed_one TDeed_piece TDeed_c0 TDeed_c1 TDeed_c2 TDeed_c3 TDeed_c4 TDeed_c5 TDeed_set_kind TDeed_set_key TDeed_set_val TDeed_set_ver TDeed_set_ses TDeed_set_num TDeed_ld TDeed_st TDeed_f_kind TDeed_f_key TDeed_f_val TDeed_f_ver TDeed_f_ses TDeed_f_num TDeed_bd TDeed_fl TDeed_fl_kind TDeed_fl_key TDeed_fl_val TDeed_fl_ver TDeed_fl_ses TDeed_fl_num
attribute [local go_sem high] TDeed_eql TDeed_neq
attribute [local go_sem ↓] index_deps0 load_deps0 store_deps0
attribute [local go_sem] DV_piece DV_size DV_one index_deps load_deps store_deps
attribute [local go_sem high] TDeps_eql TDeps_neq
attribute [local go_sem ↓] TCall_ld0 TCall_st0 TCall_fd0 TCall_bd0
attribute [local go_sem] TCall_size TCall_one TCall_piece TCall_c0 TCall_c1 TCall_c2 TCall_c3 TCall_c4 TCall_c5 TCall_c6 TCall_c7 TCall_c8 TCall_c9 TCall_c10 TCall_c11 TCall_c12 TCall_c13 TCall_p_deed TCall_put_deed TCall_p_deps TCall_put_deps TCall_set_seq TCall_ld TCall_st TCall_f_deed TCall_f_deps TCall_f_seq TCall_bd TCall_fl TCall_fl_deed TCall_fl_deps TCall_fl_seq
attribute [local go_sem high] TCall_eql TCall_neq
attribute [local go_sem ↓] TItem_ld0 TItem_st0 TItem_fd0 TItem_bd0
attribute [local go_sem] TItem_size TItem_one TItem_piece TItem_c0 TItem_c1 TItem_set_rep TItem_set_num TItem_ld TItem_st TItem_f_rep TItem_f_num TItem_bd TItem_fl TItem_fl_rep TItem_fl_num
attribute [local go_sem high] TItem_eql TItem_neq
attribute [local go_sem ↓] TBallot_ld0 TBallot_st0 TBallot_fd0 TBallot_bd0
attribute [local go_sem] TBallot_size TBallot_one TBallot_piece TBallot_c0 TBallot_c1 TBallot_set_round TBallot_set_rep TBallot_ld TBallot_st TBallot_f_round TBallot_f_rep TBallot_bd TBallot_fl TBallot_fl_round TBallot_fl_rep
attribute [local go_sem high] TBallot_eql TBallot_neq
attribute [local go_sem ↓] TInst_ld0 TInst_st0 TInst_fd0 TInst_bd0
attribute [local go_sem] TInst_size TInst_one TInst_piece TInst_c0 TInst_c1 TInst_c2 TInst_c3 TInst_c4 TInst_c5 TInst_c6 TInst_c7 TInst_c8 TInst_c9 TInst_c10 TInst_c11 TInst_c12 TInst_c13 TInst_c14 TInst_c15 TInst_c16 TInst_c17 TInst_c18 TInst_c19 TInst_p_prom TInst_put_prom TInst_p_vote TInst_put_vote TInst_set_status TInst_p_call TInst_put_call TInst_set_same TInst_ld TInst_st TInst_f_prom TInst_f_vote TInst_f_status TInst_f_call TInst_f_same TInst_bd TInst_fl TInst_fl_prom TInst_fl_vote TInst_fl_status TInst_fl_call TInst_fl_same
attribute [local go_sem high] TInst_eql TInst_neq
attribute [local go_sem] led_n led_p led_g
theorem rowsIR_calm (B g : Nat) (m : RowsM) : (rowsIR g m).calm B :=
  exR_calm fun q => packR_calm (calmL_cons (rowR_calm _ _ _) fun r hr => by
    obtain ⟨i, _, rfl⟩ := List.mem_map.1 hr
    exact starR_calm (vecR_calm _ _ _ _ _ _) (vecR_calm _ _ _ _ _ _))
theorem noOut_normal {Q : Exit → Act → World → Prop} {a : Act} {w : World} (h : Q .normal a w) : NoOut Q .normal a w := h
theorem Sts.tail {w W : World} {F : Nat → Prop} {M R : List Res} (h : Sts w F W (M ++ R)) : Sts w F W R := by
  obtain ⟨⟨G, hs, hg⟩, m⟩ := h
  obtain ⟨A, B, ha, hb, hd, hf⟩ := hs.parts
  exact ⟨⟨B, hb, fun k hk => hg k ((hf k).2 (.inr hk))⟩, m⟩
section
variable {w W : World} {F : Nat → Prop} {R : List Res} {p safe : Nat} {D : List UInt8}
/-- A ledger over what stands on the plate. -/
def OpenPost (w : World) (F : Nat → Prop) (R : List Res) (p safe : Nat) (D : List UInt8) (n : Int) (e : Ending) (W' : World) : Prop := ∃ l g, e = .returned (.tuple #[.pointer (some ⟨l, 0, none⟩), .int .i64 0]) ∧
  Sts w F W' (ledL l p g (if eK (goT n D) < D.length then D.take (eK (goT n D)) else D) (if eK (goT n D) < D.length then eK (goT n D) else safe) (mK n (goT n D)) ++ R)
set_option maxHeartbeats 8000000 in
theorem openT (T : Sts w F W (plR p D safe :: R)) (hD : D.length ≤ 65536) (n : Int) (hn : sizeB n = true) :
    Calls Tryz.prog 30 #[.pointer (some ⟨p, 0, none⟩), .int .i64 n] W (OpenPost w F R p safe D n) := by
  have hn7 : 0 ≤ n ∧ n ≤ 7 := by
    unfold sizeB at hn; simp at hn; omega
  have T := T.new #[.int .i64 n] 3
  have cs := size_any n
  rw [hn] at cs
  refine (callsIn_wide (n := 4)).1 ?_
  refine callsIn_of_wp_marks Tryz.func30 rfl trivial ?_ rfl
  simp only [Tryz.ntmps30, List.size_toArray, List.length_cons, List.length_nil, Nat.reduceAdd, Nat.reduceSub, Array.replicate_succ, Array.replicate_zero, List.push_toArray, List.append_toArray, List.nil_append, List.cons_append]
  refine wpIn_wide.2 ?_
  generalize hb3 : W.heap.size = b3 at *
  go_wp2_with fail
  refine (Ans.at cs T).mono ?_
  clear T cs
  rintro e w1 ⟨rfl, T⟩
  have r1 := T.row; have l1 := row_lt r1; have c1 := row_cell r1 0
  go_wp2_with fail
  rename_i K5 hK5
  have H : ∀ (g l b6 : Nat) (u24 u25 : Value) (w' : World), Sts w F w' (rowR b6 #[.pointer (some ⟨l, 0, none⟩)] :: rowR l (ledCells p g n) :: rowsIR g ⟨n, fun _ => []⟩ :: rowR b3 #[.int .i64 n] :: plR p D safe :: R) → K5 { tmps := #[.pointer (some ⟨p, 0, none⟩), .int .i64 n, undef, .pointer (some ⟨b3, 0, none⟩), .pointer none, .int .i64 0, .pointer (some ⟨b6, 0, none⟩), undef, undef, undef, undef, undef, undef, undef, .bool false, .pointer (some ⟨p, 0, none⟩), .bool false, .bool false, .int .i64 n, .bool true, .bool false, .pointer (some ⟨p, 0, none⟩), .int .i64 n, .int .i64 n, u24, u25, .pointer (some ⟨l, 0, none⟩), undef, undef, undef, undef, undef, undef, undef, undef, undef, undef, undef, undef, undef, undef, undef, undef, undef, undef, undef, undef, undef, undef, undef, undef, undef, undef, undef, undef, undef, undef, undef, undef, undef], defers := [] } w' := by
    clear T r1 l1 c1 w1
    intro g l b6 u24 u25 w1 T
    refine hK5 _ _ ?_
    clear hK5
    generalize hD0 : goT n D = ts
    have HD0 := Lib.hid hD0; clear hD0
    go_wp2_with fail
    refine (readT (T.ord [4, 0, 1, 2, 3])).mono ?_
    rintro e w2 ⟨rfl, rfl⟩
    have T := T.new #[.int .i64 0] 3
    go_wp2_with fail
    refine (sealAllS T D).mono ?_
    clear T
    rintro e w2 ⟨rfl, T⟩
    simp only [World.size_alloc] at T ⊢
    generalize w1.heap.size + 1 = c at *
    generalize w1.heap.size = b8 at *
    go_wp2_with fail
    have hg0 : mK n [] = ⟨n, fun _ => []⟩ := rfl
    have T0 : Sts w F w2 ([andR (((allS D).take 0).all (fun t => okT n t.2) = true) (starR (rowsIR g (mK n ((allS D).take 0))) (rowR b8 #[.int .i64 (eK ((allS D).take 0))]))] ++ ([rowR c #[.string (strL D)]] ++ (rowR b6 #[.pointer (some ⟨l, 0, none⟩)] :: rowR l (ledCells p g n) :: rowR b3 #[.int .i64 n] :: plR p D safe :: R))) := by
      have T1 := (T.ord [4, 1, 0, 2, 3, 5, 6]).join
      exact Sts.with (by simp) T1
    clear T
    rename_i K6 hK6
    have H2 : ∀ (D1 : Nat) (W1 : World), Sts w F W1 (objR D1 (.deferred (some [])) :: starR (rowsIR g (mK n ts)) (rowR b8 #[.int .i64 (eK ts)]) :: rowR c #[.string (strL D)] :: rowR b6 #[.pointer (some ⟨l, 0, none⟩)] :: rowR l (ledCells p g n) :: rowR b3 #[.int .i64 n] :: plR p D safe :: R) →
        K6 { tmps := #[.pointer (some ⟨p, 0, none⟩), .int .i64 n, undef, .pointer (some ⟨b3, 0, none⟩), .pointer none, .int .i64 0, .pointer (some ⟨b6, 0, none⟩), .string ⟨D.toArray⟩, .pointer (some ⟨b8, 0, none⟩), undef, undef, undef, undef, undef, .bool false, .pointer (some ⟨p, 0, none⟩), .bool false, .bool false, .int .i64 n, .bool true, .bool false, .pointer (some ⟨p, 0, none⟩), .int .i64 n, .int .i64 n, u24, u25, .pointer (some ⟨l, 0, none⟩), .pointer (some ⟨p, 0, none⟩), .string ⟨D.toArray⟩, .string ⟨D.toArray⟩, .func (.func 98) #[] #[.pointer (some ⟨c, 0, none⟩)], undef, undef, undef, undef, undef, undef, undef, undef, undef, undef, undef, undef, undef, undef, undef, undef, undef, undef, undef, undef, undef, undef, undef, undef, undef, undef, undef, undef, undef], defers := [{ target := .collected D1, args := #[] }] } W1 := by
      clear T0
      intro D1 W1 T
      refine hK6 _ _ ?_
      clear hK6
      have hlen : eK ts ≤ D.length := eK_le fun t ht => allS_le D t (by rw [← HD0.out] at ht; exact (List.takeWhile_prefix _).subset ht)
      have T := T.ord [1, 0, 2, 3, 4, 5, 6]
      have T := T.split
      have T := T.ord [1, 4, 0, 5, 7, 2, 3, 6]
      -- b8, b6, rows, l, plate, mark, c, b3
      have r8 := T.row; have l8 := row_lt r8; have c8 := row_cell r8 0
      have r6 := T.row1; have l6 := row_lt r6; have c6 := row_cell r6 0
      have hmn := mK_n n ts
      generalize hm0 : mK n ts = m at *
      generalize he0 : eK ts = e0 at *
      have HM0 := Lib.hid hm0; have HE0 := Lib.hid he0; have HMN := Lib.hid hmn
      clear hm0 he0 hmn
      have hbz : (⟨D.toArray⟩ : ByteArray).size = D.length := by rw [ByteArray.size]; simp
      by_cases hlt : e0 < D.length
      · have hlt2 : decide ((e0 : Int) < (D.length : Int)) = true := by rw [decide_eq_true_iff]; omega
        have hrp := replaceT (T.ord [4, 0, 1, 2, 3]) (strL (D.take e0)) (by rw [strL_size, List.length_take]; omega)
        rw [strL_size, List.length_take] at hrp
        simp only [if_pos (show min e0 D.length ≤ 65536 by omega)] at hrp
        have hmin : min e0 D.length = e0 := by omega
        rw [hmin] at hrp
        have hex : (⟨D.toArray⟩ : ByteArray).extract 0 e0 = strL (D.take e0) := strL_take D e0
        have HRP := Lib.hid hrp; have HEX := Lib.hid hex; have HT := Lib.hid T
        clear hrp hex hmin T
        go_wp2_with fail
        rw [HEX.out]
        refine HRP.out.mono ?_
        clear HRP HEX HT r8 r6 l8 l6 c8 c6
        rintro e w3 ⟨rfl, T⟩
        have T : Sts w F w3 (plR p (D.take e0) e0 :: rowR b8 #[.int .i64 (e0 : Int)] :: rowR b6 #[.pointer (some ⟨l, 0, none⟩)] :: rowsIR g m :: rowR l (ledCells p g n) :: objR D1 (.deferred (some [])) :: rowR c #[.string (strL D)] :: rowR b3 #[.int .i64 n] :: R) := T
        have T5 := T.ord [5, 4, 0, 3, 2, 1, 6, 7]
        have hD := T5.obj
        have r6 := T5.drop.row3; have l6 := row_lt r6; have c6 := row_cell r6 0
        have T6 := (T5.putObj (.deferred none)).drop.ord [3, 4, 5, 6, 0, 1, 2]
        have T7 : Sts w F (w3.putObj D1 (.deferred none)) ([rowR l (ledCells p g n), plR p (D.take e0) (e0), rowsIR g m] ++ R) := T6.drop.drop.drop.drop
        have HT7 := Lib.hid T7; have HD := Lib.hid hD
        clear T T5 T6 T7 hD
        go_wp2
        refine retM1 HD.out (results_tmp2 rfl _ _ _) ⟨l, g, rfl, ?_⟩ rfl
        unfold ledL
        rw [HD0.out, HE0.out, if_pos hlt, if_pos hlt, HM0.out]
        rw [HMN.out]
        exact HT7.out
      · have hlt2 : decide ((e0 : Int) < (D.length : Int)) = false := by rw [decide_eq_false_iff_not]; omega
        have T := T.ord [4, 0, 1, 2, 3]
        have T5 := T.ord [5, 4, 0, 3, 2, 1, 6, 7]
        have hD := T5.obj
        have r6 := T5.drop.row3; have l6 := row_lt r6; have c6 := row_cell r6 0
        have T6 := (T5.putObj (.deferred none)).drop.ord [3, 4, 5, 6, 0, 1, 2]
        have T7 : Sts w F (W1.putObj D1 (.deferred none)) ([rowR l (ledCells p g n), plR p (D) (safe), rowsIR g m] ++ R) := T6.drop.drop.drop.drop
        have HT7 := Lib.hid T7; have HD := Lib.hid hD
        clear T T5 T6 T7 hD
        go_wp2
        refine retM1 HD.out (results_tmp2 rfl _ _ _) ⟨l, g, rfl, ?_⟩ rfl
        unfold ledL
        rw [HD0.out, HE0.out, if_neg hlt, if_neg hlt, HM0.out]
        rw [HMN.out]
        exact HT7.out
    refine (wpIn_wide (n := 4)).1 ?_
    refine wp_rangeSts (gf := 98) (lb := #[.pointer (some ⟨c, 0, none⟩)]) (enc := fun x : Nat × List UInt8 => #[.int .i64 x.1, .string (strL x.2)]) (xs := allS D)
      (fun k => [andR (((allS D).take k).all (fun t => okT n t.2) = true) (starR (rowsIR g (mK n ((allS D).take k))) (rowR b8 #[.int .i64 (eK ((allS D).take k))]))])
      (fun cd k => [andR (cd = .exit 1 ∧ ((allS D).take (k - 1)).all (fun t => okT n t.2) = true ∧ ∃ t, (allS D)[k - 1]? = some t ∧ okT n t.2 = false) (starR (rowsIR g (mK n ((allS D).take (k - 1)))) (rowR b8 #[.int .i64 (eK ((allS D).take (k - 1)))]))])
      ([rowR c #[.string (strL D)]] ++ (rowR b6 #[.pointer (some ⟨l, 0, none⟩)] :: rowR l (ledCells p g n) :: rowR b3 #[.int .i64 n] :: plR p D safe :: R))
      (fun k x a' own' => own' = [andR (((allS D).take k).all (fun t => okT n t.2) = true) (starR (rowsIR g (mK n ((allS D).take k))) (rowR b8 #[.int .i64 (eK ((allS D).take k))]))] ∧ a' = { tmps := #[.pointer (some ⟨p, 0, none⟩), .int .i64 n, undef, .pointer (some ⟨b3, 0, none⟩), .pointer none, .int .i64 0, .pointer (some ⟨b6, 0, none⟩), .string ⟨D.toArray⟩, .pointer (some ⟨b8, 0, none⟩), .int .i64 x.1, .string (strL x.2), undef, undef, undef, .bool false, .pointer (some ⟨p, 0, none⟩), .bool false, .bool false, .int .i64 n, .bool true, .bool false, .pointer (some ⟨p, 0, none⟩), .int .i64 n, .int .i64 n, u24, u25, .pointer (some ⟨l, 0, none⟩), .pointer (some ⟨p, 0, none⟩), .string ⟨D.toArray⟩, .string ⟨D.toArray⟩, .func (.func 98) #[] #[.pointer (some ⟨c, 0, none⟩)], .int .i64 x.1, .string (strL x.2), undef, undef, undef, undef, undef, undef, undef, undef, undef, undef, undef, undef, undef, undef, undef, undef, undef, undef, undef, undef, undef, undef, undef, undef, undef, undef, undef], defers := [] })
      rfl (enters_of Tryz.func98 (by kernel_rfl) rfl) (fun _ => rfl) (Gives.part fun H hS => sealAllG c D (by omega) _ H hS) T0 ?calm ?calmX ?assign ?body ?done ?stop
    case calm => exact fun k => calmL_cons (andR_calm (starR_calm (rowsIR_calm _ _ _) (rowR_calm _ _ _))) (calmL_nil _)
    case calmX => exact fun _ k => calmL_cons (andR_calm (starR_calm (rowsIR_calm _ _ _) (rowR_calm _ _ _))) (calmL_nil _)
    case assign =>
      intro lr k x W1 G1 K hx T1 hK
      clear T0
      have HT := Lib.hid T1; clear T1
      gi_wp2
      exact hK _ _ _ ⟨rfl, rfl⟩ HT.out
    case body =>
      rintro lr k x _ _ W1 G1 hx ⟨rfl, rfl⟩ T1 hL
      obtain ⟨hall, T1⟩ := T1.and
      have T1 := T1.split
      have hLr : ∀ W' L', Sts W1 G1 W' L' → row? W' b6 = some #[.pointer (some ⟨l, 0, none⟩)] ∧ row? W' l = some (ledCells p g n) ∧ row? W' b3 = some #[.int .i64 n] := fun W' L' T => by
        obtain ⟨F', w', T⟩ := hL T
        have T := T.tail.drop
        exact ⟨T.row, T.row1, T.row2⟩
      have HLR := Lib.hid hLr
      clear hL hLr T0
      have hrd := ledRead_any x.2 n
      have hsn := take_snoc' hx
      have hrn : 0 ≤ (mK n ((allS D).take k)).n ∧ (mK n ((allS D).take k)).n ≤ 7 := by rw [mK_n]; exact hn7
      have hset := irSetD g (mK n ((allS D).take k)) hrn (readS ⟨x.2, false⟩).1 (readS ⟨x.2, false⟩).2.1
      have hm1 : mK n ((allS D).take (k + 1)) = setM (mK n ((allS D).take k)) (readS ⟨x.2, false⟩).1 (readS ⟨x.2, false⟩).2.1 := by rw [hsn, mK_snoc]
      have he1 : eK ((allS D).take (k + 1)) = x.1 := by rw [hsn, eK_snoc]
      have ha1 : ((allS D).take (k + 1)).all (fun t => okT n t.2) = okT n x.2 := by rw [hsn, List.all_append, hall]; simp
      rw [← hm1] at hset
      have hok : (!(readS ⟨x.2, false⟩).2.2.dry && (readS ⟨x.2, false⟩).2.2.left.isEmpty && goodI (readS ⟨x.2, false⟩).1 n && goodN (readS ⟨x.2, false⟩).2.1 n) = okT n x.2 := rfl
      rw [hok] at hrd
      have hgi : okT n x.2 = true → goodI (readS ⟨x.2, false⟩).1 n = true := fun h => by
        unfold okT at h; simp only [Bool.and_eq_true] at h; exact h.1.2
      clear hok hsn hm1
      generalize (readS ⟨x.2, false⟩).1 = qx at *
      generalize (readS ⟨x.2, false⟩).2.1 = qi at *
      have HRD := Lib.hid hrd; have HSET := Lib.hid hset; have HE1 := Lib.hid he1; have HA1 := Lib.hid ha1; have HX := Lib.hid hx
      clear hrd hset he1 ha1 hx
      generalize hm1 : mK n ((allS D).take (k + 1)) = m1 at *
      generalize hm0 : mK n ((allS D).take k) = m0 at *
      generalize he0 : eK ((allS D).take k) = e0 at *
      have HM1 := Lib.hid hm1; have HM0 := Lib.hid hm0; have HE0 := Lib.hid he0
      clear hm1 hm0 he0
      have r3 := (HLR.out _ _ T1).2.2; have l3 := row_lt r3; have c3 := row_cell r3 0
      gi_wp2_with fail
      refine ⟨trivial, ?_⟩
      refine (CallsIn.inRound lr (callsIn_wide.2 (Ans.at HRD.out T1))).mono ?_
      clear r3 l3 c3 T1 HRD
      rintro e W2 ⟨rfl, T1⟩
      have T2 := (T1.new (IV qx) 33).new (NV qi) 70
      rw [World.size_alloc] at T2
      cases hok : okT n x.2
      case false =>
        have T3 := (T2.drop.drop).join
        have HT4 := Lib.hid T3
        have hpp : ((allS D).take k).all (fun t => okT n t.2) = true ∧ ∃ t, (allS D)[k]? = some t ∧ okT n t.2 = false := ⟨hall, x, HX.out, hok⟩
        have HPP := Lib.hid hpp
        clear T1 T2 T3 hall hgi hok hpp
        gi_wp2
        show Sts W1 G1 _ [andR (Code.exit 1 = Code.exit 1 ∧ ((allS D).take (k + 1 - 1)).all (fun t => okT n t.2) = true ∧ ∃ t, (allS D)[k + 1 - 1]? = some t ∧ okT n t.2 = false) (starR (rowsIR g (mK n ((allS D).take (k + 1 - 1)))) (rowR b8 #[.int .i64 (eK ((allS D).take (k + 1 - 1)))]))]
        rw [show k + 1 - 1 = k from rfl, HM0.out, HE0.out]
        exact Sts.with ⟨rfl, HPP.out⟩ HT4.out
      case true =>
        have hg1 := hgi hok
        have HA2 := HA1.out
        rw [hok] at HA2
        have HA := Lib.hid HA2
        have hset := HSET.out
        rw [show goodI qx m0.n = goodI qx n by rw [← HM0.out, mK_n], hg1] at hset
        have HS := Lib.hid hset
        clear HA2 HA1 hset HSET hgi hg1 hall T1
        have hl3 := HLR.out _ _ T2
        have r6 := hl3.1; have rl := hl3.2.1; have l6 := row_lt r6; have ll := row_lt rl; have c6 := row_cell r6 0
        have r12 := T2.row; have r11 := T2.row1; have l12 := row_lt r12; have l11 := row_lt r11
        clear hl3 hok
        generalize hw3 : (W2.alloc (.cells (IV qx) 33)).alloc (.cells (NV qi) 70) = w3 at *
        gi_wp2_with fail
        generalize W2.heap.size + 1 = g12 at *
        generalize W2.heap.size = g11 at *
        have FS : ∀ W' R' r, Sts W1 G1 W' (r :: rowR g12 (NV qi) :: rowR g11 (IV qx) :: R') → (row? W' g12 = some (NV qi) ∧ row? W' g11 = some (IV qx) ∧ W'.cell? ⟨b6, 0, none⟩ = some (.pointer (some ⟨l, 0, none⟩)) ∧ W'.cell? ⟨l, 2, none⟩ = some (.pointer (some ⟨g, 0, none⟩)) ∧ l < W'.heap.size) := fun W' R' r T => by
          have h3 := HLR.out _ _ T
          exact ⟨T.row1, T.row2, row_cell h3.1 0, row_cell h3.2.1 2, row_lt h3.2.1⟩
        have S0 := FS _ _ _ (T2.drew.ord [2, 0, 1])
        have HFS := Lib.hid FS; have HT := Lib.hid T2.drew
        clear FS T2 r6 rl l6 ll c6 r12 r11 l12 l11
        refine wpIn_region_held (fun W' => (row? W' g12 = some (NV qi) ∧ row? W' g11 = some (IV qx) ∧ W'.cell? ⟨b6, 0, none⟩ = some (.pointer (some ⟨l, 0, none⟩)) ∧ W'.cell? ⟨l, 2, none⟩ = some (.pointer (some ⟨g, 0, none⟩)) ∧ l < W'.heap.size)) (by kernel_rfl) (by kernel_rfl) S0 (fun hHeld => ?_)
        clear S0
        refine tkH 0 rfl ?_
        simp only [Act.put, List.setIfInBounds_toArray, List.set_cons_zero, List.set_cons_succ]
        refine tkH 1 rfl ?_
        go_frame
        refine tkH 2 rfl ?_
        go_frame
        refine tkH 3 rfl ?_
        go_frame
        refine tkH 4 rfl ?_
        go_frame
        refine tkH 5 rfl ?_
        go_frame
        refine wpAnyH_ready (rs := [6]) (by kernel_rfl) (by simp) ?_
        refine AllReadyH.cons (o := _) rfl (fun K hK => ?_) AllReadyH.nil
        go_simp
        refine (Does.at1 HS.out (HT.out.ord [2, 0, 1, 3])).mono ?_
        rintro e w4 ⟨rfl, T⟩
        refine hK.out _ _ ?_ (fun hHeld => ?_)
        · exact HFS.out _ _ _ T
        clear hK K HT HS HFS
        refine wpAnyH_done (by kernel_rfl) ?_ _
        have T := T.ord [3, 0, 1, 2]
        have r8 := T.row; have f8 := row_frozen r8 0; have l8 := row_lt r8; have c8 := row_cell r8 0
        have T5 := (((T.setCell 0 (.int .i64 x.1)).ord [2, 3, 1, 0]).drop.drop).join
        have HT5 := Lib.hid T5
        clear T T5 r8
        refine noOut_normal ?_
        simp only [Exit.then]
        gi_wp2
        show Sts W1 G1 _ [andR (((allS D).take (k + 1)).all (fun t => okT n t.2) = true) (starR (rowsIR g (mK n ((allS D).take (k + 1)))) (rowR b8 #[.int .i64 (eK ((allS D).take (k + 1)))]))]
        rw [HM1.out, HE1.out]
        exact Sts.with HA.out HT5.out
    case done =>
      intro D1 W1 T1
      clear T0
      rw [List.take_length] at T1
      obtain ⟨hall, T1⟩ := (show Sts w F W1 (andR ((allS D).all (fun t => okT n t.2) = true) (starR (rowsIR g (mK n (allS D))) (rowR b8 #[.int .i64 (eK (allS D))])) :: objR D1 (.deferred (some [])) :: rowR c #[.string (strL D)] :: rowR b6 #[.pointer (some ⟨l, 0, none⟩)] :: rowR l (ledCells p g n) :: rowR b3 #[.int .i64 n] :: plR p D safe :: R) from Sts.swap T1).and
      have hts : allS D = ts := by rw [← HD0.out]; exact (takeWhile_all hall).symm
      rw [hts] at T1
      have H3 := H2 D1 W1 T1.swap
      clear T1 hall H2 hts hK6
      go_wp2
      exact H3
    case stop =>
      intro D1 cd k W1 h0 hk T1
      clear T0
      obtain ⟨⟨hcd, hall, t, ht, hto⟩, T2⟩ := (show Sts w F W1 (andR (cd = .exit 1 ∧ ((allS D).take (k - 1)).all (fun t => okT n t.2) = true ∧ ∃ t, (allS D)[k - 1]? = some t ∧ okT n t.2 = false) (starR (rowsIR g (mK n ((allS D).take (k - 1)))) (rowR b8 #[.int .i64 (eK ((allS D).take (k - 1)))])) :: objR D1 (.deferred (some [])) :: rowR c #[.string (strL D)] :: rowR b6 #[.pointer (some ⟨l, 0, none⟩)] :: rowR l (ledCells p g n) :: rowR b3 #[.int .i64 n] :: plR p D safe :: R) from Sts.swap T1).and
      have hts : (allS D).take (k - 1) = ts := by rw [← HD0.out]; exact (takeWhile_stop hall ht hto).symm
      rw [hts] at T2
      have H3 := H2 D1 W1 T2.swap
      subst hcd
      clear T1 T2 hall H2 hts hK6 ht hto
      refine wpIn_wide.2 ?_
      go_wp2
      exact H3
  have hnn : newN n = n := by unfold newN; rw [if_neg (by omega), if_neg (by omega)]
  have hnew := fun {w W : World} {F : Nat → Prop} {R : List Res} (T : Sts w F W R) => irNewT n (by omega) T
  rw [hnn] at hnew
  have FS : ∀ W' R', Sts w F W' (rowR b3 #[.int .i64 n] :: R') → W'.cell? ⟨b3, 0, none⟩ = some (.int .i64 n) := fun W' R' T => row_cell T.row 0
  have S0 := FS _ _ T.drew
  have HFS := Lib.hid FS; have HT := Lib.hid T.drew
  clear FS T r1 l1 c1
  refine wp_region_noPanic ?_
  refine wp_region_held_drew (S := fun W' => W'.cell? ⟨b3, 0, none⟩ = some (.int .i64 n)) (by kernel_rfl) S0 (fun hHeld => ?_)
  clear S0
  refine tkH 0 rfl ?_
  simp only [Act.put, List.setIfInBounds_toArray, List.set_cons_zero, List.set_cons_succ]
  refine tkH 1 rfl ?_
  go_frame
  refine tkH 2 rfl ?_
  go_frame
  refine wpAnyH_ready (rs := [3, 6]) (by kernel_rfl) (by simp) ?_
  refine AllReadyH.cons (o := _) rfl (fun K hK => ?_) ?_
  · go_simp
    refine (hnew HT.out).mono ?_
    rintro e w2 ⟨rfl, T⟩
    rw [size_drew] at *
    refine hK.out _ _ ?_ (fun hHeld => ?_)
    · exact HFS.out _ _ (T.ord [1, 0])
    clear hK K HT hnew
    generalize w1.heap.size = g at *
    refine tkH 4 rfl ?_
    simp only [Act.put, List.setIfInBounds_toArray, List.set_cons_zero, List.set_cons_succ]
    refine wpAnyH_ready (rs := [5, 6]) (by kernel_rfl) (by simp) ?_
    refine AllReadyH.cons (o := _) rfl (fun K hK => ?_) ?_
    · have T1 := T.new (ledCells p g n) 153
      have T2 := T1.new #[.pointer (some ⟨w2.heap.size, 0, none⟩)] 87
      have T3 := T1.new #[.pointer none] 87
      simp only [World.size_alloc] at T2 T3
      have HT1 := Lib.hid T1; have HT2 := Lib.hid T2; have HT3 := Lib.hid T3; clear T T1 T2 T3
      go_simp
      refine hK.out _ _ ?_ (fun hHeld => ?_)
      · exact HFS.out _ _ (HT1.out.ord [2, 0, 1])
      clear hK K
      refine wpAnyH_ready (rs := [6]) (by kernel_rfl) (by simp) ?_
      refine AllReadyH.cons (o := _) rfl (fun K hK => ?_) AllReadyH.nil
      go_simp
      refine hK.out _ _ ?_ (fun hHeld => ?_)
      · exact HFS.out _ _ (HT3.out.ord [3, 0, 1, 2])
      clear hK K HT1 HT3
      refine wpAnyH_ready (rs := [7]) (by kernel_rfl) (by simp) ?_
      refine AllReadyH.cons (o := _) rfl (fun K hK => ?_) AllReadyH.nil
      go_simp
      refine hK.out _ _ ?_ (fun hHeld => ?_)
      · exact HFS.out _ _ (HT2.out.ord [3, 0, 1, 2])
      clear hK K
      refine wpAnyH_done (by kernel_rfl) ?_ _
      refine NoPanic.normal ?_
      exact H _ _ _ _ _ _ HT2.out
    · refine AllReadyH.cons (o := _) rfl (fun K hK => ?_) AllReadyH.nil
      have T1 := T.new #[.pointer none] 87
      have T2 := T1.new (ledCells p g n) 153
      have T3 := (T.new #[.pointer (some ⟨w2.heap.size + 1, 0, none⟩)] 87).new (ledCells p g n) 153
      simp only [World.size_alloc] at T2 T3
      have HT1 := Lib.hid T1; have HT2 := Lib.hid T2; have HT3 := Lib.hid T3; clear T T1 T2 T3
      go_simp
      refine hK.out _ _ ?_ (fun hHeld => ?_)
      · exact HFS.out _ _ (HT1.out.ord [2, 0, 1])
      clear hK K
      refine wpAnyH_ready (rs := [5]) (by kernel_rfl) (by simp) ?_
      refine AllReadyH.cons (o := _) rfl (fun K hK => ?_) AllReadyH.nil
      go_simp
      refine hK.out _ _ ?_ (fun hHeld => ?_)
      · exact HFS.out _ _ (HT2.out.ord [3, 0, 1, 2])
      clear hK K HT1 HT2
      refine wpAnyH_ready (rs := [7]) (by kernel_rfl) (by simp) ?_
      refine AllReadyH.cons (o := _) rfl (fun K hK => ?_) AllReadyH.nil
      go_simp
      refine hK.out _ _ ?_ (fun hHeld => ?_)
      · exact HFS.out _ _ (HT3.out.ord [3, 0, 1, 2])
      clear hK K
      refine wpAnyH_done (by kernel_rfl) ?_ _
      refine NoPanic.normal ?_
      exact H _ _ _ _ _ _ (HT3.out.ord [1, 0])
  · refine AllReadyH.cons (o := _) rfl (fun K hK => ?_) AllReadyH.nil
    have T1 := HT.out.new #[.pointer none] 87
    rw [size_drew] at T1
    have HT1 := Lib.hid T1; clear T1 HT
    go_simp
    refine hK.out _ _ ?_ (fun hHeld => ?_)
    · exact HFS.out _ _ (HT1.out.ord [1, 0])
    clear hK K
    refine wpAnyH_ready (rs := [3]) (by kernel_rfl) (by simp) ?_
    refine AllReadyH.cons (o := _) rfl (fun K hK => ?_) AllReadyH.nil
    go_simp
    refine (hnew HT1.out).mono ?_
    rintro e w2 ⟨rfl, T⟩
    refine hK.out _ _ ?_ (fun hHeld => ?_)
    · exact HFS.out _ _ (T.ord [2, 0, 1])
    clear hK K HT1 hnew
    simp only [World.size_alloc, size_drew] at T ⊢
    generalize w1.heap.size + 1 = g at *
    generalize w1.heap.size = b6 at *
    refine tkH 4 rfl ?_
    simp only [Act.put, List.setIfInBounds_toArray, List.set_cons_zero, List.set_cons_succ]
    have T1 := T.new (ledCells p g n) 153
    have r2 := T.row1; have l2 := row_lt r2; have c2 : w2.cell? ⟨b6, 0, none⟩ = some (.pointer none) := row_cell r2 0; have f2 := row_frozen r2 0; have n2 : ¬ b6 = w2.heap.size := by omega
    have T2 := ((T.ord [1, 0]).setCell 0 (.pointer (some ⟨w2.heap.size, 0, none⟩))).new (ledCells p g n) 153
    have HT1 := Lib.hid T1; have HT2 := Lib.hid T2; clear T T1 T2
    refine wpAnyH_ready (rs := [5]) (by kernel_rfl) (by simp) ?_
    refine AllReadyH.cons (o := _) rfl (fun K hK => ?_) AllReadyH.nil
    go_simp
    refine hK.out _ _ ?_ (fun hHeld => ?_)
    · exact HFS.out _ _ (HT1.out.ord [3, 0, 1, 2])
    clear hK K
    refine wpAnyH_ready (rs := [7]) (by kernel_rfl) (by simp) ?_
    refine AllReadyH.cons (o := _) rfl (fun K hK => ?_) AllReadyH.nil
    go_simp
    refine hK.out _ _ ?_ (fun hHeld => ?_)
    · exact HFS.out _ _ (HT2.out.ord [3, 0, 1, 2])
    clear hK K
    refine wpAnyH_done (by kernel_rfl) ?_ _
    refine NoPanic.normal ?_
    have T9 := HT2.out.ord [1, 0, 2, 3]
    rw [show (w2.setCell ⟨b6, 0, none⟩ (.pointer (some ⟨w2.heap.size, 0, none⟩))).heap.size = w2.heap.size by simp] at T9
    exact H _ _ _ _ _ _ T9
end
end Go.Proofs.YtomlilkobhkoiaaGreatDoor
/- Layer 9, plain: what is known of an item behind a store; how much stands on a plate. -/
namespace Go.Proofs.YtomlilkobhkoiaaGreatDoor
open Go.RowKit
set_option linter.unusedVariables false
theorem putL_get (l : List (Option Inst)) (i : Nat) (t : Inst) (j : Nat) : ((putL l i t)[j]?).join = if j = i then some t else (l[j]?).join := by
  unfold putL
  rw [List.getElem?_set]
  by_cases h : i = j
  · subst h
    rw [if_pos rfl, if_pos rfl, if_pos (by rw [List.length_append, List.length_replicate]; omega)]
    rfl
  · rw [if_neg h, if_neg (fun e => h e.symm), List.getElem?_append]
    split
    · rfl
    · rename_i hl
      rw [List.getElem?_eq_none (l := l) (by omega), List.getElem?_replicate]
      split <;> rfl
theorem getM_set_same {m : RowsM} {x : Item} (t : Inst) (h : goodI x m.n = true) : getM (setM m x t) x = some t := by
  unfold getM
  rw [setM_n, h, if_pos rfl]
  unfold setM
  rw [h, if_pos rfl]
  dsimp only
  rw [updF_same, putL_get, if_pos rfl]
theorem getM_set_other {m : RowsM} {x y : Item} (t : Inst) (h : goodI x m.n = true) (hne : x ≠ y) : getM (setM m x t) y = getM m y := by
  unfold getM
  rw [setM_n]
  by_cases hy : goodI y m.n = true
  · rw [if_pos hy, if_pos hy]
    unfold setM
    rw [if_pos h]
    dsimp only
    by_cases hr : y.rep.toNat = x.rep.toNat
    · rw [hr, updF_same, putL_get, if_neg]
      intro e
      unfold goodI at h hy
      rw [decide_eq_true_iff] at h hy
      apply hne
      have h1 : x.rep = y.rep := by omega
      have h2 : x.num = y.num := by omega
      cases x; cases y; simp_all
    · rw [updF_other _ _ hr]
  · rw [if_neg hy, if_neg hy]
theorem getM_new (n : Int) (x : Item) : getM ⟨n, fun _ => []⟩ x = none := by unfold getM; split <;> rfl
theorem RowsGood.new (n : Int) : RowsGood ⟨n, fun _ => []⟩ := fun x t h => by rw [getM_new] at h; cases h
theorem RowsGood.set {m : RowsM} (h : RowsGood m) {x : Item} {t : Inst} (hx : goodI x m.n = true) (ht : goodN t m.n = true) : RowsGood (setM m x t) := fun y u hy => by
  rw [setM_n]
  by_cases e : x = y
  · subst e; rw [getM_set_same t hx] at hy; injection hy with hy; subst hy; exact ht
  · rw [getM_set_other t hx e] at hy; exact h y u hy
theorem addM_good {D : List UInt8} {safe : Nat} {m : RowsM} {x : Item} {i : Inst} (h : (addM D safe m x i).2.2.2 = 0) : goodI x m.n = true ∧ goodN i m.n = true := by
  unfold addM at h
  by_cases hg : goodI x m.n = true ∧ goodN i m.n = true
  · exact hg
  · rw [if_neg hg] at h; simp at h
end Go.Proofs.YtomlilkobhkoiaaGreatDoor
/- Layer 9: the ledger is alive. -/
namespace Go.Proofs.YtomlilkobhkoiaaGreatDoor
open Go.RowKit
set_option linter.unusedVariables false
set_option maxRecDepth 20000
attribute [local go_sem] row_alloc row_drew row_drewN row_ext row_setCell row_setRow size_ext setRow_alloc setRow_drew loadOf storeOf piece_lit loadVal_at storeVal_at allOne_lit buildOf buildRes_some
attribute [local go_sem high] cell_alloc frozen_alloc setCell_alloc cell_ext frozen_ext cell_setRow frozen_setRow
attribute [local go_sem ↓] TDeed_ld0 TDeed_st0 TDeed_fd0 TDeed_bd0
attribute [local go_sem] TDeed_size TDeed_one TDeed_piece TDeed_c0 TDeed_c1 TDeed_c2 TDeed_c3 TDeed_c4 TDeed_c5 TDeed_set_kind TDeed_set_key TDeed_set_val TDeed_set_ver TDeed_set_ses TDeed_set_num TDeed_ld TDeed_st TDeed_f_kind TDeed_f_key TDeed_f_val TDeed_f_ver TDeed_f_ses TDeed_f_num TDeed_bd TDeed_fl TDeed_fl_kind TDeed_fl_key TDeed_fl_val TDeed_fl_ver TDeed_fl_ses TDeed_fl_num
attribute [local go_sem high] TDeed_eql TDeed_neq
attribute [local go_sem ↓] index_deps0 load_deps0 store_deps0
attribute [local go_sem] DV_piece DV_size DV_one index_deps load_deps store_deps
attribute [local go_sem high] TDeps_eql TDeps_neq
attribute [local go_sem ↓] TCall_ld0 TCall_st0 TCall_fd0 TCall_bd0
attribute [local go_sem] TCall_size TCall_one TCall_piece TCall_c0 TCall_c1 TCall_c2 TCall_c3 TCall_c4 TCall_c5 TCall_c6 TCall_c7 TCall_c8 TCall_c9 TCall_c10 TCall_c11 TCall_c12 TCall_c13 TCall_p_deed TCall_put_deed TCall_p_deps TCall_put_deps TCall_set_seq TCall_ld TCall_st TCall_f_deed TCall_f_deps TCall_f_seq TCall_bd TCall_fl TCall_fl_deed TCall_fl_deps TCall_fl_seq
attribute [local go_sem high] TCall_eql TCall_neq
attribute [local go_sem ↓] TItem_ld0 TItem_st0 TItem_fd0 TItem_bd0
attribute [local go_sem] TItem_size TItem_one TItem_piece TItem_c0 TItem_c1 TItem_set_rep TItem_set_num TItem_ld TItem_st TItem_f_rep TItem_f_num TItem_bd TItem_fl TItem_fl_rep TItem_fl_num
attribute [local go_sem high] TItem_eql TItem_neq
attribute [local go_sem ↓] TBallot_ld0 TBallot_st0 TBallot_fd0 TBallot_bd0
attribute [local go_sem] TBallot_size TBallot_one TBallot_piece TBallot_c0 TBallot_c1 TBallot_set_round TBallot_set_rep TBallot_ld TBallot_st TBallot_f_round TBallot_f_rep TBallot_bd TBallot_fl TBallot_fl_round TBallot_fl_rep
attribute [local go_sem high] TBallot_eql TBallot_neq
attribute [local go_sem ↓] TInst_ld0 TInst_st0 TInst_fd0 TInst_bd0
attribute [local go_sem] TInst_size TInst_one TInst_piece TInst_c0 TInst_c1 TInst_c2 TInst_c3 TInst_c4 TInst_c5 TInst_c6 TInst_c7 TInst_c8 TInst_c9 TInst_c10 TInst_c11 TInst_c12 TInst_c13 TInst_c14 TInst_c15 TInst_c16 TInst_c17 TInst_c18 TInst_c19 TInst_p_prom TInst_put_prom TInst_p_vote TInst_put_vote TInst_set_status TInst_p_call TInst_put_call TInst_set_same TInst_ld TInst_st TInst_f_prom TInst_f_vote TInst_f_status TInst_f_call TInst_f_same TInst_bd TInst_fl TInst_fl_prom TInst_fl_vote TInst_fl_status TInst_fl_call TInst_fl_same
attribute [local go_sem high] TInst_eql TInst_neq
attribute [local go_sem] led_n led_p led_g
theorem goT_nil (n : Int) : goT n [] = [] := rfl
end Go.Proofs.YtomlilkobhkoiaaGreatDoor
/- Layer 9: more than is played? -/
namespace Go.Proofs.YtomlilkobhkoiaaGreatDoor
open Go.RowKit
set_option linter.unusedVariables false
set_option maxRecDepth 20000
end Go.Proofs.YtomlilkobhkoiaaGreatDoor
/- Layers 6, 9: what was sealed is opened, what was written is read, and the other way. No walk stands here. -/
namespace Go.Proofs.YtomlilkobhkoiaaGreatDoor
open Go.RowKit
set_option linter.unusedVariables false
theorem p128 : (128 : Nat) ^ 9 = 9223372036854775808 := by decide
theorem rawS_app {a r : List UInt8} {n : Int} (h : (a.length : Int) = n) : rawS ⟨a ++ r, false⟩ n = (a, ⟨r, false⟩) := by
  unfold rawS
  rw [if_neg (by simp; omega)]
  have : n.toNat = a.length := by omega
  rw [this, List.take_left, List.drop_left]
theorem fourB_len (c : Nat) : (fourB c).length = 4 := rfl
theorem sealS_eq {t : List UInt8} (h : t.length ≤ 16384) : sealS t = enc t.length ++ fourB (crc (enc t.length ++ t)) ++ t := by
  unfold sealS; rw [if_neg (by omega)]; rfl
theorem rawS_inv2 {s : Src} {n : Int} (h : (rawS s n).2.dry = false) : s.dry = false ∧ 0 ≤ n ∧ s.left = (rawS s n).1 ++ (rawS s n).2.left ∧ ((rawS s n).1.length : Int) = n := by
  unfold rawS at h ⊢
  split at h
  · simp [dryS] at h
  · rename_i hc
    rw [if_neg hc]
    simp only [not_or, Bool.not_eq_true] at hc
    refine ⟨hc.1, by omega, by simp, ?_⟩
    simp only [List.length_take]; omega
theorem open_inv {b : List UInt8} (h : (openS b).2 ≠ 0) : (openS b).1.length ≤ 16384 ∧ ∃ r, b = sealS (openS b).1 ++ r ∧ (openS b).2 = (sealS (openS b).1).length := by
  obtain ⟨n, hn⟩ : ∃ n, n = natS ⟨b, false⟩ 16384 := ⟨_, rfl⟩
  obtain ⟨q, hq⟩ : ∃ q, q = rawS n.2 4 := ⟨_, rfl⟩
  obtain ⟨s, hs⟩ : ∃ s, s = rawS q.2 n.1 := ⟨_, rfl⟩
  have ho : openS b = if s.2.dry = true ∨ fourB (crc (enc n.1 ++ s.1)) ≠ q.1 then ([], 0) else (s.1, b.length - s.2.left.length) := by
    rw [hs, hq, hn]; rfl
  rw [ho] at h ⊢
  split at h
  · exact absurd rfl h
  rename_i hc
  rw [if_neg hc]
  simp only [not_or, ne_eq, Decidable.not_not, Bool.not_eq_true] at hc
  obtain ⟨c1, c2⟩ := hc
  have a := rawS_inv2 (s := q.2) (n := n.1) (by rw [← hs]; exact c1)
  rw [← hs] at a
  have b2 := rawS_inv2 (s := n.2) (n := 4) (by rw [← hq]; exact a.1)
  rw [← hq] at b2
  have c := natS_inv (s := ⟨b, false⟩) (most := 16384) (by rw [← hn]; exact b2.1)
  rw [← hn] at c
  have hl : s.1.length = n.1 := by omega
  have hle : s.1.length ≤ 16384 := by omega
  refine ⟨hle, s.2.left, ?_, ?_⟩
  · rw [sealS_eq hle, hl, c2]
    have : b = enc n.1 ++ n.2.left := c.2.1
    rw [this, b2.2.2.1, a.2.2.1]; simp
  · rw [sealS_eq hle, hl, c2]
    have : b.length = (enc n.1 ++ n.2.left).length := congrArg List.length c.2.1
    rw [this, b2.2.2.1, a.2.2.1]; simp; omega
end Go.Proofs.YtomlilkobhkoiaaGreatDoor
