/- Several texts in one. -/
import Derived.Test.YtfgacjglfdehbaaGreatDoorZ38
import Derived.Test.YtfgacjglfdehbaaGreatDoorZ40
import Derived.Test.YtfgacjglfdehbaaGreatDoorZ7
/- VoterForward: an answer can be, and goes back; what is known of each item only goes on; Vote is never greater than Promised. -/
namespace Go.Proofs.YtfgacjglfdehbaaGreatDoor
open Go.RowKit Go.Shelf
set_option linter.unusedVariables false
set_option maxRecDepth 20000
attribute [local go_sem] Oper.semAt_some
attribute [local go_sem] row_alloc row_drew row_drewN row_ext row_setCell row_setRow size_ext setRow_alloc setRow_drew loadOf storeOf piece_lit loadVal_at storeVal_at allOne_lit buildOf buildRes_some
attribute [local go_sem high] cell_alloc frozen_alloc setCell_alloc cell_ext frozen_ext cell_setRow frozen_setRow
attribute [local go_sem ↓] TDeed_ld0 TDeed_st0 TDeed_fd0 TDeed_bd0
attribute [local go_sem] TDeed_size TDeed_one TDeed_piece TDeed_c0 TDeed_c1 TDeed_c2 TDeed_c3 TDeed_c4 TDeed_c5 TDeed_set_kind TDeed_set_key TDeed_set_val TDeed_set_ver TDeed_set_ses TDeed_set_num TDeed_ld TDeed_st TDeed_f_kind TDeed_f_key TDeed_f_val TDeed_f_ver TDeed_f_ses TDeed_f_num TDeed_bd TDeed_fl TDeed_fl_kind TDeed_fl_key TDeed_fl_val TDeed_fl_ver TDeed_fl_ses TDeed_fl_num
attribute [local go_sem high] TDeed_eql TDeed_neq
attribute [local go_sem ↓] index_deps0 load_deps0 store_deps0
attribute [local go_sem] DV_piece DV_size DV_one index_deps load_deps store_deps
attribute [local go_sem high] TDeps_eql TDeps_neq
attribute [local go_sem ↓] TCall_ld0 TCall_st0 TCall_fd0 TCall_bd0
attribute [local go_sem] TCall_size TCall_one TCall_piece TCall_c0 TCall_c1 TCall_c2 TCall_c3 TCall_c4 TCall_c5 TCall_c6 TCall_c7 TCall_c8 TCall_c9 TCall_c10 TCall_c11 TCall_c12 TCall_c13 TCall_p_deed TCall_put_deed TCall_p_deps TCall_put_deps TCall_set_seq TCall_ld TCall_st TCall_f_deed TCall_f_deps TCall_f_seq TCall_bd TCall_fl TCall_fl_deed TCall_fl_deps TCall_fl_seq
attribute [local go_sem high] TCall_eql TCall_neq
attribute [local go_sem ↓] TItem_ld0 TItem_st0 TItem_fd0 TItem_bd0
attribute [local go_sem] TItem_size TItem_one TItem_piece TItem_c0 TItem_c1 TItem_set_rep TItem_set_num TItem_ld TItem_st TItem_f_rep TItem_f_num TItem_bd TItem_fl TItem_fl_rep TItem_fl_num
attribute [local go_sem high] TItem_eql TItem_neq
attribute [local go_sem ↓] TBallot_ld0 TBallot_st0 TBallot_fd0 TBallot_bd0
attribute [local go_sem] TBallot_size TBallot_one TBallot_piece TBallot_c0 TBallot_c1 TBallot_set_round TBallot_set_rep TBallot_ld TBallot_st TBallot_f_round TBallot_f_rep TBallot_bd TBallot_fl TBallot_fl_round TBallot_fl_rep
attribute [local go_sem high] TBallot_eql TBallot_neq
attribute [local go_sem ↓] TInst_ld0 TInst_st0 TInst_fd0 TInst_bd0
attribute [local go_sem] TInst_size TInst_one TInst_piece TInst_c0 TInst_c1 TInst_c2 TInst_c3 TInst_c4 TInst_c5 TInst_c6 TInst_c7 TInst_c8 TInst_c9 TInst_c10 TInst_c11 TInst_c12 TInst_c13 TInst_c14 TInst_c15 TInst_c16 TInst_c17 TInst_c18 TInst_c19 TInst_p_prom TInst_put_prom TInst_p_vote TInst_put_vote TInst_set_status TInst_p_call TInst_put_call TInst_set_same TInst_ld TInst_st TInst_f_prom TInst_f_vote TInst_f_status TInst_f_call TInst_f_same TInst_bd TInst_fl TInst_fl_prom TInst_fl_vote TInst_fl_status TInst_fl_call TInst_fl_same
attribute [local go_sem high] TInst_eql TInst_neq
attribute [local go_sem ↓] TMsg_ld0 TMsg_st0 TMsg_fd0 TMsg_bd0
attribute [local go_sem] TMsg_size TMsg_one TMsg_piece TMsg_c0 TMsg_c1 TMsg_c2 TMsg_c3 TMsg_c4 TMsg_c5 TMsg_c6 TMsg_c7 TMsg_c8 TMsg_c9 TMsg_c10 TMsg_c11 TMsg_c12 TMsg_c13 TMsg_c14 TMsg_c15 TMsg_c16 TMsg_c17 TMsg_c18 TMsg_c19 TMsg_c20 TMsg_c21 TMsg_c22 TMsg_c23 TMsg_c24 TMsg_set_kind TMsg_set_frm TMsg_set_to TMsg_p_item TMsg_put_item TMsg_p_bal TMsg_put_bal TMsg_p_vote TMsg_put_vote TMsg_set_status TMsg_set_same TMsg_p_call TMsg_put_call TMsg_ld TMsg_st TMsg_f_kind TMsg_f_frm TMsg_f_to TMsg_f_item TMsg_f_bal TMsg_f_vote TMsg_f_status TMsg_f_same TMsg_f_call TMsg_bd TMsg_fl TMsg_fl_kind TMsg_fl_frm TMsg_fl_to TMsg_fl_item TMsg_fl_bal TMsg_fl_vote TMsg_fl_status TMsg_fl_same TMsg_fl_call
attribute [local go_sem high] TMsg_eql TMsg_neq
theorem results_cellF {P : Program} {fn : Func} {p : Tmp} {ty : TypeId} {d : TypeDesc} {tmps : Array Value} {w : World} {g : Nat} {v : Value} (h : fn.results = #[.cell p ty]) (hp : tmps.getD p undef = .pointer (some ⟨g, 0, none⟩)) (hc : w.cell? ⟨g, 0, none⟩ = some v) (hu : P.underlying ty = some d) (hd : d.isRow = false) :
    (results fn tmps).run P w = .ok v w := by
  have hp' : tmps[p]?.getD undef = .pointer (some ⟨g, 0, none⟩) := by simpa using hp
  have ha : (isAgg ty).run P w = .ok false w := by
    unfold isAgg
    simp only [Sem.run_bind, run_underlying hu, Result.andThen_ok]
    cases d <;> first | rfl | (cases hd; done)
  simp [results, h, hp', asAddr, loadVar, ha, hc]
set_option maxHeartbeats 16000000 in
theorem law_forward (n self : Int) (A : Option Addr) (c : Nat) (l : List Msg) (t : TypeId) (W : World) (h0 : W.heap[0]? = some (.cells KndV t (0, 0))) (hx : RowsIn W A 25 MV l) (hf : FitV l) :
    Calls Tryz.prog 3 #[.int .i64 n, .int .i64 self, .slice A l.length c] W fun e W' => e = .returned (.bool true) ∧ Below W.heap.size W W' := by
  have HX := Lib.hid hx; have HF := Lib.hid hf
  clear hx hf
  have HB : Hid (∀ W' R, Sts W (fun k => k = 0) W' (kndR t :: R) → Below W.heap.size W W') := Lib.hid fun W' R T => (Sts.only1 T).belowK h0
  have hll := HX.out.len
  refine (callsIn_wide (n := 4)).1 ?_
  refine callsIn_of_wp_marks Tryz.func3 rfl trivial ?_ rfl
  simp only [Tryz.ntmps3, List.size_toArray, List.length_cons, List.length_nil, Nat.reduceAdd, Nat.reduceSub, Array.replicate_succ, Array.replicate_zero, List.push_toArray, List.append_toArray, List.nil_append, List.cons_append]
  refine wpIn_wide.2 ?_
  have T := ((Sts.startK h0).new #[.bool false] 4).swap
  have HT := Lib.hid T; clear T
  go_wp2_with fail
  refine (alive15 HT.out).mono ?_
  clear HT
  rintro e w1 ⟨rfl, T⟩
  generalize hg6 : W.heap.size = g6 at *
  have HT := Lib.hid T; clear T
  go_wp2_with fail
  refine (great15 n A c l W w1 _ _ (fun W' T => by rw [hg6]; exact HB.out _ _ T) HX.out HF.out HT.out).mono ?_
  clear HT
  rintro e w2 ⟨rfl, T⟩
  cases hg : greatV n l
  case true =>
    have T1 := T.swap
    clear T
    have r8 := T1.row; have l8 := row_lt r8; have c8 := row_cell r8 0; have f8 := row_frozen r8 0
    have T2 := T1.setCell 0 (.bool true)
    have HT2 := Lib.hid T2; clear T2
    go_wp2
    refine retM0 (results_cellF rfl rfl (row_cell HT2.out.row 0) Tryz.underlying4 rfl) ⟨rfl, ?_⟩ rfl
    have T9 := HT2.out.drop
    first | (rw [hg6]; exact HB.out _ _ T9) | exact HB.out _ _ T9
  case false =>
    obtain ⟨hs, h80⟩ := great_V hg
    have HT := Lib.hid T; clear T hg
    go_wp2_with fail
    refine (newT HT.out).mono ?_
    clear HT
    rintro e w3 ⟨rfl, T⟩
    generalize w2.heap.size = p at *
    have HO := Lib.hid (spOpenT T (by simp) n hs); clear T
    go_wp2_with fail
    refine HO.out.mono ?_
    clear HO
    rintro e w4 ⟨s, lg, g, bk, bs, rfl, T⟩
    have hv := VotI.open hs
    have hvl : VoteLe (mK n (goT n [])) := by rw [goT_nil]; exact VoteLe.new n
    generalize idxF (ents (mK n (goT n []))) = I0 at *
    generalize mK n (goT n []) = m0 at *
    generalize openD n [] = D0 at *
    generalize openF n [] 0 = f0 at *
    have T : Sts W (fun k => k = 0) w4 (idxR s lg bk bs I0 :: rowR lg (ledCells p g m0.n) :: plR p D0 f0 :: rowsIR g m0 :: kndR t :: [rowR g6 #[.bool false]]) := T
    have T2 := T.marksNil.ord [1, 2, 3, 4, 5, 6, 0]
    have HT := Lib.hid T2; have HV := Lib.hid hv; have HVL := Lib.hid hvl; clear T T2 hv hvl
    go_wp2_with fail
    refine wp_loop_ghost_k (fun k a wr => ∃ (j : Nat) (Ds : List Nat) (I : Idx) (D : List UInt8) (safe : Nat) (m : RowsM) (u10 u11 u12 u13 u14 u15 u29 u30 u31 u32 u33 u34 u35 u36 u37 u38 u39 u40 u41 u42 u43 u44 u45 u46 u47 u48 u49 u50 u51 u52 u53 u54 u55 u56 u57 u58 u59 u60 u61 u62 u63 u64 u65 u66 u67 u68 u69 u70 u71 u72 u73 u74 u75 u76 u77 u78 u79 u80 u81 u82 u83 u84 u85 u86 u87 u88 u89 u90 u91 u92 u93 u94 u95 u96 u97 u98 u99 : Value), a = { tmps := List.toArray ((Value.int .i64 n) :: (Value.int .i64 self) :: (Value.slice A l.length c) :: undef :: undef :: undef :: (Value.pointer (some ⟨g6, 0, none⟩)) :: (Value.pointer (some ⟨s, 0, none⟩)) :: (Value.int .i64 0) :: undef :: u10 :: u11 :: u12 :: u13 :: u14 :: u15 :: (Value.bool true) :: (Value.bool false) :: (Value.int .i64 n) :: (Value.slice A l.length c) :: (Value.bool false) :: (Value.tuple #[.pointer (some ⟨s, 0, none⟩), .int .i64 0]) :: (Value.pointer (some ⟨p, 0, none⟩)) :: (Value.int .i64 n) :: (Value.tuple #[.pointer (some ⟨s, 0, none⟩), .int .i64 0]) :: (Value.pointer (some ⟨s, 0, none⟩)) :: (Value.int .i64 0) :: (Value.slice A l.length c) :: (Value.int .i64 l.length) :: u29 :: u30 :: u31 :: u32 :: u33 :: u34 :: u35 :: u36 :: u37 :: u38 :: u39 :: u40 :: u41 :: u42 :: u43 :: u44 :: u45 :: u46 :: u47 :: u48 :: u49 :: u50 :: u51 :: u52 :: u53 :: u54 :: u55 :: u56 :: u57 :: u58 :: u59 :: u60 :: u61 :: u62 :: u63 :: u64 :: u65 :: u66 :: u67 :: u68 :: u69 :: u70 :: u71 :: u72 :: u73 :: u74 :: u75 :: u76 :: u77 :: u78 :: u79 :: u80 :: u81 :: u82 :: u83 :: u84 :: u85 :: u86 :: u87 :: u88 :: u89 :: u90 :: u91 :: u92 :: u93 :: u94 :: u95 :: u96 :: u97 :: u98 :: u99 :: []), defers := Ds.map collD } ∧ (u29 = .int .i64 j ∧ j ≤ l.length ∧ k = l.length - j ∧ VotI n j I D m ∧ VoteLe m) ∧ Sts W (fun k => k = 0) wr (idxR s lg bk bs I :: rowR lg (ledCells p g m.n) :: plR p D safe :: rowsIR g m :: kndR t :: rowR g6 #[.bool false] :: marksR Ds :: [])) l.length ?_ ?_
    · exact ⟨0, [], I0, D0, f0, m0, undef, undef, undef, undef, undef, undef, .int .i64 0, undef, undef, undef, undef, undef, undef, undef, undef, undef, undef, undef, undef, undef, undef, undef, undef, undef, undef, undef, undef, undef, undef, undef, undef, undef, undef, undef, undef, undef, undef, undef, undef, undef, undef, undef, undef, undef, undef, undef, undef, undef, undef, undef, undef, undef, undef, undef, undef, undef, undef, undef, undef, undef, undef, undef, undef, undef, undef, undef, undef, undef, undef, undef, undef, undef, undef, undef, undef, undef, undef, rfl, ⟨rfl, Nat.zero_le _, rfl, HV.out, HVL.out⟩, HT.out⟩
    clear HT HV HVL
    intro k0 a0 wr hrel
    obtain ⟨j, Ds, I, D, safe, m, hrel⟩ := hrel
    obtain ⟨u10, hrel⟩ := hrel
    obtain ⟨u11, hrel⟩ := hrel
    obtain ⟨u12, hrel⟩ := hrel
    obtain ⟨u13, hrel⟩ := hrel
    obtain ⟨u14, hrel⟩ := hrel
    obtain ⟨u15, hrel⟩ := hrel
    obtain ⟨u29, hrel⟩ := hrel
    obtain ⟨u30, hrel⟩ := hrel
    obtain ⟨u31, hrel⟩ := hrel
    obtain ⟨u32, hrel⟩ := hrel
    obtain ⟨u33, hrel⟩ := hrel
    obtain ⟨u34, hrel⟩ := hrel
    obtain ⟨u35, hrel⟩ := hrel
    obtain ⟨u36, hrel⟩ := hrel
    obtain ⟨u37, hrel⟩ := hrel
    obtain ⟨u38, hrel⟩ := hrel
    obtain ⟨u39, hrel⟩ := hrel
    obtain ⟨u40, hrel⟩ := hrel
    obtain ⟨u41, hrel⟩ := hrel
    obtain ⟨u42, hrel⟩ := hrel
    obtain ⟨u43, hrel⟩ := hrel
    obtain ⟨u44, hrel⟩ := hrel
    obtain ⟨u45, hrel⟩ := hrel
    obtain ⟨u46, hrel⟩ := hrel
    obtain ⟨u47, hrel⟩ := hrel
    obtain ⟨u48, hrel⟩ := hrel
    obtain ⟨u49, hrel⟩ := hrel
    obtain ⟨u50, hrel⟩ := hrel
    obtain ⟨u51, hrel⟩ := hrel
    obtain ⟨u52, hrel⟩ := hrel
    obtain ⟨u53, hrel⟩ := hrel
    obtain ⟨u54, hrel⟩ := hrel
    obtain ⟨u55, hrel⟩ := hrel
    obtain ⟨u56, hrel⟩ := hrel
    obtain ⟨u57, hrel⟩ := hrel
    obtain ⟨u58, hrel⟩ := hrel
    obtain ⟨u59, hrel⟩ := hrel
    obtain ⟨u60, hrel⟩ := hrel
    obtain ⟨u61, hrel⟩ := hrel
    obtain ⟨u62, hrel⟩ := hrel
    obtain ⟨u63, hrel⟩ := hrel
    obtain ⟨u64, hrel⟩ := hrel
    obtain ⟨u65, hrel⟩ := hrel
    obtain ⟨u66, hrel⟩ := hrel
    obtain ⟨u67, hrel⟩ := hrel
    obtain ⟨u68, hrel⟩ := hrel
    obtain ⟨u69, hrel⟩ := hrel
    obtain ⟨u70, hrel⟩ := hrel
    obtain ⟨u71, hrel⟩ := hrel
    obtain ⟨u72, hrel⟩ := hrel
    obtain ⟨u73, hrel⟩ := hrel
    obtain ⟨u74, hrel⟩ := hrel
    obtain ⟨u75, hrel⟩ := hrel
    obtain ⟨u76, hrel⟩ := hrel
    obtain ⟨u77, hrel⟩ := hrel
    obtain ⟨u78, hrel⟩ := hrel
    obtain ⟨u79, hrel⟩ := hrel
    obtain ⟨u80, hrel⟩ := hrel
    obtain ⟨u81, hrel⟩ := hrel
    obtain ⟨u82, hrel⟩ := hrel
    obtain ⟨u83, hrel⟩ := hrel
    obtain ⟨u84, hrel⟩ := hrel
    obtain ⟨u85, hrel⟩ := hrel
    obtain ⟨u86, hrel⟩ := hrel
    obtain ⟨u87, hrel⟩ := hrel
    obtain ⟨u88, hrel⟩ := hrel
    obtain ⟨u89, hrel⟩ := hrel
    obtain ⟨u90, hrel⟩ := hrel
    obtain ⟨u91, hrel⟩ := hrel
    obtain ⟨u92, hrel⟩ := hrel
    obtain ⟨u93, hrel⟩ := hrel
    obtain ⟨u94, hrel⟩ := hrel
    obtain ⟨u95, hrel⟩ := hrel
    obtain ⟨u96, hrel⟩ := hrel
    obtain ⟨u97, hrel⟩ := hrel
    obtain ⟨u98, hrel⟩ := hrel
    obtain ⟨u99, hrel⟩ := hrel
    obtain ⟨ha, ⟨h29, hj, hk0, hI, hvl⟩, T⟩ := hrel
    subst h29
    subst ha
    subst hk0
    intro J K0 hJ hK0
    by_cases hjl : j < l.length
    · cases A with
      | none => have := HX.out.nil rfl; subst this; simp at hjl
      | some a =>
        have TK : Sts W (fun k => k = 0) wr (kndR t :: rowR g6 #[.bool false] :: marksR Ds :: []) := T.drop.drop.drop.drop
        have hld := HX.out.load (P := Tryz.prog) (T := 42) TMsg_size TMsg_und rfl (by kernel_rfl) (by rw [hg6]; exact HB.out _ _ TK) rfl hjl
        clear TK
        have hk3 : (j : Int) < (l.length : Int) := by omega
        have hk0 : (0 : Int) ≤ (j : Int) := by omega
        generalize l[j] = x at *
        have T2 := (T.new (MV x) 42).ord [1, 2, 3, 4, 0, 5, 6, 7]
        have T3 : Sts W (fun k => k = 0) _ (spL s lg p g bk bs I D safe m ++ [rowR wr.heap.size (MV x), kndR t, rowR g6 #[.bool false], marksR Ds]) := T2
        have HBK := Lib.hid (bookV hI.sp.ok T3); have HI := Lib.hid hI; have HVL := Lib.hid hvl
        clear T T2 T3 hI hvl
        generalize hgx : wr.heap.size = gx at *
        go_wp2_with fail
        refine HBK.out.mono ?_
        clear HBK
        rintro e w5 ⟨b, rfl, T⟩
        have T1 : Sts W (fun k => k = 0) w5 (bookR b (ents m) :: idxR s lg bk bs I :: rowR lg (ledCells p g m.n) :: plR p D safe :: rowsIR g m :: rowR gx (MV x) :: kndR t :: rowR g6 #[.bool false] :: marksR Ds :: []) := T
        have T2 := (T1.new #[.pointer (some ⟨b, 0, none⟩)] 43).ord [2, 3, 4, 5, 7, 0, 1, 6, 8, 9]
        have T3 : Sts W (fun k => k = 0) _ (spL s lg p g bk bs I D safe m ++ kndR t :: [rowR w5.heap.size #[.pointer (some ⟨b, 0, none⟩)], bookR b (ents m), rowR gx (MV x), rowR g6 #[.bool false], marksR Ds]) := T2
        have rx := (T2.ord [7, 0, 1, 2, 3, 4, 5, 6, 8, 9]).row; have lx := row_lt rx
        have HVA := Lib.hid (vans HI.out (by omega) self x T3)
        have hfw := fun (y : Item) (i : Inst) (hy : getM (afterM m self x) y = some i) => forward_at HVL.out self x hy
        have hvl2 := HVL.out.after self x
        have hog := fun hok => out_good HI.out.sp.ok HI.out.sp.good (by rw [HI.out.sp.mn]; exact HI.out.pos) (self := self) (x := x) hok
        rw [HI.out.sp.mn] at hog
        unfold afterM at hfw hvl2
        clear T T1 T2 T3
        generalize hg11 : w5.heap.size = g11 at *
        generalize ansM m self x = q at *
        obtain ⟨out, ok, now⟩ := q
        dsimp only at hfw hvl2 hog
        have HFW := Lib.hid hfw; have HVL2 := Lib.hid hvl2; have HOG := Lib.hid hog
        clear hfw hvl2 hog
        go_wp2_with fail
        refine HVA.out.mono ?_
        clear HVA rx lx
        rintro e w6 ⟨rfl, I2, D2, safe2, hI2, T⟩
        dsimp only at hI2 T
        have hI3 := hI2.up (j := j + 1) (by have := growV_le m x.item now; omega)
        generalize nowR m x.item now = m2 at *
        have T1 : Sts W (fun k => k = 0) w6 (idxR s lg bk bs I2 :: rowR lg (ledCells p g m2.n) :: plR p D2 safe2 :: rowsIR g m2 :: kndR t :: rowR g11 #[.pointer (some ⟨b, 0, none⟩)] :: bookR b (ents m) :: rowR gx (MV x) :: rowR g6 #[.bool false] :: marksR Ds :: []) := T
        have T2 := (T1.new (MV out) 42).ord [0, 8, 1, 2, 3, 4, 5, 6, 7, 9, 10]
        have rz := T2.row; have lz := row_lt rz; have cz := row_cell rz
        have rx := T2.row1; have lx := row_lt rx; have cx := row_cell rx
        have HT := Lib.hid T2; have HI3 := Lib.hid hI3
        clear T T1 T2 hI2 hI3
        generalize hgz : w6.heap.size = gz at *
        go_upto_region 11 with fail
        generalize hwa : w6.alloc _ = w6a at *
        clear hwa hld
        go_cut [68] from 42 to 68 (fun u68 wx => u68 = .bool false ∧ Sts W (fun k => k = 0) wx (rowR gz (MV out) :: rowR gx (MV x) :: idxR s lg bk bs I2 :: rowR lg (ledCells p g m2.n) :: plR p D2 safe2 :: rowsIR g m2 :: kndR t :: rowR g11 #[.pointer (some ⟨b, 0, none⟩)] :: bookR b (ents m) :: rowR g6 #[.bool false] :: marksR Ds :: []))
        case first =>
          cases ok
          case false =>
            go_wp2_with fail
            go_meet
            case rel => exact ⟨rfl, HT.out⟩
          case true =>
            obtain ⟨o1, o2, o3, o4⟩ := HOG.out rfl
            have hrg := rmailGood_any out n
            rw [o1] at hrg
            have q2 : (out.frm != self) = false := by simp [o2]
            have q3 : (out.to != x.frm) = false := by simp [o3]
            have q4 : eqA (IV out.item) (IV x.item) = true := by rw [o4]; exact eqA_refl _
            have HRG := Lib.hid hrg
            clear hrg o1 o2 o3 o4 HOG HFW HVL2
            go_wp2_with fail
            refine (Ans.at HRG.out HT.out).mono ?_
            clear HRG HT rz lz cz rx lx cx
            rintro e w7 ⟨rfl, T⟩
            have rz := T.row; have lz := row_lt rz; have cz := row_cell rz
            have rx := T.row1; have lx := row_lt rx; have cx := row_cell rx
            have HT := Lib.hid T; clear T
            go_wp2_with fail
            go_meet
            case rel => exact ⟨rfl, HT.out⟩
        case rest =>
          obtain ⟨rfl, T⟩ := hcut
          clear HT rz lz cz rx lx cx HOG
          have T2 := (T.ord [2, 3, 4, 5, 6, 0, 1, 7, 8, 9, 10])
          have T3 : Sts W (fun k => k = 0) _ (spL s lg p g bk bs I2 D2 safe2 m2 ++ [kndR t, rowR gz (MV out), rowR gx (MV x), rowR g11 #[.pointer (some ⟨b, 0, none⟩)], bookR b (ents m), rowR g6 #[.bool false], marksR Ds]) := T2
          have HALL := Lib.hid (spAllT T3)
          clear T T2 T3
          go_wp2_with fail
          refine HALL.out.mono ?_
          clear HALL
          rintro e w7 ⟨c7, rfl, T⟩
          have HT7 := Lib.hid T; clear T
          go_wp2_with fail
          have hok2 := HI3.out.sp.ok
          have HOK2 := Lib.hid hok2; clear hok2
          refine (wpIn_wide (n := 4)).1 ?_
          refine wp_rangeSts (gf := 65) (lb := #[.pointer (some ⟨c7, 0, none⟩)]) (enc := fun x : Item × Inst => #[.agg (IV x.1), .agg (NV x.2)]) (xs := ents m2)
            (fun k => []) (fun _ _ => [noR]) (iterIR c7 g m2 ++ (idxR s lg bk bs I2 :: rowR lg (ledCells p g m2.n) :: plR p D2 safe2 :: [kndR t, rowR gz (MV out), rowR gx (MV x), rowR g11 #[.pointer (some ⟨b, 0, none⟩)], bookR b (ents m), rowR g6 #[.bool false], marksR Ds]))
            (fun k e a' own' => ∃ b1 b2, own' = [rowR b2 (NV e.2), rowR b1 (IV e.1)] ∧ a' = { tmps := List.toArray ((Value.int .i64 n) :: (Value.int .i64 self) :: (Value.slice (some a) l.length c) :: undef :: undef :: undef :: (Value.pointer (some ⟨g6, 0, none⟩)) :: (Value.pointer (some ⟨s, 0, none⟩)) :: (Value.int .i64 0) :: undef :: (Value.pointer (some ⟨gx, 0, none⟩)) :: (Value.pointer (some ⟨g11, 0, none⟩)) :: (Value.pointer (some ⟨gz, 0, none⟩)) :: (Value.bool ok) :: (Value.pointer (some ⟨b1, 0, none⟩)) :: (Value.pointer (some ⟨b2, 0, none⟩)) :: (Value.bool true) :: (Value.bool false) :: (Value.int .i64 n) :: (Value.slice (some a) l.length c) :: (Value.bool false) :: (Value.tuple #[.pointer (some ⟨s, 0, none⟩), .int .i64 0]) :: (Value.pointer (some ⟨p, 0, none⟩)) :: (Value.int .i64 n) :: (Value.tuple #[.pointer (some ⟨s, 0, none⟩), .int .i64 0]) :: (Value.pointer (some ⟨s, 0, none⟩)) :: (Value.int .i64 0) :: (Value.slice (some a) l.length c) :: (Value.int .i64 (l.length : Int)) :: (Value.int .i64 (j : Int)) :: (Value.bool true) :: (Value.pointer (some (a.add (j * 25)))) :: (Value.agg (MV x)) :: (Value.pointer (some ⟨s, 0, none⟩)) :: (Value.pointer (some ⟨b, 0, none⟩)) :: (Value.tuple #[.agg (MV out), .bool ok]) :: (Value.pointer (some ⟨s, 0, none⟩)) :: (Value.int .i64 self) :: (Value.agg (MV x)) :: (Value.tuple #[.agg (MV out), .bool ok]) :: (Value.agg (MV out)) :: (Value.bool ok) :: u42 :: u43 :: u44 :: u45 :: u46 :: u47 :: u48 :: u49 :: u50 :: u51 :: u52 :: u53 :: u54 :: u55 :: u56 :: u57 :: u58 :: u59 :: u60 :: u61 :: u62 :: u63 :: u64 :: u65 :: u66 :: u67 :: (Value.bool false) :: (Value.pointer (some ⟨s, 0, none⟩)) :: (allF c7) :: (Value.agg (IV e.1)) :: (Value.agg (NV e.2)) :: u73 :: u74 :: u75 :: u76 :: u77 :: u78 :: u79 :: u80 :: u81 :: u82 :: u83 :: u84 :: u85 :: u86 :: u87 :: u88 :: u89 :: u90 :: u91 :: u92 :: u93 :: u94 :: u95 :: u96 :: u97 :: u98 :: u99 :: []), defers := [] })
            rfl (enters_of Tryz.func65 (by kernel_rfl) rfl) (fun _ => rfl) (Gives.part fun H hS => irAllG c7 g m2 HOK2.out _ H hS) HT7.out ?calm ?calmX ?assign ?body ?done ?stop
          case calm => exact fun k => calmL_nil _
          case calmX => exact fun _ _ => calmL_cons (noR_calm _) (calmL_nil _)
          case assign =>
            intro lr k e W1 G1 K hx T1 hK
            have T2 := ((T1.new (IV e.1) 32).new (NV e.2) 52)
            rw [World.size_alloc] at T2
            have HT2 := Lib.hid T2
            clear T1 T2 HT7
            gi_wp2
            exact hK _ _ _ ⟨_, _, rfl, rfl⟩ HT2.out
          case body =>
            rintro lr k e _ _ W1 G1 hx ⟨b1, b2, rfl, rfl⟩ T1 hread
            obtain ⟨F', w', TL⟩ := hread T1
            have TL : Sts w' F' W1 (rowR b2 (NV e.2) :: rowR b1 (IV e.1) :: rowR c7 #[.pointer (some ⟨g, 0, none⟩)] :: rowsIR g m2 :: idxR s lg bk bs I2 :: rowR lg (ledCells p g m2.n) :: plR p D2 safe2 :: kndR t :: rowR gz (MV out) :: rowR gx (MV x) :: rowR g11 #[.pointer (some ⟨b, 0, none⟩)] :: bookR b (ents m) :: rowR g6 #[.bool false] :: marksR Ds :: []) := TL
            have TLo := (TL.ord [11, 1, 0, 9, 10, 2, 3, 4, 5, 6, 7, 8, 12, 13]).drew
            obtain ⟨f1, f2, f3⟩ := HFW.out e.1 e.2 (ents_mem (List.mem_of_getElem? hx))
            have hba := rbookAtR b (ents m) (by have := ents_len HI.out.sp.ok; omega) e.1
            rw [atB_ents HI.out.sp.ok] at hba
            have hfo := rfollows_any (atM m e.1) e.2
            rw [f1] at hfo
            have hle := rless_any e.2.prom e.2.vote
            rw [f2] at hle
            generalize atM m e.1 = at0 at *
            have HF3 := Lib.hid f3; clear f3 f1 f2
            have FS : ∀ W', Sts w' F' W' (bookR b (ents m) :: rowR b1 (IV e.1) :: rowR b2 (NV e.2) :: rowR gx (MV x) :: rowR g11 #[.pointer (some ⟨b, 0, none⟩)] :: rowR c7 #[.pointer (some ⟨g, 0, none⟩)] :: rowsIR g m2 :: idxR s lg bk bs I2 :: rowR lg (ledCells p g m2.n) :: plR p D2 safe2 :: kndR t :: rowR gz (MV out) :: rowR g6 #[.bool false] :: marksR Ds :: []) → (row? W' b1 = some (IV e.1) ∧ row? W' b2 = some (NV e.2) ∧ row? W' gx = some (MV x) ∧ W'.cell? ⟨g11, 0, none⟩ = some (.pointer (some ⟨b, 0, none⟩))) := fun W' T => ⟨T.row1, T.row2, T.row3, row_cell T.row4 0⟩
            have S0 := FS _ TLo
            have HFS := Lib.hid FS; have HTL := Lib.hid TLo; have HT := Lib.hid T1.drew
            have HBA := Lib.hid hba; have HFO := Lib.hid hfo; have HLE := Lib.hid hle
            clear FS TL TLo T1 hread hba hfo hle HT7
            gi_wp2_with fail
            refine wpIn_region_held (fun W' => row? W' b1 = some (IV e.1) ∧ row? W' b2 = some (NV e.2) ∧ row? W' gx = some (MV x) ∧ W'.cell? ⟨g11, 0, none⟩ = some (.pointer (some ⟨b, 0, none⟩))) (by kernel_rfl) (by kernel_rfl) S0 (fun hHeld => ?_)
            clear S0
            refine wpAnyH_take (i := 0) (oi := _) (v := ?_) rfl (by kernel_rfl) (by kernel_rfl) (by kernel_rfl) (fun _ _ _ h => h) (Or.inl ⟨by kernel_rfl, ?_⟩) (by assumption) ?_
            rotate_left
            · (intro w hSw; (try dsimp only at hSw); go_simp; try (with_reducible rfl))
            simp only [Act.put, List.getElem_toArray, List.getElem_cons_zero, List.setIfInBounds_toArray, List.set_cons_zero, List.set_cons_succ]
            refine wpAnyH_take (i := 1) (oi := _) (v := ?_) rfl (by kernel_rfl) (by kernel_rfl) (by kernel_rfl) (fun _ _ _ h => h) (Or.inl ⟨by kernel_rfl, ?_⟩) (by assumption) ?_
            rotate_left
            · (intro w hSw; (try dsimp only at hSw); go_simp; try (with_reducible rfl))
            simp only [Act.put, List.getElem_toArray, List.getElem_cons_succ, List.getElem_cons_zero, List.setIfInBounds_toArray, List.set_cons_zero, List.set_cons_succ]
            refine wpAnyH_take (i := 3) (oi := _) (v := ?_) rfl (by kernel_rfl) (by kernel_rfl) (by kernel_rfl) (fun _ _ _ h => h) (Or.inl ⟨by kernel_rfl, ?_⟩) (by assumption) ?_
            rotate_left
            · (intro w hSw; (try dsimp only at hSw); go_simp; try (with_reducible rfl))
            simp only [Act.put, List.getElem_toArray, List.getElem_cons_succ, List.getElem_cons_zero, List.setIfInBounds_toArray, List.set_cons_zero, List.set_cons_succ]
            refine wpAnyH_ready (rs := [2]) (by kernel_rfl) (by simp) ?_
            refine AllReadyH.cons (o := _) rfl (fun K hK => ?_) AllReadyH.nil
            go_simp
            refine (HBA.out.at (R := _) HTL.out).mono ?_
            rintro e9 w9 ⟨rfl, hb⟩
            have T := HT.out.pure hb
            have TL := HTL.out.pure hb
            clear hb HT HTL
            refine hK.out _ _ (HFS.out _ TL) (fun hHeld => ?_)
            clear hK K
            have HT := Lib.hid T; have HTL := Lib.hid TL
            clear T TL
            refine wpAnyH_ready (rs := [4]) (by kernel_rfl) (by simp) ?_
            refine AllReadyH.cons (o := _) rfl (fun K hK => ?_) AllReadyH.nil
            go_simp
            refine (HFO.out _).mono ?_
            rintro e9 w9 ⟨rfl, hb⟩
            have T := HT.out.pure hb
            have TL := HTL.out.pure hb
            clear hb HT HTL
            refine hK.out _ _ (HFS.out _ TL) (fun hHeld => ?_)
            clear hK K
            have HT := Lib.hid T; have HTL := Lib.hid TL
            clear T TL
            refine wpAnyH_take (i := 5) (oi := _) (v := ?_) rfl (by kernel_rfl) (by kernel_rfl) (by kernel_rfl) (fun _ _ _ h => h) (Or.inl ⟨by kernel_rfl, ?_⟩) (by assumption) ?_
            rotate_left
            · (intro w hSw; (try dsimp only at hSw); go_simp; try (with_reducible rfl))
            simp only [Act.put, List.getElem_toArray, List.getElem_cons_succ, List.getElem_cons_zero, List.setIfInBounds_toArray, List.set_cons_zero, List.set_cons_succ]
            refine wpAnyH_take (i := 6) (oi := _) (v := ?_) rfl (by kernel_rfl) (by kernel_rfl) (by kernel_rfl) (fun _ _ _ h => h) (Or.inl ⟨by kernel_rfl, ?_⟩) (by assumption) ?_
            rotate_left
            · (intro w hSw; (try dsimp only at hSw); go_simp; try (with_reducible rfl))
            simp only [Act.put, List.getElem_toArray, List.getElem_cons_succ, List.getElem_cons_zero, List.setIfInBounds_toArray, List.set_cons_zero, List.set_cons_succ]
            refine wpAnyH_take (i := 7) (oi := _) (v := ?_) rfl (by kernel_rfl) (by kernel_rfl) (by kernel_rfl) (fun _ _ _ h => h) (Or.inl ⟨by kernel_rfl, ?_⟩) (by assumption) ?_
            rotate_left
            · (intro w hSw; (try dsimp only at hSw); go_simp; try (with_reducible rfl))
            simp only [Act.put, List.getElem_toArray, List.getElem_cons_succ, List.getElem_cons_zero, List.setIfInBounds_toArray, List.set_cons_zero, List.set_cons_succ]
            refine wpAnyH_take (i := 8) (oi := _) (v := ?_) rfl (by kernel_rfl) (by kernel_rfl) (by kernel_rfl) (fun _ _ _ h => h) (Or.inl ⟨by kernel_rfl, ?_⟩) (by assumption) ?_
            rotate_left
            · (intro w hSw; (try dsimp only at hSw); go_simp; try (with_reducible rfl))
            simp only [Act.put, List.getElem_toArray, List.getElem_cons_succ, List.getElem_cons_zero, List.setIfInBounds_toArray, List.set_cons_zero, List.set_cons_succ]
            refine wpAnyH_take (i := 9) (oi := _) (v := ?_) rfl (by kernel_rfl) (by kernel_rfl) (by kernel_rfl) (fun _ _ _ h => h) (Or.inl ⟨by kernel_rfl, ?_⟩) (by assumption) ?_
            rotate_left
            · (intro w hSw; (try dsimp only at hSw); go_simp; try (with_reducible rfl))
            simp only [Act.put, List.getElem_toArray, List.getElem_cons_succ, List.getElem_cons_zero, List.setIfInBounds_toArray, List.set_cons_zero, List.set_cons_succ]
            refine wpAnyH_take (i := 10) (oi := _) (v := ?_) rfl (by kernel_rfl) (by kernel_rfl) (by kernel_rfl) (fun _ _ _ h => h) (Or.inl ⟨by kernel_rfl, ?_⟩) (by assumption) ?_
            rotate_left
            · (intro w hSw; (try dsimp only at hSw); go_simp; try (with_reducible rfl))
            simp only [Act.put, List.getElem_toArray, List.getElem_cons_succ, List.getElem_cons_zero, List.setIfInBounds_toArray, List.set_cons_zero, List.set_cons_succ]
            refine wpAnyH_ready (rs := [11]) (by kernel_rfl) (by simp) ?_
            refine AllReadyH.cons (o := _) rfl (fun K hK => ?_) AllReadyH.nil
            go_simp
            refine (HLE.out _).mono ?_
            rintro e9 w9 ⟨rfl, hb⟩
            have T := HT.out.pure hb
            have TL := HTL.out.pure hb
            clear hb HT HTL
            refine hK.out _ _ (HFS.out _ TL) (fun hHeld => ?_)
            clear hK K
            have HT := Lib.hid T; have HTL := Lib.hid TL
            clear T TL
            refine wpAnyH_take (i := 12) (oi := _) (v := ?_) rfl (by kernel_rfl) (by kernel_rfl) (by kernel_rfl) (fun _ _ _ h => h) (Or.inl ⟨by kernel_rfl, ?_⟩) (by assumption) ?_
            rotate_left
            · (intro w hSw; (try dsimp only at hSw); go_simp; try (with_reducible rfl))
            simp only [Act.put, List.getElem_toArray, List.getElem_cons_succ, List.getElem_cons_zero, List.setIfInBounds_toArray, List.set_cons_zero, List.set_cons_succ]
            refine wpAnyH_take (i := 13) (oi := _) (v := ?_) rfl (by kernel_rfl) (by kernel_rfl) (by kernel_rfl) (fun _ _ _ h => h) (Or.inl ⟨by kernel_rfl, ?_⟩) (by assumption) ?_
            rotate_left
            · (intro w hSw; (try dsimp only at hSw); go_simp; try (with_reducible rfl))
            simp only [Act.put, List.getElem_toArray, List.getElem_cons_succ, List.getElem_cons_zero, List.setIfInBounds_toArray, List.set_cons_zero, List.set_cons_succ]
            refine wpAnyH_take (i := 14) (oi := _) (v := ?_) rfl (by kernel_rfl) (by kernel_rfl) (by kernel_rfl) (fun _ _ _ h => h) (Or.inl ⟨by kernel_rfl, ?_⟩) (by assumption) ?_
            rotate_left
            · (intro w hSw; (try dsimp only at hSw); go_simp; try (with_reducible rfl))
            simp only [Act.put, List.getElem_toArray, List.getElem_cons_succ, List.getElem_cons_zero, List.setIfInBounds_toArray, List.set_cons_zero, List.set_cons_succ]
            refine wpAnyH_take (i := 15) (oi := _) (v := ?_) rfl (by kernel_rfl) (by kernel_rfl) (by kernel_rfl) (fun _ _ _ h => h) (Or.inl ⟨by kernel_rfl, ?_⟩) (by assumption) ?_
            rotate_left
            · (intro w hSw; (try dsimp only at hSw); go_simp; try (with_reducible rfl))
            simp only [Act.put, List.getElem_toArray, List.getElem_cons_succ, List.getElem_cons_zero, List.setIfInBounds_toArray, List.set_cons_zero, List.set_cons_succ]
            refine wpAnyH_take (i := 16) (oi := _) (v := ?_) rfl (by kernel_rfl) (by kernel_rfl) (by kernel_rfl) (fun _ _ _ h => h) (Or.inl ⟨by kernel_rfl, ?_⟩) (by assumption) ?_
            rotate_left
            · (intro w hSw; (try dsimp only at hSw); go_simp; try (with_reducible rfl))
            simp only [Act.put, List.getElem_toArray, List.getElem_cons_succ, List.getElem_cons_zero, List.setIfInBounds_toArray, List.set_cons_zero, List.set_cons_succ]
            cases heq : eqA (IV e.1) (IV x.item)
            case true =>
              refine wpAnyH_take (i := 17) (oi := _) (v := ?_) rfl (by kernel_rfl) (by kernel_rfl) (by kernel_rfl) (fun _ _ _ h => h) (Or.inl ⟨by kernel_rfl, ?_⟩) (by assumption) ?_
              rotate_left
              · (intro w hSw; (try dsimp only at hSw); go_simp; try (with_reducible rfl))
              simp only [Act.put, List.getElem_toArray, List.getElem_cons_succ, List.getElem_cons_zero, List.setIfInBounds_toArray, List.set_cons_zero, List.set_cons_succ]
              refine wpAnyH_take (i := 18) (oi := _) (v := ?_) rfl (by kernel_rfl) (by kernel_rfl) (by kernel_rfl) (fun _ _ _ h => h) (Or.inl ⟨by kernel_rfl, ?_⟩) (by assumption) ?_
              rotate_left
              · (intro w hSw; (try dsimp only at hSw); go_simp; try (with_reducible rfl))
              simp only [Act.put, List.getElem_toArray, List.getElem_cons_succ, List.getElem_cons_zero, List.setIfInBounds_toArray, List.set_cons_zero, List.set_cons_succ]
              refine wpAnyH_take (i := 19) (oi := _) (v := undef) rfl (by kernel_rfl) (by kernel_rfl) (by kernel_rfl) (fun _ _ _ h => h) (Or.inr ⟨by kernel_rfl, rfl⟩) (by assumption) ?_
              simp only [Act.put, List.getElem_toArray, List.getElem_cons_succ, List.getElem_cons_zero, List.setIfInBounds_toArray, List.set_cons_zero, List.set_cons_succ]
              refine wpAnyH_take (i := 20) (oi := _) (v := undef) rfl (by kernel_rfl) (by kernel_rfl) (by kernel_rfl) (fun _ _ _ h => h) (Or.inr ⟨by kernel_rfl, rfl⟩) (by assumption) ?_
              simp only [Act.put, List.getElem_toArray, List.getElem_cons_succ, List.getElem_cons_zero, List.setIfInBounds_toArray, List.set_cons_zero, List.set_cons_succ]
              refine wpAnyH_take (i := 21) (oi := _) (v := undef) rfl (by kernel_rfl) (by kernel_rfl) (by kernel_rfl) (fun _ _ _ h => h) (Or.inr ⟨by kernel_rfl, rfl⟩) (by assumption) ?_
              simp only [Act.put, List.getElem_toArray, List.getElem_cons_succ, List.getElem_cons_zero, List.setIfInBounds_toArray, List.set_cons_zero, List.set_cons_succ]
              refine wpAnyH_take (i := 22) (oi := _) (v := undef) rfl (by kernel_rfl) (by kernel_rfl) (by kernel_rfl) (fun _ _ _ h => h) (Or.inr ⟨by kernel_rfl, rfl⟩) (by assumption) ?_
              simp only [Act.put, List.getElem_toArray, List.getElem_cons_succ, List.getElem_cons_zero, List.setIfInBounds_toArray, List.set_cons_zero, List.set_cons_succ]
              refine wpAnyH_take (i := 23) (oi := _) (v := undef) rfl (by kernel_rfl) (by kernel_rfl) (by kernel_rfl) (fun _ _ _ h => h) (Or.inr ⟨by kernel_rfl, rfl⟩) (by assumption) ?_
              simp only [Act.put, List.getElem_toArray, List.getElem_cons_succ, List.getElem_cons_zero, List.setIfInBounds_toArray, List.set_cons_zero, List.set_cons_succ]
              refine wpAnyH_take (i := 24) (oi := _) (v := ?_) rfl (by kernel_rfl) (by kernel_rfl) (by kernel_rfl) (fun _ _ _ h => h) (Or.inl ⟨by kernel_rfl, ?_⟩) (by assumption) ?_
              rotate_left
              · (intro w hSw; (try dsimp only at hSw); go_simp; try (with_reducible rfl))
              simp only [Act.put, List.getElem_toArray, List.getElem_cons_succ, List.getElem_cons_zero, List.setIfInBounds_toArray, List.set_cons_zero, List.set_cons_succ]
              refine wpAnyH_take (i := 25) (oi := _) (v := ?_) rfl (by kernel_rfl) (by kernel_rfl) (by kernel_rfl) (fun _ _ _ h => h) (Or.inl ⟨by kernel_rfl, ?_⟩) (by assumption) ?_
              rotate_left
              · (intro w hSw; (try dsimp only at hSw); go_simp; try (with_reducible rfl))
              simp only [Act.put, List.getElem_toArray, List.getElem_cons_succ, List.getElem_cons_zero, List.setIfInBounds_toArray, List.set_cons_zero, List.set_cons_succ]
              refine wpAnyH_done (by kernel_rfl) ?_ _
              refine noOut_normal ?_
              simp only [Exit.then]
              have H6 := Lib.hid HT.out.drop.drop
              clear HT HTL
              gi_wp2
              exact H6.out
            case false =>
              have hne : eqA (NV at0) (NV e.2) = true := by rw [HF3.out heq]; exact eqA_refl _
              refine wpAnyH_take (i := 17) (oi := _) (v := ?_) rfl (by kernel_rfl) (by kernel_rfl) (by kernel_rfl) (fun _ _ _ h => h) (Or.inl ⟨by kernel_rfl, ?_⟩) (by assumption) ?_
              rotate_left
              · (intro w hSw; (try dsimp only at hSw); go_simp; try (with_reducible rfl))
              simp only [Act.put, List.getElem_toArray, List.getElem_cons_succ, List.getElem_cons_zero, List.setIfInBounds_toArray, List.set_cons_zero, List.set_cons_succ]
              refine wpAnyH_take (i := 18) (oi := _) (v := ?_) rfl (by kernel_rfl) (by kernel_rfl) (by kernel_rfl) (fun _ _ _ h => h) (Or.inl ⟨by kernel_rfl, ?_⟩) (by assumption) ?_
              rotate_left
              · (intro w hSw; (try dsimp only at hSw); go_simp; try (with_reducible rfl))
              simp only [Act.put, List.getElem_toArray, List.getElem_cons_succ, List.getElem_cons_zero, List.setIfInBounds_toArray, List.set_cons_zero, List.set_cons_succ]
              refine wpAnyH_take (i := 19) (oi := _) (v := ?_) rfl (by kernel_rfl) (by kernel_rfl) (by kernel_rfl) (fun _ _ _ h => h) (Or.inl ⟨by kernel_rfl, ?_⟩) (by assumption) ?_
              rotate_left
              · (intro w hSw; (try dsimp only at hSw); go_simp; try (with_reducible rfl))
              simp only [Act.put, List.getElem_toArray, List.getElem_cons_succ, List.getElem_cons_zero, List.setIfInBounds_toArray, List.set_cons_zero, List.set_cons_succ]
              refine wpAnyH_take (i := 20) (oi := _) (v := ?_) rfl (by kernel_rfl) (by kernel_rfl) (by kernel_rfl) (fun _ _ _ h => h) (Or.inl ⟨by kernel_rfl, ?_⟩) (by assumption) ?_
              rotate_left
              · (intro w hSw; (try dsimp only at hSw); go_simp; try (with_reducible rfl))
              simp only [Act.put, List.getElem_toArray, List.getElem_cons_succ, List.getElem_cons_zero, List.setIfInBounds_toArray, List.set_cons_zero, List.set_cons_succ]
              refine wpAnyH_take (i := 22) (oi := _) (v := ?_) rfl (by kernel_rfl) (by kernel_rfl) (by kernel_rfl) (fun _ _ _ h => h) (Or.inl ⟨by kernel_rfl, ?_⟩) (by assumption) ?_
              rotate_left
              · (intro w hSw; (try dsimp only at hSw); go_simp; try (with_reducible rfl))
              simp only [Act.put, List.getElem_toArray, List.getElem_cons_succ, List.getElem_cons_zero, List.setIfInBounds_toArray, List.set_cons_zero, List.set_cons_succ]
              refine wpAnyH_ready (rs := [21]) (by kernel_rfl) (by simp) ?_
              refine AllReadyH.cons (o := _) rfl (fun K hK => ?_) AllReadyH.nil
              go_simp
              refine (HBA.out.at (R := _) HTL.out).mono ?_
              rintro e9 w9 ⟨rfl, hb⟩
              have T := HT.out.pure hb
              have TL := HTL.out.pure hb
              clear hb HT HTL
              refine hK.out _ _ (HFS.out _ TL) (fun hHeld => ?_)
              clear hK K
              have HT := Lib.hid T; have HTL := Lib.hid TL
              clear T TL
              refine wpAnyH_take (i := 23) (oi := _) (v := ?_) rfl (by kernel_rfl) (by kernel_rfl) (by kernel_rfl) (fun _ _ _ h => h) (Or.inl ⟨by kernel_rfl, ?_⟩) (by assumption) ?_
              rotate_left
              · (intro w hSw; (try dsimp only at hSw); go_simp; try (with_reducible rfl))
              simp only [Act.put, List.getElem_toArray, List.getElem_cons_succ, List.getElem_cons_zero, List.setIfInBounds_toArray, List.set_cons_zero, List.set_cons_succ]
              refine wpAnyH_take (i := 24) (oi := _) (v := ?_) rfl (by kernel_rfl) (by kernel_rfl) (by kernel_rfl) (fun _ _ _ h => h) (Or.inl ⟨by kernel_rfl, ?_⟩) (by assumption) ?_
              rotate_left
              · (intro w hSw; (try dsimp only at hSw); go_simp; try (with_reducible rfl))
              simp only [Act.put, List.getElem_toArray, List.getElem_cons_succ, List.getElem_cons_zero, List.setIfInBounds_toArray, List.set_cons_zero, List.set_cons_succ]
              refine wpAnyH_take (i := 25) (oi := _) (v := ?_) rfl (by kernel_rfl) (by kernel_rfl) (by kernel_rfl) (fun _ _ _ h => h) (Or.inl ⟨by kernel_rfl, ?_⟩) (by assumption) ?_
              rotate_left
              · (intro w hSw; (try dsimp only at hSw); go_simp; try (with_reducible rfl))
              simp only [Act.put, List.getElem_toArray, List.getElem_cons_succ, List.getElem_cons_zero, List.setIfInBounds_toArray, List.set_cons_zero, List.set_cons_succ]
              refine wpAnyH_done (by kernel_rfl) ?_ _
              refine noOut_normal ?_
              simp only [Exit.then]
              have H6 := Lib.hid HT.out.drop.drop
              clear HT HTL
              gi_wp2
              exact H6.out
          case done =>
            intro D1 W1 T1
            have T1 : Sts W (fun k => k = 0) W1 (objR D1 (.deferred (some [])) :: rowR c7 #[.pointer (some ⟨g, 0, none⟩)] :: rowsIR g m2 :: idxR s lg bk bs I2 :: rowR lg (ledCells p g m2.n) :: plR p D2 safe2 :: kndR t :: rowR gz (MV out) :: rowR gx (MV x) :: rowR g11 #[.pointer (some ⟨b, 0, none⟩)] :: bookR b (ents m) :: rowR g6 #[.bool false] :: marksR Ds :: []) := T1
            have T2 := (T1.ord [0, 12, 3, 4, 5, 2, 6, 11, 1, 7, 8, 9, 10]).marksCons
            have T3 := (T2.ord [7, 8, 9, 10, 11, 1, 2, 3, 4, 5, 6, 0]).drop.drop.drop.drop.drop
            have HT := Lib.hid T3
            clear T1 T2 T3 HT7
            go_wp2
            refine Handed.intro (l.length - (j + 1)) (by omega) (hJ _ _ _ ⟨j + 1, (D1 :: Ds), I2, D2, safe2, m2, ?_⟩)
            iterate 77 apply Exists.intro
            exact ⟨rfl, ⟨by go_num, by omega, rfl, HI3.out, HVL2.out⟩, HT.out⟩
          case stop =>
            intro D1 c1 k W1 _ _ T1
            exact (Sts.no T1.drop).elim
    · obtain rfl : j = l.length := by omega
      clear hJ hK0
      have T1 := T.ord [5, 4, 0, 1, 2, 3, 6]
      have r8 := T1.row; have l8 := row_lt r8; have c8 := row_cell r8 0; have f8 := row_frozen r8 0
      have T2 := (T1.setCell 0 (.bool true)).ord [6, 0, 1, 2, 3, 4, 5]
      have HT := Lib.hid T2
      clear T T1 T2
      go_wp2
      refine retMs (Ds := Ds) HT.out (fun W' TW => ⟨results_cellF rfl rfl (row_cell TW.row 0) Tryz.underlying4 rfl, rfl, ?_⟩) rfl
      first | exact HB.out _ _ TW.drop | (rw [hg6]; exact HB.out _ _ TW.drop)
end Go.Proofs.YtfgacjglfdehbaaGreatDoor
