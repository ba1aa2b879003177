/- Several texts in one. -/
import Derived.Test.YtpganpiidgkofaaZ37
import Derived.Test.YtpganpiidgkofaaZ32
/- Layer 9: what a ledger knows, as a book. -/
namespace Go.Proofs.Ytpganpiidgkofaa
open Go.RowKit Go.Shelf
set_option linter.unusedVariables false
set_option maxRecDepth 20000
attribute [local go_sem] Oper.semAt_some
attribute [local go_sem] row_alloc row_drew row_drewN row_ext row_setCell row_setRow size_ext setRow_alloc setRow_drew loadOf storeOf piece_lit loadVal_at storeVal_at allOne_lit buildOf buildRes_some
attribute [local go_sem high] cell_alloc frozen_alloc setCell_alloc cell_ext frozen_ext cell_setRow frozen_setRow
attribute [local go_sem ↓] TDeed_ld0 TDeed_st0 TDeed_fd0 TDeed_bd0
attribute [local go_sem] TDeed_size TDeed_one TDeed_piece TDeed_c0 TDeed_c1 TDeed_c2 TDeed_c3 TDeed_c4 TDeed_c5 TDeed_set_kind TDeed_set_key TDeed_set_val TDeed_set_ver TDeed_set_ses TDeed_set_num TDeed_ld TDeed_st TDeed_f_kind TDeed_f_key TDeed_f_val TDeed_f_ver TDeed_f_ses TDeed_f_num TDeed_bd TDeed_fl TDeed_fl_kind TDeed_fl_key TDeed_fl_val TDeed_fl_ver TDeed_fl_ses TDeed_fl_num
attribute [local go_sem high] TDeed_eql TDeed_neq
attribute [local go_sem ↓] index_deps0 load_deps0 store_deps0
attribute [local go_sem] DV_piece DV_size DV_one index_deps load_deps store_deps
attribute [local go_sem high] TDeps_eql TDeps_neq
attribute [local go_sem ↓] TCall_ld0 TCall_st0 TCall_fd0 TCall_bd0
attribute [local go_sem] TCall_size TCall_one TCall_piece TCall_c0 TCall_c1 TCall_c2 TCall_c3 TCall_c4 TCall_c5 TCall_c6 TCall_c7 TCall_c8 TCall_c9 TCall_c10 TCall_c11 TCall_c12 TCall_c13 TCall_p_deed TCall_put_deed TCall_p_deps TCall_put_deps TCall_set_seq TCall_ld TCall_st TCall_f_deed TCall_f_deps TCall_f_seq TCall_bd TCall_fl TCall_fl_deed TCall_fl_deps TCall_fl_seq
attribute [local go_sem high] TCall_eql TCall_neq
attribute [local go_sem ↓] TItem_ld0 TItem_st0 TItem_fd0 TItem_bd0
attribute [local go_sem] TItem_size TItem_one TItem_piece TItem_c0 TItem_c1 TItem_set_rep TItem_set_num TItem_ld TItem_st TItem_f_rep TItem_f_num TItem_bd TItem_fl TItem_fl_rep TItem_fl_num
attribute [local go_sem high] TItem_eql TItem_neq
attribute [local go_sem ↓] TBallot_ld0 TBallot_st0 TBallot_fd0 TBallot_bd0
attribute [local go_sem] TBallot_size TBallot_one TBallot_piece TBallot_c0 TBallot_c1 TBallot_set_round TBallot_set_rep TBallot_ld TBallot_st TBallot_f_round TBallot_f_rep TBallot_bd TBallot_fl TBallot_fl_round TBallot_fl_rep
attribute [local go_sem high] TBallot_eql TBallot_neq
attribute [local go_sem ↓] TInst_ld0 TInst_st0 TInst_fd0 TInst_bd0
attribute [local go_sem] TInst_size TInst_one TInst_piece TInst_c0 TInst_c1 TInst_c2 TInst_c3 TInst_c4 TInst_c5 TInst_c6 TInst_c7 TInst_c8 TInst_c9 TInst_c10 TInst_c11 TInst_c12 TInst_c13 TInst_c14 TInst_c15 TInst_c16 TInst_c17 TInst_c18 TInst_c19 TInst_p_prom TInst_put_prom TInst_p_vote TInst_put_vote TInst_set_status TInst_p_call TInst_put_call TInst_set_same TInst_ld TInst_st TInst_f_prom TInst_f_vote TInst_f_status TInst_f_call TInst_f_same TInst_bd TInst_fl TInst_fl_prom TInst_fl_vote TInst_fl_status TInst_fl_call TInst_fl_same
attribute [local go_sem high] TInst_eql TInst_neq
theorem bookR_calm (B b : Nat) (L : List Ent) : (bookR b L).calm B := exR_calm fun q => packR_calm (calmL_cons (rowR_calm _ _ _) (calmL_cons (vecR_calm _ _ _ _ _ _) (calmL_cons (vecR_calm _ _ _ _ _ _) (calmL_nil _))))
section
variable {w W : World} {F : Nat → Prop} {R : List Res} {l p g : Nat} {D : List UInt8} {safe : Nat} {m : RowsM}
def BookPost (w : World) (F : Nat → Prop) (R : List Res) (l p g : Nat) (D : List UInt8) (safe : Nat) (m : RowsM) (e : Ending) (W' : World) : Prop := ∃ b, e = .returned (.pointer (some ⟨b, 0, none⟩)) ∧ Sts w F W' (bookR b (ents m) :: (ledL l p g D safe m ++ R))
set_option maxHeartbeats 4000000 in
theorem bookT (hm : RowsOk m) (T : Sts w F W (ledL l p g D safe m ++ R)) :
    Calls Try.prog 25 #[.pointer (some ⟨l, 0, none⟩)] W (BookPost w F R l p g D safe m) := by
  refine (callsIn_wide (n := 4)).1 ?_
  refine callsIn_of_wp_marks Try.func25 rfl trivial ?_ rfl
  simp only [Try.ntmps25, List.size_toArray, List.length_cons, List.length_nil, Nat.reduceAdd, Nat.reduceSub, Array.replicate_succ, Array.replicate_zero, List.push_toArray, List.append_toArray, List.nil_append, List.cons_append]
  refine wpIn_wide.2 ?_
  have T1 := T.bookNew.new #[.pointer (some ⟨W.heap.size, 0, none⟩)] 47
  rw [World.size_alloc] at T1
  have T1 : Sts w F _ (rowR (W.heap.size + 1) #[.pointer (some ⟨W.heap.size, 0, none⟩)] :: bookR W.heap.size [] :: rowR l (ledCells p g m.n) :: plR p D safe :: rowsIR g m :: R) := T1
  have T1 := T1.ord [2, 0, 1]
  have HT1 := Lib.hid T1
  clear T1 T
  go_wp2_with fail
  refine (ledAllT HT1.out).mono ?_
  clear HT1
  rintro e w1 ⟨rfl, T⟩
  have HT := Lib.hid T; clear T
  go_wp2_with fail
  have T := HT.out; clear HT
  simp only [World.size_alloc] at T ⊢
  generalize hc : W.heap.size + 1 + 1 = c at *
  generalize hb : W.heap.size + 1 = b at *
  generalize hb0 : W.heap.size = b0 at *
  clear hc hb hb0
  have T0 : Sts w F w1 ([bookR b0 ((ents m).take 0)] ++ (iterIR c g m ++ rowR b #[.pointer (some ⟨b0, 0, none⟩)] :: rowR l (ledCells p g m.n) :: plR p D safe :: R)) := by
    have := T.ord [3, 0, 5, 2, 1, 4]
    exact this
  clear T
  refine (wpIn_wide (n := 4)).1 ?_
  refine wp_rangeSts (gf := 116) (lb := #[.pointer (some ⟨c, 0, none⟩)]) (enc := fun x : Item × Inst => #[.agg (IV x.1), .agg (NV x.2)]) (xs := ents m)
    (fun k => [bookR b0 ((ents m).take k)]) (fun _ _ => [noR]) (iterIR c g m ++ rowR b #[.pointer (some ⟨b0, 0, none⟩)] :: rowR l (ledCells p g m.n) :: plR p D safe :: R)
    (fun k x a' own' => ∃ b1 b2, own' = [rowR b2 (NV x.2), rowR b1 (IV x.1), bookR b0 ((ents m).take k)] ∧ a' = { tmps := #[.pointer (some ⟨l, 0, none⟩), undef, .pointer none, .pointer (some ⟨b, 0, none⟩), .pointer (some ⟨b1, 0, none⟩), .pointer (some ⟨b2, 0, none⟩), .agg #[.slice none 0 0, .slice none 0 0], .pointer (some ⟨b0, 0, none⟩), .pointer (some ⟨l, 0, none⟩), .func (.func 116) #[] #[.pointer (some ⟨c, 0, none⟩)], .agg (IV x.1), .agg (NV x.2), undef, undef, undef, undef, undef], defers := [] })
    rfl (enters_of Try.func116 (by kernel_rfl) rfl) (fun _ => rfl) (Gives.part fun H hS => irAllG c g m hm _ H hS) T0 ?calm ?calmX ?assign ?body ?done ?stop
  case calm => exact fun k => calmL_cons (bookR_calm _ _ _) (calmL_nil _)
  case calmX => exact fun _ _ => calmL_cons (noR_calm _) (calmL_nil _)
  case assign =>
    intro lr k x W1 G1 K hx T1 hK
    have T2 := ((T1.new (IV x.1) 42).new (NV x.2) 39)
    rw [World.size_alloc] at T2
    have HT2 := Lib.hid T2
    clear T0 T1 T2
    gi_wp2
    exact hK _ _ _ ⟨_, _, rfl, rfl⟩ HT2.out
  case body =>
    rintro lr k x _ _ W1 G1 hx ⟨b1, b2, rfl, rfl⟩ T1 hread
    clear T0
    obtain ⟨F', w', TL⟩ := hread T1
    have TL : Sts w' F' W1 (rowR b2 (NV x.2) :: rowR b1 (IV x.1) :: bookR b0 ((ents m).take k) :: rowR c #[.pointer (some ⟨g, 0, none⟩)] :: rowsIR g m :: rowR b #[.pointer (some ⟨b0, 0, none⟩)] :: rowR l (ledCells p g m.n) :: plR p D safe :: R) := TL
    have rb := (TL.ord [5, 0, 1, 2, 3, 4]).row
    have lb := row_lt rb
    have cb : W1.cell? ⟨b, 0, none⟩ = some (.pointer (some ⟨b0, 0, none⟩)) := row_cell rb 0
    have r1 := T1.row; have r2 := T1.row1; have l1 := row_lt r1; have l2 := row_lt r2
    have hnx := setB_ents hm hx
    have hlen : ((ents m).take k).length ≤ 1000000 := by
      have h2 := ents_len hm
      have h3 : ((ents m).take k).length ≤ (ents m).length := List.length_take_le' _ _
      omega
    have hset := bookSetD b0 ((ents m).take k) hlen x.1 x.2
    rw [hnx] at hset
    have HSET := Lib.hid hset; have HT := Lib.hid T1
    clear hset hnx hlen TL hread T1 rb
    gi_wp2_with fail
    refine ⟨trivial, ?_⟩
    refine (CallsIn.inRound lr (callsIn_wide.2 (Does.at (R := [rowR b2 (NV x.2), rowR b1 (IV x.1)]) HSET.out (HT.out.ord [2, 0, 1])))).mono ?_
    rintro e w2 ⟨rfl, T⟩
    have T6 := (T.ord [1, 2, 0]).drop.drop
    have H6 := Lib.hid T6; clear T T6 HT HSET cb r1 r2
    gi_wp2
    exact H6.out
  case done =>
    intro D1 W1 T1
    clear T0
    rw [List.take_length] at T1
    have T1 : Sts w F W1 (objR D1 (.deferred (some [])) :: bookR b0 (ents m) :: rowR c #[.pointer (some ⟨g, 0, none⟩)] :: rowsIR g m :: rowR b #[.pointer (some ⟨b0, 0, none⟩)] :: rowR l (ledCells p g m.n) :: plR p D safe :: R) := T1
    have T2 := (T1.ord [2, 4, 0, 1, 5, 6, 3])
    have rb := T2.row1
    have lb := row_lt rb
    have cb : W1.cell? ⟨b, 0, none⟩ = some (.pointer (some ⟨b0, 0, none⟩)) := row_cell rb 0
    have T3 := (T2.drop.ord [1, 0])
    have hD := T3.obj
    have T6 : Sts w F (W1.putObj D1 (.deferred none)) (bookR b0 (ents m) :: (ledL l p g D safe m ++ R)) := (T3.putObj (.deferred none)).drop.drop
    have HT := Lib.hid T6; have HD := Lib.hid hD; clear T1 T2 T3 T6 hD
    go_wp2
    exact retM1 HD.out (results_tmp rfl _ _ _) ⟨b0, rfl, HT.out⟩ rfl
  case stop =>
    intro D1 c1 k W1 _ _ T1
    exact (Sts.no T1.drop).elim
end
end Go.Proofs.Ytpganpiidgkofaa
