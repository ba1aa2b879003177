/- Several texts in one. -/
import Derived.Test.YtomlilkobhkoiaaGreatDoorQ28
import Derived.Test.YtomlilkobhkoiaaGreatDoorQ43
import Derived.Deep.Cut
/- Layer 22: a replica is opened, on a plate on which there is nothing. -/
namespace Go.Proofs.YtomlilkobhkoiaaGreatDoor
open Go.RowKit Go.Shelf
set_option linter.unusedVariables false
set_option maxRecDepth 20000
attribute [local go_sem] Oper.semAt_some mkMapR
attribute [local go_sem] row_alloc row_drew row_drewN row_ext row_setCell row_setRow size_ext setRow_alloc setRow_drew loadOf storeOf piece_lit loadVal_at storeVal_at allOne_lit buildOf buildRes_some
attribute [local go_sem high] cell_alloc frozen_alloc setCell_alloc cell_ext frozen_ext cell_setRow frozen_setRow
attribute [local go_sem ↓] TItem_ld0 TItem_st0 TItem_fd0 TItem_bd0
attribute [local go_sem] TItem_size TItem_one TItem_piece TItem_c0 TItem_c1 TItem_set_rep TItem_set_num TItem_ld TItem_st TItem_f_rep TItem_f_num TItem_bd TItem_fl TItem_fl_rep TItem_fl_num
attribute [local go_sem high] TItem_eql TItem_neq
attribute [local go_sem ↓] TBallot_ld0 TBallot_st0 TBallot_fd0 TBallot_bd0
attribute [local go_sem] TBallot_size TBallot_one TBallot_piece TBallot_c0 TBallot_c1 TBallot_set_round TBallot_set_rep TBallot_ld TBallot_st TBallot_f_round TBallot_f_rep TBallot_bd TBallot_fl TBallot_fl_round TBallot_fl_rep
attribute [local go_sem high] TBallot_eql TBallot_neq
attribute [local go_sem ↓] TCall_ld0 TCall_st0 TCall_fd0 TCall_bd0
attribute [local go_sem] TCall_size TCall_one TCall_piece TCall_c0 TCall_c1 TCall_c2 TCall_c3 TCall_c4 TCall_c5 TCall_c6 TCall_c7 TCall_c8 TCall_c9 TCall_c10 TCall_c11 TCall_c12 TCall_c13 TCall_p_deed TCall_put_deed TCall_p_deps TCall_put_deps TCall_set_seq TCall_ld TCall_st TCall_f_deed TCall_f_deps TCall_f_seq TCall_bd TCall_fl TCall_fl_deed TCall_fl_deps TCall_fl_seq
attribute [local go_sem high] TCall_eql TCall_neq
attribute [local go_sem ↓] TDeed_ld0 TDeed_st0 TDeed_fd0 TDeed_bd0
attribute [local go_sem] TDeed_size TDeed_one TDeed_piece TDeed_c0 TDeed_c1 TDeed_c2 TDeed_c3 TDeed_c4 TDeed_c5 TDeed_set_kind TDeed_set_key TDeed_set_val TDeed_set_ver TDeed_set_ses TDeed_set_num TDeed_ld TDeed_st TDeed_f_kind TDeed_f_key TDeed_f_val TDeed_f_ver TDeed_f_ses TDeed_f_num TDeed_bd TDeed_fl TDeed_fl_kind TDeed_fl_key TDeed_fl_val TDeed_fl_ver TDeed_fl_ses TDeed_fl_num
attribute [local go_sem high] TDeed_eql TDeed_neq
attribute [local go_sem ↓] index_deps0 load_deps0 store_deps0
attribute [local go_sem] DV_piece DV_size DV_one index_deps load_deps store_deps
attribute [local go_sem high] TDeps_eql TDeps_neq
attribute [local go_sem ↓] TInst_ld0 TInst_st0 TInst_fd0 TInst_bd0
attribute [local go_sem] TInst_size TInst_one TInst_piece TInst_c0 TInst_c1 TInst_c2 TInst_c3 TInst_c4 TInst_c5 TInst_c6 TInst_c7 TInst_c8 TInst_c9 TInst_c10 TInst_c11 TInst_c12 TInst_c13 TInst_c14 TInst_c15 TInst_c16 TInst_c17 TInst_c18 TInst_c19 TInst_p_prom TInst_put_prom TInst_p_vote TInst_put_vote TInst_set_status TInst_p_call TInst_put_call TInst_set_same TInst_ld TInst_st TInst_f_prom TInst_f_vote TInst_f_status TInst_f_call TInst_f_same TInst_bd TInst_fl TInst_fl_prom TInst_fl_vote TInst_fl_status TInst_fl_call TInst_fl_same
attribute [local go_sem high] TInst_eql TInst_neq
attribute [local go_sem ↓] TMsg_ld0 TMsg_st0 TMsg_fd0 TMsg_bd0
attribute [local go_sem] TMsg_size TMsg_one TMsg_piece TMsg_c0 TMsg_c1 TMsg_c2 TMsg_c3 TMsg_c4 TMsg_c5 TMsg_c6 TMsg_c7 TMsg_c8 TMsg_c9 TMsg_c10 TMsg_c11 TMsg_c12 TMsg_c13 TMsg_c14 TMsg_c15 TMsg_c16 TMsg_c17 TMsg_c18 TMsg_c19 TMsg_c20 TMsg_c21 TMsg_c22 TMsg_c23 TMsg_c24 TMsg_set_kind TMsg_set_frm TMsg_set_to TMsg_p_item TMsg_put_item TMsg_p_bal TMsg_put_bal TMsg_p_vote TMsg_put_vote TMsg_set_status TMsg_set_same TMsg_p_call TMsg_put_call TMsg_ld TMsg_st TMsg_f_kind TMsg_f_frm TMsg_f_to TMsg_f_item TMsg_f_bal TMsg_f_vote TMsg_f_status TMsg_f_same TMsg_f_call TMsg_bd TMsg_fl TMsg_fl_kind TMsg_fl_frm TMsg_fl_to TMsg_fl_item TMsg_fl_bal TMsg_fl_vote TMsg_fl_status TMsg_fl_same TMsg_fl_call
attribute [local go_sem high] TMsg_eql TMsg_neq
def sel : Bool → Value → Value
 | true, v => v
 | false, _ => undef
def opt : Bool → Res → Res
 | true, r => r
 | false, _ => packR []
theorem sel_t (v : Value) : sel true v = v := rfl
attribute [local go_sem] sel_t
abbrev opL (l4 l5 l8 l10 l11 l12 l13 l14 l15 l16 l17 : Bool) : Array Bool := #[true, true, true, true, l4, l5, true, true, l8, true, l10, l11, l12, l13, l14, l15, l16, l17]
abbrev opA (p n s b7 sp : Nat) (v12 v43 v44 v47 v49 v50 v51 v52 v53 v54 : Value) : Act := { tmps := List.toArray (.pointer (some ⟨p, 0, none⟩) :: .int .i64 ↑n :: .int .i64 ↑s :: .int .i64 0 :: undef :: undef :: undef :: .pointer (some ⟨b7, 0, none⟩) :: .pointer none :: .int .i64 0 :: .pointer (some ⟨sp, 0, none⟩) :: .int .i64 0 :: v12 :: undef :: undef :: .int .i64 ↑s :: .bool false :: .bool false :: .int .i64 ↑s :: .int .i64 ↑n :: .bool false :: .bool false :: .bool false :: .int .i64 0 :: .bool false :: .bool false :: .bool false :: .int .i64 0 :: .bool false :: .bool false :: .tuple #[.pointer (some ⟨sp, 0, none⟩), .int .i64 0] :: .pointer (some ⟨p, 0, none⟩) :: .int .i64 ↑n :: .tuple #[.pointer (some ⟨sp, 0, none⟩), .int .i64 0] :: .pointer (some ⟨sp, 0, none⟩) :: .int .i64 0 :: .int .i64 0 :: .bool false :: undef :: .int .i64 ↑n :: .int .i64 ↑s :: .int .i64 0 :: .pointer (some ⟨sp, 0, none⟩) :: v43 :: v44 :: .int .i64 ↑n :: .int .i64 ↑s :: v47 :: .int .i64 ↑n :: v49 :: v50 :: v51 :: v52 :: v53 :: v54 :: undef :: undef :: undef :: undef :: undef :: undef :: undef :: undef :: undef :: undef :: undef :: undef :: undef :: undef :: undef :: undef :: undef :: undef :: undef :: undef :: undef :: undef :: undef :: undef :: undef :: undef :: []), defers := [] }
abbrev opT (n s b7 b4 b5 b12 b15 b16 bp bw bt br gg : Nat) (q : RpB) (SP : Res) (t : TypeId) (l4 l5 l8 l10 l12 l15 l16 l17 : Bool) (R : List Res) : List Res :=
 rowR b7 #[.int .i64 0] :: opt l4 (ldsR b4 0 (fun _ => none)) :: opt l5 (ldsR b5 0 (fun _ => none)) :: opt l12 (mineR b12 0 (fun _ => none)) :: opt l8 (packR [pcR bp bw bt n s, rowR bw #[.slice none 0 0, .int .i64 0], skR (.slice none 0 0) [], trR bt]) :: opt l10 (rnR br gg) ::
  opt l15 (rowR b15 (rpV q n s (.slice none 0 0) (.slice none 0 0))) :: opt l16 (rowR b16 #[match l17 with | true => .pointer (some ⟨b15, 0, none⟩) | false => .pointer none]) :: SP :: kndR t :: R
abbrev opC (l4 l5 l8 l10 l11 l12 l13 l14 l15 l16 l17 : Bool) : Bool := (!l14 || (l4 && l5 && l8 && l10 && l11 && l12 && l13)) && (!l15 || l14) && (!l17 || (l15 && l16))
/-- What holds while the parts of a replica are made, whatever has been made so far. -/
def opI (p n s b7 sp : Nat) (SP : Res) (t : TypeId) (w : World) (F : Nat → Prop) (R : List Res) (L : Array Bool) (a : Act) (w' : World) : Prop :=
 ∃ (l4 l5 l8 l10 l11 l12 l13 l14 l15 l16 l17 : Bool) (b4 b5 b12 b13 b15 b16 bp bw bt br gg gm : Nat), L = opL l4 l5 l8 l10 l11 l12 l13 l14 l15 l16 l17 ∧ opC l4 l5 l8 l10 l11 l12 l13 l14 l15 l16 l17 = true ∧
  a = opA p n s b7 sp (sel l16 (.pointer (some ⟨b16, 0, none⟩))) (sel l4 (.map (some b4))) (sel l5 (.map (some b5))) (sel l8 (.pointer (some ⟨bp, 0, none⟩))) (sel l10 (.pointer (some ⟨br, 0, none⟩))) (sel l11 (.pointer (some ⟨gm, 0, none⟩))) (sel l12 (.map (some b12))) (sel l13 (.map (some b13))) (sel l14 (.agg (rpV ⟨sp, b4, b5, bp, br, gm, b12, b13⟩ n s (.slice none 0 0) (.slice none 0 0)))) (sel l15 (.pointer (some ⟨b15, 0, none⟩))) ∧
  Sts w F w' (opT n s b7 b4 b5 b12 b15 b16 bp bw bt br gg ⟨sp, b4, b5, bp, br, gm, b12, b13⟩ SP t l4 l5 l8 l10 l12 l15 l16 l17 R)
def rpS (p : Array (Nat × Value)) : Sem Value := Instr.build 59 p
theorem rp_bd0 (p : Array (Nat × Value)) : Instr.build 59 p = rpS p := rfl
theorem rp_bd (n s : Int) (sp b4 b5 bp br gm b12 b13 : Nat) (w : World) : (rpS #[(0, .int .i64 n), (1, .int .i64 s), (2, .int .i64 0), (3, .pointer (some ⟨sp, 0, none⟩)), (4, .map (some b4)), (5, .map (some b5)), (6, .pointer (some ⟨bp, 0, none⟩)), (7, .pointer (some ⟨br, 0, none⟩)), (8, .pointer (some ⟨gm, 0, none⟩)), (9, .map (some b12)), (10, .map (some b13))]).run Tryz.prog w = .ok (.agg (rpV ⟨sp, b4, b5, bp, br, gm, b12, b13⟩ n s (.slice none 0 0) (.slice none 0 0))) w := by kernel_rfl
attribute [local go_sem ↓] rp_bd0
attribute [local go_sem] rp_bd
section
variable {w W : World} {F : Nat → Prop} {R : List Res} {p s f : Nat} {t : TypeId}
set_option maxHeartbeats 32000000 in
theorem rpOpenT (hf : 1 ≤ f ∧ f ≤ 3) (hs : s < 2 * f + 1) (T : Sts w F W (plR p [] 0 :: kndR t :: R)) :
  Calls Tryz.prog 5 #[.pointer (some ⟨p, 0, none⟩), .int .i64 (2 * f + 1 : Nat), .int .i64 s, .int .i64 0] W fun e W' => ∃ (g : Nat) (q : RpB) (lg gx bk bs : Nat) (I : Idx) (D : List UInt8) (safe : Nat) (m : RowsM) (bw bt gg : Nat), e = .returned (.tuple #[.pointer (some ⟨g, 0, none⟩), .int .i64 0]) ∧ VotI (2 * f + 1 : Nat) 0 I D m ∧ topM m s = ((0 : Nat) : Int) ∧
   Sts w F W' (spL q.sp lg p gx bk bs I D safe m ++ (kndR t :: rowR g (rpV q (2 * f + 1 : Nat) s (.slice none 0 0) (.slice none 0 0)) :: emptR 25 (.slice none 0 0) :: vecR 148 3 (.slice none 0 0) 0 [] :: mineR q.mm 0 (fun _ => none) :: (rpIdle q 0 (fun _ => none) (2 * f + 1) s bw bt (.slice none 0 0) 0 [] gg ++ R))) := by
 obtain ⟨n, hn⟩ : ∃ n, n = 2 * f + 1 := ⟨_, rfl⟩
 have hsz : sizeB (n : Int) = true := by unfold sizeB; simp; omega
 rw [← hn]
 have hsn1 : ¬ (s : Int) < 0 := by omega
 have hsn2 : ¬ (n : Int) ≤ (s : Int) := by omega
 have hlen : ([] : List UInt8).length ≤ 65536 := by simp
 have T1 := T.new #[.int .i64 0] 3
 have rb := T1.row; have lb := row_lt rb; have cb := row_cell rb 0
 have hso : Calls Tryz.prog 12 #[.pointer (some ⟨p, 0, none⟩), .int .i64 n] (W.alloc (.cells #[.int .i64 0] 3)) fun e W' => ∃ sp lg gx bk bs I D safe m, e = .returned (.tuple #[.pointer (some ⟨sp, 0, none⟩), .int .i64 0]) ∧ VotI n 0 I D m ∧ (topM m s = ((0 : Nat) : Int) ∧ ents m = []) ∧ Sts w F W' (packR (spL sp lg p gx bk bs I D safe m) :: rowR W.heap.size #[.int .i64 0] :: kndR t :: R) := by
  refine (spOpenT (T1.ord [1, 0, 2]) hlen (n : Int) hsz).mono ?_
  intro e W' h
  unfold SpPost at h
  obtain ⟨sp, lg, gx, bk, bs, he, T⟩ := h
  have hv := VotI.open hsz
  have ht : topM (mK (n : Int) (goT n [])) s = ((0 : Nat) : Int) := by
   rw [goT_nil]
   show (if _ then (([] : List (Option Inst)).length : Int) else 0) = _
   simp
  have hen : ents (mK (n : Int) (goT n [])) = [] := by
   rw [goT_nil]
   exact ents_nil (by omega)
  exact ⟨sp, lg, gx, bk, bs, _, _, _, _, he, hv, ⟨ht, hen⟩, Sts.pack (L := spL sp lg p gx bk bs _ _ _ _) T⟩
 have HSO := Lib.hid hso
 have HN := Lib.hid hn
 have HN1 := Lib.hid (show (1 : Int) ≤ (n : Int) ∧ (n : Int) ≤ 7 by omega)
 clear T T1 hso hn hs hf hsz hlen
 refine (callsIn_wide (n := 4)).1 ?_
 refine callsIn_of_wp_marks Tryz.func5 rfl trivial ?_ rfl
 simp only [Tryz.ntmps5, List.size_toArray, List.length_cons, List.length_nil, Nat.reduceAdd, Nat.reduceSub, Array.replicate_succ, Array.replicate_zero, List.push_toArray, List.append_toArray, List.nil_append, List.cons_append]
 refine wpIn_wide.2 ?_
 go_wp2_with fail
 refine HSO.out.mono ?_
 clear HSO rb lb cb
 rintro e2 w2 ⟨sp, lg, gx, bk, bs, I, D, safe, m, rfl, hv, htm, T⟩
 generalize W.heap.size = b7 at *
 have HT := Lib.hid T; have HV := Lib.hid hv; have HTM := Lib.hid htm; clear T hv htm
 go_upto_region 6 with fail
 go_cut [12] from 39 to 54 (fun u12 wx => ∃ (b g : Nat) (q : RpB) (bw bt gg : Nat), u12 = .pointer (some ⟨b, 0, none⟩) ∧ q.sp = sp ∧ Sts w F wx (rowR b #[.pointer (some ⟨g, 0, none⟩)] :: rowR g (rpV q n s (.slice none 0 0) (.slice none 0 0)) :: packR (spL sp lg p gx bk bs I D safe m) :: rowR b7 #[.int .i64 0] :: kndR t :: ldsR q.ml 0 (fun _ => none) :: ldsR q.mr 0 (fun _ => none) :: mineR q.mm 0 (fun _ => none) :: pcR q.bp bw bt n s :: rowR bw #[.slice none 0 0, .int .i64 0] :: skR (.slice none 0 0) [] :: trR bt :: rnR q.br gg :: R))
 case first =>
  have FS : ∀ W' R', Sts w F W' (rowR b7 #[.int .i64 0] :: R') → W'.cell? ⟨b7, 0, none⟩ = some (.int .i64 0) := fun W' R' T' => row_cell T'.row 0
  have HT2 := Lib.hid (HT.out.drew.ord [1, 0])
  have S0 := FS _ _ HT2.out
  have HFS := Lib.hid FS
  clear FS HT
  refine wp_region_noPanic ?_
  refine wp_region_held_drew (S := fun W' => W'.cell? ⟨b7, 0, none⟩ = some (.int .i64 0)) (by kernel_rfl) S0 (fun hHeld => ?_)
  clear S0
  generalize w2.drew = w3 at *
  refine tkH 0 rfl ?_
  simp only [Act.put, List.setIfInBounds_toArray, List.set_cons_zero, List.set_cons_succ]
  refine tkH 1 rfl ?_
  go_frame
  refine tkH 2 rfl ?_
  go_frame
  refine tkH 3 rfl ?_
  go_frame
  refine tkH 6 rfl ?_
  go_frame
  refine tkH 7 rfl ?_
  go_frame
  refine tkH 9 rfl ?_
  go_frame
  refine wpAnyH_inv (Inv := opI p n s b7 sp (packR (spL sp lg p gx bk bs I D safe m)) t w F R) ?hS ?hstep ?hdone _ _ _ _ (Nat.le_of_ble_eq_true (by kernel_rfl)) ?hstart
  case hS =>
   rintro L a w' ⟨l4, l5, l8, l10, l11, l12, l13, l14, l15, l16, l17, b4, b5, b12, b13, b15, b16, bp, bw, bt, br, gg, gm, rfl, hc, rfl, T⟩
   exact HFS.out _ _ T
  case hstart =>
   refine ⟨false, false, false, false, false, false, false, false, false, false, false, 0, 0, 0, 0, 0, 0, 0, 0, 0, 0, 0, 0, by kernel_rfl, rfl, rfl, ?_⟩
   have T1 := HT2.out
   have T2 : Sts w F w3 (packR [] :: packR [] :: packR [] :: packR [] :: packR [] :: packR [] :: packR [] :: rowR b7 #[.int .i64 0] :: packR (spL sp lg p gx bk bs I D safe m) :: kndR t :: R) := Sts.pack (L := []) (Sts.pack (L := []) (Sts.pack (L := []) (Sts.pack (L := []) (Sts.pack (L := []) (Sts.pack (L := []) (Sts.pack (L := []) T1))))))
   have T3 := T2.ord [7, 0, 1, 2, 3, 4, 5, 6]
   exact T3
  case hdone =>
   rintro L a w' ⟨l4, l5, l8, l10, l11, l12, l13, l14, l15, l16, l17, b4, b5, b12, b13, b15, b16, bp, bw, bt, br, gg, gm, rfl, hc, rfl, T⟩ hr
   have hno := List.eq_nil_iff_forall_not_mem.1 hr
   clear hr
   obtain rfl : l4 = true := by
    cases l4
    ·refine (hno 4 (mem_ready.2 ⟨rfl, _, rfl, ?_⟩)).elim
     intro e he _
     simp at he <;> (repeat' (rcases he with he | he)) <;> (first | rfl | (subst he; rfl))
    ·rfl
   obtain rfl : l5 = true := by
    cases l5
    ·refine (hno 5 (mem_ready.2 ⟨rfl, _, rfl, ?_⟩)).elim
     intro e he _
     simp at he <;> (repeat' (rcases he with he | he)) <;> (first | rfl | (subst he; rfl))
    ·rfl
   obtain rfl : l12 = true := by
    cases l12
    ·refine (hno 12 (mem_ready.2 ⟨rfl, _, rfl, ?_⟩)).elim
     intro e he _
     simp at he <;> (repeat' (rcases he with he | he)) <;> (first | rfl | (subst he; rfl))
    ·rfl
   obtain rfl : l13 = true := by
    cases l13
    ·refine (hno 13 (mem_ready.2 ⟨rfl, _, rfl, ?_⟩)).elim
     intro e he _
     simp at he <;> (repeat' (rcases he with he | he)) <;> (first | rfl | (subst he; rfl))
    ·rfl
   obtain rfl : l16 = true := by
    cases l16
    ·refine (hno 16 (mem_ready.2 ⟨rfl, _, rfl, ?_⟩)).elim
     intro e he _
     simp at he <;> (repeat' (rcases he with he | he)) <;> (first | rfl | (subst he; rfl))
    ·rfl
   obtain rfl : l8 = true := by
    cases l8
    ·refine (hno 8 (mem_ready.2 ⟨rfl, _, rfl, ?_⟩)).elim
     intro e he _
     simp at he <;> (repeat' (rcases he with he | he)) <;> (first | rfl | (subst he; rfl))
    ·rfl
   obtain rfl : l10 = true := by
    cases l10
    ·refine (hno 10 (mem_ready.2 ⟨rfl, _, rfl, ?_⟩)).elim
     intro e he _
     simp at he <;> (repeat' (rcases he with he | he)) <;> (first | rfl | (subst he; rfl))
    ·rfl
   obtain rfl : l11 = true := by
    cases l11
    ·refine (hno 11 (mem_ready.2 ⟨rfl, _, rfl, ?_⟩)).elim
     intro e he _
     simp at he <;> (repeat' (rcases he with he | he)) <;> (first | rfl | (subst he; rfl))
    ·rfl
   obtain rfl : l14 = true := by
    cases l14
    ·refine (hno 14 (mem_ready.2 ⟨rfl, _, rfl, ?_⟩)).elim
     intro e he _
     simp at he <;> (repeat' (rcases he with he | he)) <;> (first | rfl | (subst he; rfl))
    ·rfl
   obtain rfl : l15 = true := by
    cases l15
    ·refine (hno 15 (mem_ready.2 ⟨rfl, _, rfl, ?_⟩)).elim
     intro e he _
     simp at he <;> (repeat' (rcases he with he | he)) <;> (first | rfl | (subst he; rfl))
    ·rfl
   obtain rfl : l17 = true := by
    cases l17
    ·refine (hno 17 (mem_ready.2 ⟨rfl, _, rfl, ?_⟩)).elim
     intro e he _
     simp at he <;> (repeat' (rcases he with he | he)) <;> (first | rfl | (subst he; rfl))
    ·rfl
   clear hno hc
   have T1 := T.ord [4, 7, 6, 8, 0, 9, 1, 2, 3, 5]
   have T2 : Sts w F w' (packR [pcR bp bw bt n s, rowR bw #[.slice none 0 0, .int .i64 0], skR (.slice none 0 0) [], trR bt] :: rowR b16 #[.pointer (some ⟨b15, 0, none⟩)] :: rowR b15 (rpV ⟨sp, b4, b5, bp, br, gm, b12, b13⟩ n s (.slice none 0 0) (.slice none 0 0)) :: packR (spL sp lg p gx bk bs I D safe m) :: rowR b7 #[.int .i64 0] :: kndR t :: ldsR b4 0 (fun _ => none) :: ldsR b5 0 (fun _ => none) :: mineR b12 0 (fun _ => none) :: rnR br gg :: R) := T1
   have T3 : Sts w F w' (pcR bp bw bt n s :: rowR bw #[.slice none 0 0, .int .i64 0] :: skR (.slice none 0 0) [] :: trR bt :: rowR b16 #[.pointer (some ⟨b15, 0, none⟩)] :: rowR b15 (rpV ⟨sp, b4, b5, bp, br, gm, b12, b13⟩ n s (.slice none 0 0) (.slice none 0 0)) :: packR (spL sp lg p gx bk bs I D safe m) :: rowR b7 #[.int .i64 0] :: kndR t :: ldsR b4 0 (fun _ => none) :: ldsR b5 0 (fun _ => none) :: mineR b12 0 (fun _ => none) :: rnR br gg :: R) := T2.unpack
   have HT9 := Lib.hid (T3.ord [4, 5, 6, 7, 8, 9, 10, 11, 0, 1, 2, 3, 12])
   clear T T1 T2 T3
   refine NoPanic.normal ?_
   try simp only [Exit.then]
   go_step
   go_meet
   case rel => exact ⟨b16, b15, ⟨sp, b4, b5, bp, br, gm, b12, b13⟩, bw, bt, gg, rfl, rfl, HT9.out⟩
  case hstep =>
   rintro L a w' i ⟨l4, l5, l8, l10, l11, l12, l13, l14, l15, l16, l17, b4, b5, b12, b13, b15, b16, bp, bw, bt, br, gg, gm, rfl, hc, rfl, T⟩ hi
   obtain ⟨h1, o, ho, hall⟩ := mem_ready.1 hi
   have hi18 : i < 18 := (Array.getElem?_eq_some_iff.1 ho).1
   clear hi
   have HT := Lib.hid T; clear T
   have hcs : i = 0 ∨ i = 1 ∨ i = 2 ∨ i = 3 ∨ i = 4 ∨ i = 5 ∨ i = 6 ∨ i = 7 ∨ i = 8 ∨ i = 9 ∨ i = 10 ∨ i = 11 ∨ i = 12 ∨ i = 13 ∨ i = 14 ∨ i = 15 ∨ i = 16 ∨ i = 17 := by omega
   clear hi18
   rcases hcs with rfl | rfl | rfl | rfl | rfl | rfl | rfl | rfl | rfl | rfl | rfl | rfl | rfl | rfl | rfl | rfl | rfl | rfl
   ·exact Bool.noConfusion (show true = false from h1)
   ·exact Bool.noConfusion (show true = false from h1)
   ·exact Bool.noConfusion (show true = false from h1)
   ·exact Bool.noConfusion (show true = false from h1)
   ·obtain rfl : l4 = false := h1
    obtain ⟨rfl, rfl, rfl⟩ : l14 = false ∧ l15 = false ∧ l17 = false := by revert hc; cases l14 <;> cases l15 <;> cases l17 <;> simp
    clear ho hall
    refine wpOp_step (o := _) rfl (fun K hK => ?_)
    have HK := Lib.hid hK; clear hK
    go_simp
    refine HK.out _ _ ⟨true, l5, l8, l10, l11, l12, l13, false, false, l16, false, w'.heap.size, b5, b12, b13, b15, b16, bp, bw, bt, br, gg, gm, rfl, rfl, rfl, ?_⟩
    have T1 := (HT.out.mapNew (P := Tryz.prog) (k := 33) (kv := fun x : Item => Value.agg (IV x)) (ok := InI) (ev := fun k : Nat => Value.pointer (some ⟨k, 0, none⟩))).ord [2, 1, 0, 3, 4, 5, 6, 7, 8, 9, 10]
    exact T1.drop
   ·obtain rfl : l5 = false := h1
    obtain ⟨rfl, rfl, rfl⟩ : l14 = false ∧ l15 = false ∧ l17 = false := by revert hc; cases l14 <;> cases l15 <;> cases l17 <;> simp
    clear ho hall
    refine wpOp_step (o := _) rfl (fun K hK => ?_)
    have HK := Lib.hid hK; clear hK
    go_simp
    refine HK.out _ _ ⟨l4, true, l8, l10, l11, l12, l13, false, false, l16, false, b4, w'.heap.size, b12, b13, b15, b16, bp, bw, bt, br, gg, gm, rfl, rfl, rfl, ?_⟩
    have T1 := (HT.out.mapNew (P := Tryz.prog) (k := 33) (kv := fun x : Item => Value.agg (IV x)) (ok := InI) (ev := fun k : Nat => Value.pointer (some ⟨k, 0, none⟩))).ord [3, 1, 2, 0, 4, 5, 6, 7, 8, 9, 10]
    exact T1.drop
   ·exact Bool.noConfusion (show true = false from h1)
   ·exact Bool.noConfusion (show true = false from h1)
   ·obtain rfl : l8 = false := h1
    obtain ⟨rfl, rfl, rfl⟩ : l14 = false ∧ l15 = false ∧ l17 = false := by revert hc; cases l14 <;> cases l15 <;> cases l17 <;> simp
    clear ho hall
    refine wpOp_step (o := _) rfl (fun K hK => ?_)
    have HK := Lib.hid hK; clear hK
    go_simp
    refine (pcNewT (n : Int) (s : Int) HT.out).mono ?_
    rintro e4 w4 ⟨bp, bw, bt, rfl, T⟩
    have T1 := Sts.pack (L := [pcR bp bw bt n s, rowR bw #[.slice none 0 0, .int .i64 0], skR (.slice none 0 0) [], trR bt]) T
    have T2 := (T1.ord [5, 1, 2, 3, 4, 0, 6, 7, 8, 9, 10]).drop
    refine HK.out _ _ ⟨l4, l5, true, l10, l11, l12, l13, false, false, l16, false, b4, b5, b12, b13, b15, b16, bp, bw, bt, br, gg, gm, rfl, rfl, rfl, ?_⟩
    exact T2
   ·exact Bool.noConfusion (show true = false from h1)
   ·obtain rfl : l10 = false := h1
    obtain ⟨rfl, rfl, rfl⟩ : l14 = false ∧ l15 = false ∧ l17 = false := by revert hc; cases l14 <;> cases l15 <;> cases l17 <;> simp
    clear ho hall
    refine wpOp_step (o := _) rfl (fun K hK => ?_)
    have HK := Lib.hid hK; clear hK
    go_simp
    refine (rnNewT (n : Int) HN1.out.1 HN1.out.2 HT.out).mono ?_
    rintro e4 w4 ⟨br, gg, rfl, T⟩
    have T2 := (T.ord [6, 1, 2, 3, 4, 5, 0, 7, 8, 9, 10]).drop
    refine HK.out _ _ ⟨l4, l5, l8, true, l11, l12, l13, false, false, l16, false, b4, b5, b12, b13, b15, b16, bp, bw, bt, br, gg, gm, rfl, rfl, rfl, ?_⟩
    exact T2
   ·obtain rfl : l11 = false := h1
    obtain ⟨rfl, rfl, rfl⟩ : l14 = false ∧ l15 = false ∧ l17 = false := by revert hc; cases l14 <;> cases l15 <;> cases l17 <;> simp
    clear ho hall
    refine wpOp_step (o := _) rfl (fun K hK => ?_)
    have HK := Lib.hid hK; clear hK
    go_simp
    refine (clNewT HT.out).mono ?_
    rintro e4 w4 ⟨gm, rfl, T⟩
    refine HK.out _ _ ⟨l4, l5, l8, l10, true, l12, l13, false, false, l16, false, b4, b5, b12, b13, b15, b16, bp, bw, bt, br, gg, gm, rfl, rfl, rfl, ?_⟩
    exact T
   ·obtain rfl : l12 = false := h1
    obtain ⟨rfl, rfl, rfl⟩ : l14 = false ∧ l15 = false ∧ l17 = false := by revert hc; cases l14 <;> cases l15 <;> cases l17 <;> simp
    clear ho hall
    refine wpOp_step (o := _) rfl (fun K hK => ?_)
    have HK := Lib.hid hK; clear hK
    go_simp
    refine HK.out _ _ ⟨l4, l5, l8, l10, l11, true, l13, false, false, l16, false, b4, b5, w'.heap.size, b13, b15, b16, bp, bw, bt, br, gg, gm, rfl, rfl, rfl, ?_⟩
    have T1 := (HT.out.mapNew (P := Tryz.prog) (k := 33) (kv := fun x : Item => Value.agg (IV x)) (ok := InI) (ev := fun _ : Unit => Value.bool true)).ord [4, 1, 2, 3, 0, 5, 6, 7, 8, 9, 10]
    exact T1.drop
   ·obtain rfl : l13 = false := h1
    obtain ⟨rfl, rfl, rfl⟩ : l14 = false ∧ l15 = false ∧ l17 = false := by revert hc; cases l14 <;> cases l15 <;> cases l17 <;> simp
    clear ho hall
    refine wpOp_step (o := _) rfl (fun K hK => ?_)
    have HK := Lib.hid hK; clear hK
    go_simp
    refine HK.out _ _ ⟨l4, l5, l8, l10, l11, l12, true, false, false, l16, false, b4, b5, b12, w'.heap.size, b15, b16, bp, bw, bt, br, gg, gm, rfl, rfl, rfl, ?_⟩
    exact (HT.out.newObj (.map #[] 0)).drop
   ·injection ho with ho
    subst ho
    obtain rfl : l4 = true := hall ⟨4, .data⟩ (by simp) rfl
    obtain rfl : l5 = true := hall ⟨5, .data⟩ (by simp) rfl
    obtain rfl : l8 = true := hall ⟨8, .data⟩ (by simp) rfl
    obtain rfl : l10 = true := hall ⟨10, .data⟩ (by simp) rfl
    obtain rfl : l11 = true := hall ⟨11, .data⟩ (by simp) rfl
    obtain rfl : l12 = true := hall ⟨12, .data⟩ (by simp) rfl
    obtain rfl : l13 = true := hall ⟨13, .data⟩ (by simp) rfl
    obtain rfl : l14 = false := h1
    obtain ⟨rfl, rfl⟩ : l15 = false ∧ l17 = false := by revert hc; cases l15 <;> cases l17 <;> simp
    clear hall
    refine wpOp_step (o := _) rfl (fun K hK => ?_)
    have HK := Lib.hid hK; clear hK
    go_simp
    refine HK.out _ _ ⟨true, true, true, true, true, true, true, true, false, l16, false, b4, b5, b12, b13, b15, b16, bp, bw, bt, br, gg, gm, rfl, rfl, rfl, ?_⟩
    exact HT.out
   ·injection ho with ho
    subst ho
    obtain rfl : l14 = true := hall ⟨14, .data⟩ (by simp) rfl
    obtain rfl : l15 = false := h1
    obtain ⟨rfl, rfl, rfl, rfl, rfl, rfl, rfl, rfl⟩ : l17 = false ∧ l4 = true ∧ l5 = true ∧ l8 = true ∧ l10 = true ∧ l11 = true ∧ l12 = true ∧ l13 = true := by revert hc; cases l17 <;> cases l4 <;> cases l5 <;> cases l8 <;> cases l10 <;> cases l11 <;> cases l12 <;> cases l13 <;> simp
    clear hall
    refine wpOp_step (o := _) rfl (fun K hK => ?_)
    have HK := Lib.hid hK; clear hK
    have T1 := HT.out.new (rpV ⟨sp, b4, b5, bp, br, gm, b12, b13⟩ n s (.slice none 0 0) (.slice none 0 0)) 59
    have T2 := (T1.ord [7, 1, 2, 3, 4, 5, 6, 0, 8, 9, 10]).drop
    have HT2 := Lib.hid T2; clear T1 T2 HT
    go_simp
    refine HK.out _ _ ⟨true, true, true, true, true, true, true, true, true, l16, false, b4, b5, b12, b13, w'.heap.size, b16, bp, bw, bt, br, gg, gm, rfl, rfl, rfl, ?_⟩
    exact HT2.out
   ·obtain rfl : l16 = false := h1
    obtain rfl : l17 = false := by revert hc; cases l17 <;> simp
    clear ho hall
    refine wpOp_step (o := _) rfl (fun K hK => ?_)
    have HK := Lib.hid hK; clear hK
    go_simp
    have T1 := (HT.out.new #[.pointer none] 24).ord [8, 1, 2, 3, 4, 5, 6, 7, 0, 9, 10]
    refine HK.out _ _ ⟨l4, l5, l8, l10, l11, l12, l13, l14, l15, true, false, b4, b5, b12, b13, b15, w'.heap.size, bp, bw, bt, br, gg, gm, rfl, (by revert hc; cases l14 <;> cases l15 <;> simp), rfl, ?_⟩
    exact T1.drop
   ·injection ho with ho
    subst ho
    obtain rfl : l15 = true := hall ⟨15, .data⟩ (by simp) rfl
    obtain rfl : l16 = true := hall ⟨16, .data⟩ (by simp) rfl
    obtain rfl : l17 = false := h1
    clear hall
    refine wpOp_step (o := _) rfl (fun K hK => ?_)
    have HK := Lib.hid hK; clear hK
    have T1 := HT.out.ord [7, 0, 1, 2, 3, 4, 5, 6, 8, 9]
    have rb := T1.row; have lb := row_lt rb; have cb := row_cell rb 0; have fb := row_frozen rb 0
    have T2 := (T1.setCell 0 (.pointer (some ⟨b15, 0, none⟩))).ord [1, 2, 3, 4, 5, 6, 7, 0, 8, 9]
    have HT2 := Lib.hid T2; clear T1 T2 HT
    go_simp
    refine HK.out _ _ ⟨l4, l5, l8, l10, l11, l12, l13, l14, true, true, true, b4, b5, b12, b13, b15, b16, bp, bw, bt, br, gg, gm, rfl, (by revert hc; cases l14 <;> simp), rfl, ?_⟩
    exact HT2.out
 case rest =>
  obtain ⟨b, g, q, bw, bt, gg, rfl, hq, T⟩ := hcut
  subst hq
  clear HT
  have HA := Lib.hid (spAllT ((T.ord [2, 0, 1]).unpack))
  have rb := T.row; have lb := row_lt rb
  clear T
  go_wp2_with fail
  refine HA.out.mono ?_
  clear HA rb lb
  rintro e4 w4 ⟨c, rfl, T⟩
  have HT := Lib.hid T; clear T
  go_wp2_with fail
  have T0 : Sts w F w4 ([] ++ (iterIR c gx m ++ (idxR q.sp lg bk bs I :: rowR lg (ledCells p gx m.n) :: plR p D safe :: rowR b #[.pointer (some ⟨g, 0, none⟩)] :: rowR g (rpV q n s (.slice none 0 0) (.slice none 0 0)) :: rowR b7 #[.int .i64 0] :: kndR t :: ldsR q.ml 0 (fun _ => none) :: ldsR q.mr 0 (fun _ => none) :: mineR q.mm 0 (fun _ => none) :: pcR q.bp bw bt n s :: rowR bw #[.slice none 0 0, .int .i64 0] :: skR (.slice none 0 0) [] :: trR bt :: rnR q.br gg :: R))) := HT.out
  clear HT
  have hok := HV.out.sp.ok
  have HEN := Lib.hid HTM.out.2
  refine (wpIn_wide (n := 4)).1 ?_
  refine wp_rangeSts (gf := 109) (lb := #[.pointer (some ⟨c, 0, none⟩)]) (enc := fun x : Item × Inst => #[.agg (IV x.1), .agg (NV x.2)]) (xs := ents m)
   (fun _ => []) (fun _ _ => [noR]) (iterIR c gx m ++ (idxR q.sp lg bk bs I :: rowR lg (ledCells p gx m.n) :: plR p D safe :: rowR b #[.pointer (some ⟨g, 0, none⟩)] :: rowR g (rpV q n s (.slice none 0 0) (.slice none 0 0)) :: rowR b7 #[.int .i64 0] :: kndR t :: ldsR q.ml 0 (fun _ => none) :: ldsR q.mr 0 (fun _ => none) :: mineR q.mm 0 (fun _ => none) :: pcR q.bp bw bt n s :: rowR bw #[.slice none 0 0, .int .i64 0] :: skR (.slice none 0 0) [] :: trR bt :: rnR q.br gg :: R))
   (fun _ _ _ _ => False)
   rfl (enters_of Tryz.func109 (by kernel_rfl) rfl) (fun _ => rfl) (Gives.part fun H hS => irAllG c gx m hok _ H hS) T0 ?calm ?calmX ?assign ?body ?done ?stop
  case calm => exact fun k => calmL_nil _
  case calmX => exact fun _ _ => calmL_cons (noR_calm _) (calmL_nil _)
  case assign =>
   intro lr k x W1 G1 K hx T1 hK
   rw [HEN.out] at hx
   simp at hx
  case body =>
   rintro lr k x _ _ W1 G1 hx h T1 hread
   exact h.elim
  case stop =>
   intro D2 c1 k W1 h0 hk T1
   exact (Sts.no T1.drop).elim
  case done =>
   intro D2 W1 T
   clear T0
   have T1 : Sts w F W1 (objR D2 (.deferred (some [])) :: rowR c #[.pointer (some ⟨gx, 0, none⟩)] :: rowsIR gx m :: idxR q.sp lg bk bs I :: rowR lg (ledCells p gx m.n) :: plR p D safe :: rowR b #[.pointer (some ⟨g, 0, none⟩)] :: rowR g (rpV q n s (.slice none 0 0) (.slice none 0 0)) :: rowR b7 #[.int .i64 0] :: kndR t :: ldsR q.ml 0 (fun _ => none) :: ldsR q.mr 0 (fun _ => none) :: mineR q.mm 0 (fun _ => none) :: pcR q.bp bw bt n s :: rowR bw #[.slice none 0 0, .int .i64 0] :: skR (.slice none 0 0) [] :: trR bt :: rnR q.br gg :: R) := T
   clear T
   have T2 := T1.ordr [7, 17, 6, 0, 3, 4, 5, 2, 9, 10, 11, 12, 13, 14, 15, 16, 1, 8]
   clear T1
   have rb := T2.row2; have lb := row_lt rb; have cb : W1.cell? ⟨b, 0, none⟩ = some (.pointer (some ⟨g, 0, none⟩)) := row_cell rb 0
   have HAD := Lib.hid (rpAdvT T2)
   clear T2
   go_wp2_with fail
   refine HAD.out.mono ?_
   clear HAD rb lb cb
   rintro e5 w5 ⟨rfl, T⟩
   have T : Sts w F w5 (rowR g (rpV q n s (.slice none 0 0) (.slice none 0 0)) :: rnR q.br gg :: rowR b #[.pointer (some ⟨g, 0, none⟩)] :: objR D2 (.deferred (some [])) :: idxR q.sp lg bk bs I :: rowR lg (ledCells p gx m.n) :: plR p D safe :: rowsIR gx m :: kndR t :: ldsR q.ml 0 (fun _ => none) :: ldsR q.mr 0 (fun _ => none) :: mineR q.mm 0 (fun _ => none) :: pcR q.bp bw bt n s :: rowR bw #[.slice none 0 0, .int .i64 0] :: skR (.slice none 0 0) [] :: trR bt :: rowR c #[.pointer (some ⟨gx, 0, none⟩)] :: rowR b7 #[.int .i64 0] :: R) := T
   have rb := T.row2; have lb := row_lt rb; have cb : w5.cell? ⟨b, 0, none⟩ = some (.pointer (some ⟨g, 0, none⟩)) := row_cell rb 0
   have T4 := T.ordr [3, 2, 16, 17, 4, 5, 6, 7, 8, 0, 11, 9, 10, 12, 13, 14, 15, 1]
   have hD := T4.obj
   have T5 := (T4.putObj (.deferred none)).drop.drop.drop.drop
   have T6 := (T5.vecNil 148 3).emptNil (size := 25) none
   have T7 := T6.ordr [2, 3, 4, 5, 6, 7, 0, 1, 8, 9, 10, 11, 12, 13, 14, 15]
   have HD := Lib.hid hD; have HT9 := Lib.hid T7
   clear hD T T4 T5 T6 T7 hok
   go_wp2
   refine retM1 HD.out (results_tmp2 rfl _ _ _) ⟨g, q, lg, gx, bk, bs, I, D, safe, m, bw, bt, gg, rfl, ?_, HTM.out.1, ?_⟩ rfl
   ·exact HV.out
   ·exact HT9.out
end
end Go.Proofs.YtomlilkobhkoiaaGreatDoor
