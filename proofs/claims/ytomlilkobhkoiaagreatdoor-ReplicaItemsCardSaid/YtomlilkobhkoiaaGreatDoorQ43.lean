/- Several texts in one. -/
import Derived.Test.YtomlilkobhkoiaaGreatDoorQ42
import Derived.Test.YtomlilkobhkoiaaGreatDoorQ27
import Derived.Test.YtomlilkobhkoiaaGreatDoorQ33
import Derived.Test.YtomlilkobhkoiaaGreatDoorQ3
import Derived.Test.YtomlilkobhkoiaaGreatDoorQ4
import Derived.Test.YtomlilkobhkoiaaGreatDoorQ41
import Derived.Test.YtomlilkobhkoiaaGreatDoorQ26
/- Layer 22: a client's deed is submitted. -/
namespace Go.Proofs.YtomlilkobhkoiaaGreatDoor
open Go.RowKit Go.Shelf
set_option linter.unusedVariables false
set_option maxRecDepth 20000
attribute [local go_sem] Oper.semAt_some
attribute [local go_sem] row_alloc row_drew row_drewN row_ext row_setCell row_setRow size_ext setRow_alloc setRow_drew loadOf storeOf piece_lit loadVal_at storeVal_at allOne_lit buildOf buildRes_some
attribute [local go_sem high] cell_alloc frozen_alloc setCell_alloc cell_ext frozen_ext cell_setRow frozen_setRow
attribute [local go_sem ↓] TItem_ld0 TItem_st0 TItem_fd0 TItem_bd0
attribute [local go_sem] TItem_size TItem_one TItem_piece TItem_c0 TItem_c1 TItem_set_rep TItem_set_num TItem_ld TItem_st TItem_f_rep TItem_f_num TItem_bd TItem_fl TItem_fl_rep TItem_fl_num
attribute [local go_sem high] TItem_eql TItem_neq
attribute [local go_sem ↓] TBallot_ld0 TBallot_st0 TBallot_fd0 TBallot_bd0
attribute [local go_sem] TBallot_size TBallot_one TBallot_piece TBallot_c0 TBallot_c1 TBallot_set_round TBallot_set_rep TBallot_ld TBallot_st TBallot_f_round TBallot_f_rep TBallot_bd TBallot_fl TBallot_fl_round TBallot_fl_rep
attribute [local go_sem high] TBallot_eql TBallot_neq
attribute [local go_sem ↓] TCall_ld0 TCall_st0 TCall_fd0 TCall_bd0
attribute [local go_sem] TCall_size TCall_one TCall_piece TCall_c0 TCall_c1 TCall_c2 TCall_c3 TCall_c4 TCall_c5 TCall_c6 TCall_c7 TCall_c8 TCall_c9 TCall_c10 TCall_c11 TCall_c12 TCall_c13 TCall_p_deed TCall_put_deed TCall_p_deps TCall_put_deps TCall_set_seq TCall_ld TCall_st TCall_f_deed TCall_f_deps TCall_f_seq TCall_bd TCall_fl TCall_fl_deed TCall_fl_deps TCall_fl_seq
attribute [local go_sem high] TCall_eql TCall_neq
attribute [local go_sem ↓] TDeed_ld0 TDeed_st0 TDeed_fd0 TDeed_bd0
attribute [local go_sem] TDeed_size TDeed_one TDeed_piece TDeed_c0 TDeed_c1 TDeed_c2 TDeed_c3 TDeed_c4 TDeed_c5 TDeed_set_kind TDeed_set_key TDeed_set_val TDeed_set_ver TDeed_set_ses TDeed_set_num TDeed_ld TDeed_st TDeed_f_kind TDeed_f_key TDeed_f_val TDeed_f_ver TDeed_f_ses TDeed_f_num TDeed_bd TDeed_fl TDeed_fl_kind TDeed_fl_key TDeed_fl_val TDeed_fl_ver TDeed_fl_ses TDeed_fl_num
attribute [local go_sem high] TDeed_eql TDeed_neq
attribute [local go_sem ↓] index_deps0 load_deps0 store_deps0
attribute [local go_sem] DV_piece DV_size DV_one index_deps load_deps store_deps
attribute [local go_sem high] TDeps_eql TDeps_neq
attribute [local go_sem ↓] TMsg_ld0 TMsg_st0 TMsg_fd0 TMsg_bd0
attribute [local go_sem] TMsg_size TMsg_one TMsg_piece TMsg_c0 TMsg_c1 TMsg_c2 TMsg_c3 TMsg_c4 TMsg_c5 TMsg_c6 TMsg_c7 TMsg_c8 TMsg_c9 TMsg_c10 TMsg_c11 TMsg_c12 TMsg_c13 TMsg_c14 TMsg_c15 TMsg_c16 TMsg_c17 TMsg_c18 TMsg_c19 TMsg_c20 TMsg_c21 TMsg_c22 TMsg_c23 TMsg_c24 TMsg_set_kind TMsg_set_frm TMsg_set_to TMsg_p_item TMsg_put_item TMsg_p_bal TMsg_put_bal TMsg_p_vote TMsg_put_vote TMsg_set_status TMsg_set_same TMsg_p_call TMsg_put_call TMsg_ld TMsg_st TMsg_f_kind TMsg_f_frm TMsg_f_to TMsg_f_item TMsg_f_bal TMsg_f_vote TMsg_f_status TMsg_f_same TMsg_f_call TMsg_bd TMsg_fl TMsg_fl_kind TMsg_fl_frm TMsg_fl_to TMsg_fl_item TMsg_fl_bal TMsg_fl_vote TMsg_fl_status TMsg_fl_same TMsg_fl_call
attribute [local go_sem high] TMsg_eql TMsg_neq
theorem itemKL : Go.WideMaps.KeyLaw Tryz.prog 33 := deep_law_laid laidOut (m := 2) (by omega) row_item (by kernel_rfl) wide_item
/-- A map of items. -/
abbrev mineR (b j : Nat) (f : Item → Option Unit) : Res := mapR Tryz.prog 33 (fun x : Item => Value.agg (IV x)) (fun _ : Unit => Value.bool true) InI b j f
theorem neMapR {w W : World} {F : Nat → Prop} {R : List Res} {α β : Type} {P : Program} {k : TypeId} {kv : α → Value} {ev : β → Value} {ok : α → Prop} {b n g : Nat} {f : α → Option β} {X : Array Value} (T : Sts w F W (mapR P k kv ev ok b n f :: R)) (hr : row? W g = some X) : g ≠ b := by
 obtain ⟨D, ⟨es, clock, hb, -⟩, -⟩ := T.map
 rintro rfl
 unfold row? at hr
 rw [hb] at hr
 simp at hr
section
variable {w W : World} {F : Nat → Prop} {R : List Res} {g lg p gx bk bs bw bt safe j jm turn t0 s f k gg : Nat} {q : RpB} {inb out v : Value} {I : Idx} {D : List UInt8} {m : RowsM} {fl : Item → Option Nat} {fm : Item → Option Unit} {l : List Spoke} {ls : List Letter} {t : TypeId} {d : Deed}
set_option maxHeartbeats 32000000 in
theorem rpSubmitT (hv : VotI (2 * f + 1 : Nat) k I D m) (hk : k ≤ 100) (hf : 1 ≤ f ∧ f ≤ 3) (hs : s < 2 * f + 1) (ht0 : topM m s = (t0 : Int)) (ht1 : t0 < 64) (hd : goodB d = true) (hd0 : (d.kind == 0) = false) (hls : ls.length ≤ 990)
  (hl : l.length ≤ 1000) (hno : ∀ y ∈ l, eqA (IV y.key) (IV ⟨s, (t0 : Int) + 1⟩) = false) (hall : ∀ y ∈ l, y.due = 4 ∧ y.turn < (turn : Int)) (ht : turn ≤ 1000) (hj : j ≤ 1000) (hjm : jm ≤ 1000)
  (T : Sts w F W (spL q.sp lg p gx bk bs I D safe m ++ (kndR t :: rowR g (rpV q (2 * f + 1 : Nat) s inb out) :: emptR 25 inb :: vecR 148 3 out ls.length (vl LTV ls) :: mineR q.mm jm fm :: (rpIdle q j fl (2 * f + 1) s bw bt v turn l gg ++ R)))) :
  Calls Tryz.prog 7 #[.pointer (some ⟨g, 0, none⟩), .agg (EV d)] W fun e W' => ∃ v' inb' out' ls' I' D' safe' m' fl' fm', e = .returned (.tuple #[.agg (IV ⟨s, (t0 : Int) + 1⟩), .int .i64 0]) ∧ ls'.length = ls.length + 2 * f ∧ VotI (2 * f + 1 : Nat) (k + 1) I' D' m' ∧ topM m' s = ((t0 + 1 : Nat) : Int) ∧
   Sts w F W' (spL q.sp lg p gx bk bs I' D' safe' m' ++ (kndR t :: rowR g (rpV q (2 * f + 1 : Nat) s inb' out') :: emptR 25 inb' :: vecR 148 3 out' ls'.length (vl LTV ls') :: mineR q.mm (jm + 1) fm' :: (rpIdle q (j + 1) fl' (2 * f + 1) s bw bt v' (turn + 1) (l ++ [⟨⟨s, (t0 : Int) + 1⟩, 4, turn⟩]) gg ++ R))) := by
 obtain ⟨x, hxx⟩ : ∃ x : Item, x = ⟨s, (t0 : Int) + 1⟩ := ⟨_, rfl⟩
 obtain ⟨n, hn⟩ : ∃ n, n = 2 * f + 1 := ⟨_, rfl⟩
 have hmn := hv.sp.mn
 have hsn : (s : Int) < m.n := by rw [hmn]; omega
 have hm7 : m.n ≤ 7 := by rw [hmn]; omega
 obtain ⟨hgi, -, -⟩ := rp_set hsn ht0 ht1 noInst
 rw [← hxx] at hgi hno ⊢
 have hxi : InI x := by rw [hxx]; unfold InI; simp only; omega
 have hks : d.key.size ≤ maxLen ∧ intKOk d.ses := by
  unfold goodB at hd
  rw [decide_eq_true_iff] at hd
  unfold maxLen intKOk
  omega
 -- the calls
 have hNX : ∀ W' R', Sts w F W' (packR (spL q.sp lg p gx bk bs I D safe m) :: R') → Calls Tryz.prog 21 #[.pointer (some ⟨q.sp, 0, none⟩), .int .i64 s] W' fun e W2 => e = .returned (.tuple #[.agg (IV x), .bool true]) ∧ Sts w F W2 (packR (spL q.sp lg p gx bk bs I D safe m) :: R') := by
  intro W' R' T'
  have h := spNextT hv.sp.ok (s : Int) T'.unpack
  have h2 : canNext m (s : Int) = true := by unfold canNext; rw [ht0]; simp; omega
  rw [h2, ht0, ← hxx] at h
  exact h.mono fun _ _ ⟨h1, h3⟩ => ⟨h1, Sts.pack (L := spL q.sp lg p gx bk bs I D safe m) h3⟩
 have hWY : ∀ W' R', Sts w F W' (packR (spL q.sp lg p gx bk bs I D safe m) :: R') → Calls Tryz.prog 22 #[.pointer (some ⟨q.sp, 0, none⟩), .agg (EV d), .agg (IV x)] W' fun e W2 => e = .returned (.tuple #[.agg (DV (wayK m d x).out), .int .i64 (wayK m d x).seq]) ∧ Sts w F W2 (packR (spL q.sp lg p gx bk bs I D safe m) :: R') := by
  intro W' R' T'
  exact (spWay hv.sp.ok hv.sp.good hv.sp.idx hv.sp.cov d x hks.1 hks.2 T'.unpack).mono fun _ _ ⟨h1, h3⟩ => ⟨h1, Sts.pack (L := spL q.sp lg p gx bk bs I D safe m) h3⟩
 have hSD : ∀ W' R' vm, Sts w F W' (rowR g (rpV q (2 * f + 1 : Nat) s inb out) :: emptR 25 inb :: vecR 148 3 out ls.length (vl LTV ls) :: vecR 136 25 vm (2 * f + 1) (vl MV ((List.range (2 * f + 1)).map (preMsg s x (rpC m d x)))) :: kndR t :: R') → Calls Tryz.prog 25 #[.pointer (some ⟨g, 0, none⟩), vm] W' fun e W2 => ∃ inb' out' ls', e = .returned (.tuple #[]) ∧ ls'.length = ls.length + 2 * f ∧ Sts w F W2 (rowR g (rpV q (2 * f + 1 : Nat) s inb' out') :: oneR 25 inb' (MV (preMsg s x (rpC m d x) s)) :: vecR 148 3 out' ls'.length (vl LTV ls') :: kndR t :: R') := by
  intro W' R' vm T'
  have hlen : ((List.range s).map (preMsg s x (rpC m d x)) ++ preMsg s x (rpC m d x) s :: (List.range' (s + 1) (2 * f + 1 - s - 1)).map (preMsg s x (rpC m d x))).length = 2 * f + 1 := by simp; omega
  have e : (2 * f + 1) = ((List.range s).map (preMsg s x (rpC m d x)) ++ preMsg s x (rpC m d x) s :: (List.range' (s + 1) (2 * f + 1 - s - 1)).map (preMsg s x (rpC m d x))).length := hlen.symm
  rw [preL_split _ hs] at T'
  have T2 : Sts w F W' (rowR g (rpV q (2 * f + 1 : Nat) s inb out) :: emptR 25 inb :: vecR 148 3 out ls.length (vl LTV ls) :: vecR 136 25 vm ((List.range s).map (preMsg s x (rpC m d x)) ++ preMsg s x (rpC m d x) s :: (List.range' (s + 1) (2 * f + 1 - s - 1)).map (preMsg s x (rpC m d x))).length (vl MV ((List.range s).map (preMsg s x (rpC m d x)) ++ preMsg s x (rpC m d x) s :: (List.range' (s + 1) (2 * f + 1 - s - 1)).map (preMsg s x (rpC m d x)))) :: kndR t :: R') := by rw [hlen]; exact T'
  refine (rpSendT (by omega) _ _ (preMsg s x (rpC m d x) s) rfl ?_ (by rw [hlen]; omega) (by omega) T2).mono ?_
  ·intro y hy
   have h : ∃ rep : Nat, y = preMsg s x (rpC m d x) rep ∧ rep ≠ s ∧ rep < 2 * f + 1 := by
    rcases List.mem_append.1 hy with h | h
    ·obtain ⟨r, hr, rfl⟩ := List.mem_map.1 h
     rw [List.mem_range] at hr
     exact ⟨r, rfl, by omega, by omega⟩
    ·obtain ⟨r, hr, rfl⟩ := List.mem_map.1 h
     rw [List.mem_range'_1] at hr
     exact ⟨r, rfl, by omega, by omega⟩
   obtain ⟨rep, rfl, h1, h2⟩ := h
   have hrn : (rep : Int) < m.n := by rw [hmn]; omega
   refine ⟨?_, ?_, rpM_fit hv.sp.ok hv.sp.good hm7 hd hgi hsn hrn⟩
   ·show ((rep : Nat) : Int) ≠ (s : Int)
    omega
   ·have h := rpM_good hv.sp.ok hv.sp.good hd hgi hsn hrn
    rw [hmn] at h
    exact h
  ·rintro e W2 ⟨inb', out', ls', h1, h2, h3⟩
   rw [hlen] at h2
   exact ⟨inb', out', ls', h1, by omega, h3⟩
 have hDR := fun (W' : World) (inb' out' : Value) (ls' : List Letter) (gl : Nat) (R' : List Res) (hls' : ls'.length ≤ 1000) (T' : Sts w F W' (spL q.sp lg p gx bk bs I D safe m ++ (kndR t :: rowR g (rpV q (2 * f + 1 : Nat) s inb' out') :: oneR 25 inb' (MV (preMsg s x (rpC m d x) s)) :: vecR 148 3 out' ls'.length (vl LTV ls') :: (rpRest q (j + 1) (putF fl x gl) gl (2 * f + 1) s x (rpC m d x) bw bt v turn l ++ rnR q.br gg :: R')))) => rpDrainT (gg := gg) hv hk hf hs ht0 ht1 hd x hxx (rpC m d x) rfl (putF_same ..) hls' hl hno hall ht T'
 have htp : ∀ i, topM (setM m x i) s = ((t0 + 1 : Nat) : Int) := fun i => by
  have h := (rp_set hsn ht0 ht1 i).2.1
  rw [← hxx] at h
  exact h
 have hdg := good4_any d
 rw [hd] at hdg
 have hn7 : n ≤ 7 := by omega
 obtain ⟨O, hO⟩ : ∃ O, O = (wayK m d x).out := ⟨_, rfl⟩
 obtain ⟨sq, hsq⟩ : ∃ sq, sq = (wayK m d x).seq := ⟨_, rfl⟩
 have hc : rpC m d x = ⟨d, O, sq⟩ := by rw [hO, hsq]; rfl
 rw [← hO, ← hsq] at hWY
 rw [hc, ← hn] at hSD hDR
 rw [← hn] at T ⊢
 have HLS := Lib.hid hls
 have HT2f := Lib.hid (show 2 * f + 1 = n from hn.symm)
 have T0 := Sts.pack (L := spL q.sp lg p gx bk bs I D safe m) T
 have T1 : Sts w F W (ldsR q.mr 0 (fun _ => none) :: pcR q.bp bw bt n s :: rowR bw #[v, .int .i64 turn] :: skR v l :: trR bt :: rnR q.br gg :: packR (spL q.sp lg p gx bk bs I D safe m) :: kndR t :: rowR g (rpV q n s inb out) :: emptR 25 inb :: vecR 148 3 out ls.length (vl LTV ls) :: mineR q.mm jm fm :: ldsR q.ml j fl :: R) := T0.ord [7, 8, 9, 10, 11, 12, 0, 1, 2, 3, 4, 5, 6]
 have T2 := Sts.pack (L := [ldsR q.mr 0 (fun _ => none), pcR q.bp bw bt n s, rowR bw #[v, .int .i64 turn], skR v l, trR bt, rnR q.br gg]) T1
 have HUN := Lib.hid fun (W' : World) (R' : List Res) (T' : Sts w F W' (packR [ldsR q.mr 0 (fun _ => none), pcR q.bp bw bt n s, rowR bw #[v, .int .i64 turn], skR v l, trR bt, rnR q.br gg] :: R')) => T'.unpack
 have HUS := Lib.hid fun (W' : World) (R' : List Res) (T' : Sts w F W' (packR (spL q.sp lg p gx bk bs I D safe m) :: R')) => T'.unpack
 clear T T0 T1 hv hk hf ht0 ht1 hd hls hl hno hall ht hxx hn hmn hsn hm7 hgi hks hO hsq hc
 generalize packR (spL q.sp lg p gx bk bs I D safe m) = SP at *
 generalize packR [ldsR q.mr 0 (fun _ => none), pcR q.bp bw bt n s, rowR bw #[v, .int .i64 turn], skR v l, trR bt, rnR q.br gg] = PP at *
 have T3 := (T2.new (EV d) 31).new (IV noItem) 33
 simp only [World.size_alloc] at T3
 have T4 := T3.ord [5, 1, 0, 3, 4, 6, 7, 8, 9, 2]
 have HT := Lib.hid T4; have HNX := Lib.hid hNX; have HWY := Lib.hid hWY; have HSD := Lib.hid hSD; have HDR := Lib.hid hDR; have HDG := Lib.hid hdg; have HTP := Lib.hid htp
 have HXI := Lib.hid hxi
 clear T2 T3 T4 hNX hWY hSD hDR hdg htp hxi
 go_enter Tryz.func7, Tryz.ntmps7
 have rd := HT.out.row1; have ld := row_lt rd
 go_wp2_with fail
 refine (HDG.out.at HT.out).mono ?_
 clear HT rd ld HDG
 rintro e3 w3 ⟨rfl, T⟩
 generalize W.heap.size + 1 = bx at *
 generalize W.heap.size = bd at *
 have rd := T.row1; have ld := row_lt rd
 have hd0' : w3.cell? ⟨bd, 0, none⟩ = some (.int .i64 d.kind) := row_cell rd 0
 have HT := Lib.hid T; clear T
 go_upto_region 5 with fail
 clear hd0' rd ld
 go_cut [6, 7] (fun u6 u7 wx => u7 = .bool true ∧ ∃ b6, u6 = .pointer (some ⟨b6, 0, none⟩) ∧ Sts w F wx (rowR b6 (IV x) :: rowR g (rpV q n s inb out) :: rowR bd (EV d) :: rowR bx (IV noItem) :: SP :: kndR t :: emptR 25 inb :: vecR 148 3 out ls.length (vl LTV ls) :: mineR q.mm jm fm :: ldsR q.ml j fl :: PP :: R))
 case first =>
  have FS : ∀ W' R', Sts w F W' (rowR g (rpV q n s inb out) :: R') → (W'.cell? ⟨g, 3, none⟩ = some (.pointer (some ⟨q.sp, 0, none⟩)) ∧ W'.cell? ⟨g, 1, none⟩ = some (.int .i64 s)) := fun W' R' T' => ⟨row_cell T'.row 3, row_cell T'.row 1⟩
  have HT2 := Lib.hid HT.out.drew
  have S0 := FS _ _ HT2.out
  have HFS := Lib.hid FS
  clear FS HT
  refine wp_region_held_drew (S := fun W' => W'.cell? ⟨g, 3, none⟩ = some (.pointer (some ⟨q.sp, 0, none⟩)) ∧ W'.cell? ⟨g, 1, none⟩ = some (.int .i64 s)) (by kernel_rfl) S0 (fun hHeld => ?_)
  clear S0
  generalize w3.drew = w4 at *
  refine tkH 0 rfl ?_
  simp only [Act.put, List.setIfInBounds_toArray, List.set_cons_zero, List.set_cons_succ]
  refine tkH 1 rfl ?_
  go_frame
  refine tkH 2 rfl ?_
  go_frame
  refine tkH 3 rfl ?_
  go_frame
  refine tkH 4 rfl ?_
  go_frame
  refine tkH 5 rfl ?_
  go_frame
  refine tkH 6 rfl ?_
  go_frame
  refine tkH 7 rfl ?_
  go_frame
  refine wpAnyH_ready (rs := [8, 12]) (by kernel_rfl) (by simp) ?_
  refine AllReadyH.cons (o := _) rfl (fun K hK => ?_) ?_
  ·go_simp
   refine (HNX.out _ _ (HT2.out.ord [3, 0, 1, 2])).mono ?_
   clear HT2
   rintro e5 w5 ⟨rfl, T⟩
   have T := T.ord [1, 2, 3, 0]
   refine hK.out _ _ (HFS.out _ _ T) (fun hHeld => ?_)
   clear hK K
   refine tkH 9 rfl ?_
   simp only [Act.put, List.setIfInBounds_toArray, List.set_cons_zero, List.set_cons_succ]
   refine tkH 10 rfl ?_
   go_frame
   refine tkH 11 rfl ?_
   go_frame
   have T2 := T.new (IV noItem) 33
   refine wpAnyH_ready (rs := [12]) (by kernel_rfl) (by simp) ?_
   refine AllReadyH.cons (o := _) rfl (fun K hK => ?_) AllReadyH.nil
   go_simp
   refine hK.out _ _ (HFS.out _ _ T2.drop) (fun hHeld => ?_)
   clear hK K
   have rn := T2.row; have ln := row_lt rn
   have HT3 := Lib.hid (T.new (IV x) 33); clear T T2
   refine wpAnyH_ready (rs := [13]) (by kernel_rfl) (by simp) ?_
   refine AllReadyH.cons (o := _) rfl (fun K hK => ?_) AllReadyH.nil
   go_simp
   refine hK.out _ _ (HFS.out _ _ HT3.out.drop) (fun hHeld => ?_)
   clear hK K rn ln
   refine tkH 14 rfl ?_
   simp only [Act.put, List.setIfInBounds_toArray, List.set_cons_zero, List.set_cons_succ]
   refine wpAnyH_done (by kernel_rfl) ?_ _
   try simp only [Exit.then]
   go_step
   go_meet
   case rel => exact ⟨rfl, _, rfl, HT3.out⟩
  ·have T2 := HT2.out.new (IV noItem) 33
   refine AllReadyH.cons (o := _) rfl (fun K hK => ?_) AllReadyH.nil
   go_simp
   refine hK.out _ _ (HFS.out _ _ T2.drop) (fun hHeld => ?_)
   clear hK K HT2
   have HT2 := Lib.hid T2; clear T2
   refine wpAnyH_ready (rs := [8]) (by kernel_rfl) (by simp) ?_
   refine AllReadyH.cons (o := _) rfl (fun K hK => ?_) AllReadyH.nil
   go_simp
   refine (HNX.out _ _ (HT2.out.ord [4, 0, 1, 2, 3])).mono ?_
   clear HT2
   rintro e5 w5 ⟨rfl, T⟩
   have T := T.ord [1, 2, 3, 4, 0]
   refine hK.out _ _ (HFS.out _ _ T.drop) (fun hHeld => ?_)
   clear hK K
   refine tkH 9 rfl ?_
   simp only [Act.put, List.setIfInBounds_toArray, List.set_cons_zero, List.set_cons_succ]
   refine tkH 10 rfl ?_
   go_frame
   refine tkH 11 rfl ?_
   go_frame
   have rn := T.row; have ln := row_lt rn
   have HT3 := Lib.hid (T.setRow (IV x)); clear T
   refine wpAnyH_ready (rs := [13]) (by kernel_rfl) (by simp) ?_
   refine AllReadyH.cons (o := _) rfl (fun K hK => ?_) AllReadyH.nil
   go_simp
   refine hK.out _ _ (HFS.out _ _ HT3.out.drop) (fun hHeld => ?_)
   clear hK K rn ln
   refine tkH 14 rfl ?_
   simp only [Act.put, List.setIfInBounds_toArray, List.set_cons_zero, List.set_cons_succ]
   refine wpAnyH_done (by kernel_rfl) ?_ _
   try simp only [Exit.then]
   go_step
   go_meet
   case rel => exact ⟨rfl, _, rfl, HT3.out⟩
 case rest =>
  obtain ⟨rfl, b6, rfl, T⟩ := hcut
  clear HT HNX
  have T := T.ord [1, 2, 0, 3]
  have HT := Lib.hid T; clear T
  go_upto_region 8 with fail
  go_cut [8, 9] (fun u8 u9 wx => u9 = .int .i64 sq ∧ ∃ b8, u8 = .pointer (some ⟨b8, 0, none⟩) ∧ Sts w F wx (rowR b8 (DV O) :: rowR g (rpV q n s inb out) :: rowR bd (EV d) :: rowR b6 (IV x) :: rowR bx (IV noItem) :: SP :: kndR t :: emptR 25 inb :: vecR 148 3 out ls.length (vl LTV ls) :: mineR q.mm jm fm :: ldsR q.ml j fl :: PP :: R))
  case first =>
   have FS : ∀ W' R', Sts w F W' (rowR g (rpV q n s inb out) :: rowR bd (EV d) :: rowR b6 (IV x) :: R') → (W'.cell? ⟨g, 3, none⟩ = some (.pointer (some ⟨q.sp, 0, none⟩)) ∧ row? W' bd = some (EV d) ∧ row? W' b6 = some (IV x)) := fun W' R' T' => ⟨row_cell T'.row 3, T'.row1, T'.row2⟩
   have HT2 := Lib.hid HT.out.drew
   have S0 := FS _ _ HT2.out
   have HFS := Lib.hid FS
   clear FS HT
   refine wp_region_held_drew (S := fun W' => W'.cell? ⟨g, 3, none⟩ = some (.pointer (some ⟨q.sp, 0, none⟩)) ∧ row? W' bd = some (EV d) ∧ row? W' b6 = some (IV x)) (by kernel_rfl) S0 (fun hHeld => ?_)
   clear S0
   generalize World.drew _ = w4 at *
   refine tkH 0 rfl ?_
   simp only [Act.put, List.setIfInBounds_toArray, List.set_cons_zero, List.set_cons_succ]
   refine tkH 1 rfl ?_
   go_frame
   refine tkH 2 rfl ?_
   go_frame
   refine tkH 3 rfl ?_
   go_frame
   refine tkH 4 rfl ?_
   go_frame
   refine tkH 5 rfl ?_
   go_frame
   refine wpAnyH_ready (rs := [6, 10]) (by kernel_rfl) (by simp) ?_
   refine AllReadyH.cons (o := _) rfl (fun K hK => ?_) ?_
   ·go_simp
    refine (HWY.out _ _ (HT2.out.ord [4, 0, 1, 2, 3])).mono ?_
    clear HT2
    rintro e5 w5 ⟨rfl, T⟩
    have T := T.ord [1, 2, 3, 4, 0]
    refine hK.out _ _ (HFS.out _ _ T) (fun hHeld => ?_)
    clear hK K
    refine tkH 7 rfl ?_
    simp only [Act.put, List.setIfInBounds_toArray, List.set_cons_zero, List.set_cons_succ]
    refine tkH 8 rfl ?_
    go_frame
    refine tkH 9 rfl ?_
    go_frame
    have T2 := T.new (DV fun _ => 0) 66
    refine wpAnyH_ready (rs := [10]) (by kernel_rfl) (by simp) ?_
    refine AllReadyH.cons (o := _) rfl (fun K hK => ?_) AllReadyH.nil
    go_simp
    refine hK.out _ _ (HFS.out _ _ T2.drop) (fun hHeld => ?_)
    clear hK K
    have rn := T2.row; have ln := row_lt rn
    have HT3 := Lib.hid (T.new (DV O) 66); clear T T2
    refine wpAnyH_ready (rs := [11]) (by kernel_rfl) (by simp) ?_
    refine AllReadyH.cons (o := _) rfl (fun K hK => ?_) AllReadyH.nil
    go_simp
    refine hK.out _ _ (HFS.out _ _ HT3.out.drop) (fun hHeld => ?_)
    clear hK K rn ln
    refine tkH 12 rfl ?_
    simp only [Act.put, List.setIfInBounds_toArray, List.set_cons_zero, List.set_cons_succ]
    refine wpAnyH_done (by kernel_rfl) ?_ _
    try simp only [Exit.then]
    go_step
    go_meet
    case rel => exact ⟨rfl, _, rfl, HT3.out⟩
   ·have T2 := HT2.out.new (DV fun _ => 0) 66
    refine AllReadyH.cons (o := _) rfl (fun K hK => ?_) AllReadyH.nil
    go_simp
    refine hK.out _ _ (HFS.out _ _ T2.drop) (fun hHeld => ?_)
    clear hK K HT2
    have HT2 := Lib.hid T2; clear T2
    refine wpAnyH_ready (rs := [6]) (by kernel_rfl) (by simp) ?_
    refine AllReadyH.cons (o := _) rfl (fun K hK => ?_) AllReadyH.nil
    go_simp
    refine (HWY.out _ _ (HT2.out.ord [5, 0, 1, 2, 3, 4])).mono ?_
    clear HT2
    rintro e5 w5 ⟨rfl, T⟩
    have T := T.ord [1, 2, 3, 4, 5, 0]
    refine hK.out _ _ (HFS.out _ _ T.drop) (fun hHeld => ?_)
    clear hK K
    refine tkH 7 rfl ?_
    simp only [Act.put, List.setIfInBounds_toArray, List.set_cons_zero, List.set_cons_succ]
    refine tkH 8 rfl ?_
    go_frame
    refine tkH 9 rfl ?_
    go_frame
    have rn := T.row; have ln := row_lt rn
    have HT3 := Lib.hid (T.setRow (DV O)); clear T
    refine wpAnyH_ready (rs := [11]) (by kernel_rfl) (by simp) ?_
    refine AllReadyH.cons (o := _) rfl (fun K hK => ?_) AllReadyH.nil
    go_simp
    refine hK.out _ _ (HFS.out _ _ HT3.out.drop) (fun hHeld => ?_)
    clear hK K rn ln
    refine tkH 12 rfl ?_
    simp only [Act.put, List.setIfInBounds_toArray, List.set_cons_zero, List.set_cons_succ]
    refine wpAnyH_done (by kernel_rfl) ?_ _
    try simp only [Exit.then]
    go_step
    go_meet
    case rel => exact ⟨rfl, _, rfl, HT3.out⟩
  case rest =>
   obtain ⟨rfl, b8, rfl, T⟩ := hcut
   clear HT HWY
   have HT := Lib.hid (T.ord [1, 2, 3, 0]); clear T
   go_upto_region 9 with fail
   have FS : ∀ W' R', Sts w F W' (rowR g (rpV q n s inb out) :: rowR bd (EV d) :: rowR b6 (IV x) :: rowR b8 (DV O) :: R') → (W'.cell? ⟨g, 0, none⟩ = some (.int .i64 n) ∧ W'.cell? ⟨g, 1, none⟩ = some (.int .i64 s) ∧ row? W' bd = some (EV d) ∧ row? W' b6 = some (IV x) ∧ row? W' b8 = some (DV O)) := fun W' R' T' => ⟨row_cell T'.row 0, row_cell T'.row 1, T'.row1, T'.row2, T'.row3⟩
   have HT2 := Lib.hid HT.out.drew; clear HT
   have S0 := FS _ _ HT2.out
   have HFS := Lib.hid FS
   clear FS
   have HFB := Lib.hid (first_bal (s : Int))
   refine wp_region_held_drew (S := fun W' => W'.cell? ⟨g, 0, none⟩ = some (.int .i64 n) ∧ W'.cell? ⟨g, 1, none⟩ = some (.int .i64 s) ∧ row? W' bd = some (EV d) ∧ row? W' b6 = some (IV x) ∧ row? W' b8 = some (DV O)) (by kernel_rfl) S0 (fun hHeld => ?_)
   clear S0
   generalize World.drew _ = w5 at *
   refine tkH 0 rfl ?_
   simp only [Act.put, List.setIfInBounds_toArray, List.set_cons_zero, List.set_cons_succ]
   refine tkH 1 rfl ?_
   go_frame
   refine tkH 2 rfl ?_
   go_frame
   refine tkH 3 rfl ?_
   go_frame
   refine tkH 4 rfl ?_
   go_frame
   refine tkH 5 rfl ?_
   go_frame
   refine tkH 6 rfl ?_
   go_frame
   refine tkH 7 rfl ?_
   go_frame
   refine tkH 8 rfl ?_
   go_frame
   refine tkH 9 rfl ?_
   go_frame
   refine tkH 10 rfl ?_
   go_frame
   refine tkH 11 rfl ?_
   go_frame
   refine tkH 12 rfl ?_
   go_frame
   refine tkH 14 rfl ?_
   go_frame
   refine tkH 15 rfl ?_
   go_frame
   refine tkH 16 rfl ?_
   go_frame
   refine tkH 17 rfl ?_
   go_frame
   refine wpAnyH_ready (rs := [13]) (by kernel_rfl) (by simp) ?_
   refine AllReadyH.cons (o := _) rfl (fun K hK => ?_) AllReadyH.nil
   go_simp
   refine (HFB.out.at HT2.out).mono ?_
   clear HFB HT2
   rintro e6 w6 ⟨rfl, T⟩
   have HT := Lib.hid T; clear T
   refine hK.out _ _ (HFS.out _ _ HT.out) (fun hHeld => ?_)
   clear hK K
   refine wpAnyH_ready (rs := [18]) (by kernel_rfl) (by simp) ?_
   refine AllReadyH.cons (o := _) rfl (fun K hK => ?_) AllReadyH.nil
   go_simp
   refine (ldNewT (n : Int) (s : Int) x ⟨0, s⟩ ⟨d, O, sq⟩ HT.out).mono ?_
   clear HT
   rintro e7 w7 ⟨gl, rfl, T⟩
   have HT := Lib.hid (T.ord [1, 2, 3, 4, 0]); clear T
   refine hK.out _ _ (HFS.out _ _ HT.out) (fun hHeld => ?_)
   clear hK K
   refine tkH 19 rfl ?_
   simp only [Act.put, List.setIfInBounds_toArray, List.set_cons_zero, List.set_cons_succ]
   refine wpAnyH_done (by kernel_rfl) ?_ _
   try simp only [Exit.then]
   clear hHeld HFS
   go_upto_region 10 with fail
   generalize hX : ldC (n : Int) (s : Int) x ⟨0, s⟩ ⟨d, O, sq⟩ 1 noVotes = X at *
   have HX := Lib.hid hX; clear hX
   -- [ml, mm, g, b6, ..]
   have FS : ∀ W' R' (a b : Res), Sts w F W' (a :: b :: rowR g (rpV q n s inb out) :: rowR b6 (IV x) :: R') → (W'.cell? ⟨g, 4, none⟩ = some (.map (some q.ml)) ∧ W'.cell? ⟨g, 9, none⟩ = some (.map (some q.mm)) ∧ row? W' b6 = some (IV x)) := fun W' R' a b T' => ⟨row_cell T'.row2 4, row_cell T'.row2 9, T'.row3⟩
   have HT2 := Lib.hid (HT.out.drew.ord [11, 10, 0, 2, 1, 3, 4, 5, 6, 7, 8, 9]); clear HT
   have S0 := FS _ _ _ _ HT2.out
   have HFS := Lib.hid FS; clear FS
   have HM : Hid (∀ W' : World, (W'.cell? ⟨g, 4, none⟩ = some (.map (some q.ml)) ∧ W'.cell? ⟨g, 9, none⟩ = some (.map (some q.mm)) ∧ row? W' b6 = some (IV x)) → (W'.cell? ⟨g, 4, none⟩ = some (.map (some q.ml)) ∧ W'.cell? ⟨g, 9, none⟩ = some (.map (some q.mm)) ∧ row? W' b6 = some (IV x))) := Lib.hid fun _ h => h
   refine wp_region_stage (fun W' => W'.cell? ⟨g, 4, none⟩ = some (.map (some q.ml)) ∧ W'.cell? ⟨g, 9, none⟩ = some (.map (some q.mm)) ∧ row? W' b6 = some (IV x)) (fun W' => W'.cell? ⟨g, 4, none⟩ = some (.map (some q.ml)) ∧ W'.cell? ⟨g, 9, none⟩ = some (.map (some q.mm)) ∧ row? W' b6 = some (IV x)) 11 (by kernel_rfl) S0 (fun hHeld => ?_)
   clear S0
   generalize World.drew _ = w8 at *
   refine tk1 0 HM.out rfl ?_
   simp only [Act.put, List.setIfInBounds_toArray, List.set_cons_zero, List.set_cons_succ]
   refine tk1 1 HM.out rfl ?_
   go_frame
   refine tk1 2 HM.out rfl ?_
   go_frame
   refine tk0 3 rfl ?_
   simp only [Act.put, List.setIfInBounds_toArray, List.set_cons_zero, List.set_cons_succ]
   refine tk0 4 rfl ?_
   go_frame
   refine tk1 5 HM.out rfl ?_
   simp only [Act.put, List.setIfInBounds_toArray, List.set_cons_zero, List.set_cons_succ]
   refine tk1 6 HM.out rfl ?_
   go_frame
   refine tk1 7 HM.out rfl ?_
   go_frame
   refine tk0 8 rfl ?_
   simp only [Act.put, List.setIfInBounds_toArray, List.set_cons_zero, List.set_cons_succ]
   refine tk1 9 HM.out rfl ?_
   simp only [Act.put, List.setIfInBounds_toArray, List.set_cons_zero, List.set_cons_succ]
   refine tk1 10 HM.out rfl ?_
   go_frame
   have T1 := HT2.out
   have rk := T1.row2; have rx := T1.row3
   have nk := neMapR T1 rk; have nx := neMapR T1 rx
   obtain ⟨e0, s0, w9, w10, h5, h6, T2, -, hoth, -⟩ := mapR_entry T1 itemOk itemKL Tryz.underlying47 (z := .pointer none) (fun u => by kernel_rfl) (by unfold maxLen; omega) x HXI.out gl
   have rk5 := row_else hoth rk nk; have rx5 := row_else hoth rx nx
   have S5 : w9.cell? ⟨g, 4, none⟩ = some (.map (some q.ml)) ∧ w9.cell? ⟨g, 9, none⟩ = some (.map (some q.mm)) ∧ row? w9 b6 = some (IV x) := ⟨row_cell rk5 4, row_cell rk5 9, rx5⟩
   have HS5 := Lib.hid S5; have HT3 := Lib.hid T2; have H6 := Lib.hid h6
   clear S5 T1 T2 rk rx nk nx rk5 rx5 HT2 hoth h6
   refine wpAnyL_ready (rs := [11]) (by kernel_rfl) (by simp) ?_
   refine AllReadyL.cons1 (o := _) rfl (by kernel_rfl) (fun K hK => ?_) AllReadyL.nil
   go_simp
   refine hK.out _ _ HS5.out (fun hHeld => ?_)
   clear hK K HS5 h5
   refine tk2 12 HM.out rfl ?_
   simp only [Act.put, List.setIfInBounds_toArray, List.set_cons_zero, List.set_cons_succ]
   have HS5 := Lib.hid (HFS.out _ _ _ _ HT3.out)
   have h6 := H6.out
   clear H6
   refine wpAnyL_ready (rs := [13]) (by kernel_rfl) (by simp) ?_
   refine AllReadyL.cons1 (o := _) rfl (by kernel_rfl) (fun K hK => ?_) AllReadyL.nil
   go_simp
   refine hK.out _ _ HS5.out (fun hHeld => ?_)
   clear hK K HS5 h6
   have T1 := HT3.out.swap
   have rk := T1.row2; have rx := T1.row3
   have nk := neMapR T1 rk; have nx := neMapR T1 rx
   obtain ⟨e1, s1, w11, w12, h5, h6, T2, -, hoth, -⟩ := mapR_entry T1 itemOk itemKL Tryz.underlying55 (z := .bool false) (fun u => by kernel_rfl) (by unfold maxLen; omega) x HXI.out ()
   have rk5 := row_else hoth rk nk; have rx5 := row_else hoth rx nx
   have S5 : w11.cell? ⟨g, 4, none⟩ = some (.map (some q.ml)) ∧ w11.cell? ⟨g, 9, none⟩ = some (.map (some q.mm)) ∧ row? w11 b6 = some (IV x) := ⟨row_cell rk5 4, row_cell rk5 9, rx5⟩
   have HS5 := Lib.hid S5; have HT4 := Lib.hid T2; have H6 := Lib.hid h6
   clear S5 T1 T2 rk rx nk nx rk5 rx5 HT3 hoth h6
   refine wpAnyL_ready (rs := [14]) (by kernel_rfl) (by simp) ?_
   refine AllReadyL.cons1 (o := _) rfl (by kernel_rfl) (fun K hK => ?_) AllReadyL.nil
   go_simp
   refine hK.out _ _ HS5.out (fun hHeld => ?_)
   clear hK K HS5 h5
   refine tk2 15 HM.out rfl ?_
   simp only [Act.put, List.setIfInBounds_toArray, List.set_cons_zero, List.set_cons_succ]
   have HS5 := Lib.hid (HFS.out _ _ _ _ HT4.out)
   have h6 := H6.out
   clear H6
   refine wpAnyL_ready (rs := [16]) (by kernel_rfl) (by simp) ?_
   refine AllReadyL.cons1 (o := _) rfl (by kernel_rfl) (fun K hK => ?_) AllReadyL.nil
   go_simp
   refine hK.out _ _ HS5.out (fun hHeld => ?_)
   clear hK K HS5 h6
   refine wpAnyL_done (by kernel_rfl) ?_ _
   try simp only [Exit.then]
   clear hHeld HFS HM
   -- [mine, lds, g, b6, bd, b8, gl, bx, SP, knd, em, lt, PP]
   have T5 := HT4.out.ord [6, 2, 10, 11, 9, 0, 1, 3, 4, 5, 7, 8, 12]
   rw [← HX.out] at T5
   have HSY := Lib.hid (ldSayT (n := n) (V := noVotes) hn7 (by kernel_rfl) T5)
   clear T5 HT4 HX
   go_wp2_with fail
   refine HSY.out.mono ?_
   clear HSY
   rintro e13 w13 ⟨vm, rfl, T⟩
   have T6 := T.ord [2, 3, 4, 0, 5, 1, 6, 7, 8, 9, 10, 11, 12, 13]
   have HT := Lib.hid T6; clear T T6
   go_wp2_with fail
   refine (HSD.out _ _ _ HT.out).mono ?_
   clear HSD HT
   rintro e14 w14 ⟨inb2, out2, ls2, rfl, hl2, T⟩
   -- [g, one, lt, knd, gl, mine, lds, b6, bd, b8, bx, SP, PP]
   have T7 := HUN.out _ _ (T.ord [12, 11, 3, 0, 1, 2, 6, 4, 5, 7, 10, 8, 9])
   have T8 : Sts w F w14 (ldsR q.mr 0 (fun _ => none) :: pcR q.bp bw bt n s :: rowR bw #[v, .int .i64 turn] :: skR v l :: trR bt :: rnR q.br gg :: SP :: kndR t :: rowR g (rpV q n s inb2 out2) :: oneR 25 inb2 (MV (preMsg s x ⟨d, O, sq⟩ s)) :: vecR 148 3 out2 ls2.length (vl LTV ls2) :: ldsR q.ml (j + 1) (putF fl x gl) :: rowR gl (ldC n s x ⟨0, s⟩ ⟨d, O, sq⟩ 1 noVotes) :: mineR q.mm (jm + 1) (putF fm x ()) :: rowR b6 (IV x) :: rowR bx (IV noItem) :: rowR bd (EV d) :: rowR b8 (DV O) :: R) := T7
   have T9 := HUS.out _ _ (T8.ord [6, 7, 8, 9, 10, 11, 12, 0, 1, 2, 3, 4, 5, 13, 14, 15, 16, 17])
   have HDD := Lib.hid (HDR.out _ _ _ _ gl _ (by have := HLS.out; have := HT2f.out; omega) T9)
   clear T T7 T8 T9 HDR HUN HUS
   go_wp2_with fail
   refine HDD.out.mono ?_
   clear HDD
   rintro e15 w15 ⟨v', inb3, out3, ls3, I3, D3, safe3, same, c0, rfl, hl3, hv3, T⟩
   have T1 := Sts.pack (L := spL q.sp lg p gx bk bs I3 D3 safe3 (setM m x (nowI s same c0))) T
   have T2 := T1.ord [14, 13, 15, 16, 0, 1, 2, 3, 4, 12, 5, 6, 7, 8, 9, 10, 11]
   have rx := T2.row; have lx := row_lt rx
   have r6 := T2.row1; have l6 := row_lt r6
   have HT := Lib.hid (T2.setRow (IV x)); have HV3 := Lib.hid hv3
   have hl : ls3.length = ls.length + 2 * f := by rw [hl3, hl2]
   have HL := Lib.hid hl
   clear T T1 T2 hv3 hl3 hl2 hl
   go_wp2
   refine ret_row2 (IV x) TItem_und rfl (by kernel_rfl) rfl rfl rfl (TItem_size _) HT.out.row ?_
   exact ⟨v', inb3, out3, ls3, I3, D3, safe3, _, _, _, rfl, HL.out, HV3.out, HTP.out _, HT.out.drop.drop.drop.drop.unpack⟩
end
end Go.Proofs.YtomlilkobhkoiaaGreatDoor
/- A region that draws its order, by what holds whatever has been done so far. Nothing of the program stands here. -/
namespace Go.Proofs.YtomlilkobhkoiaaGreatDoor
open Go.RowKit
set_option linter.unusedVariables false
section
variable {P : Program} {ops : Array Oper} {Q : Exit → Act → World → Prop} {md : Region.Mode} {S : World → Prop}
def openN (L : Array Bool) : Nat := (L.toList.filter (fun b => !b)).length
theorem openN_set : ∀ (l : List Bool) (i : Nat), l.getD i true = false → ((l.set i true).filter (fun b => !b)).length + 1 = (l.filter (fun b => !b)).length
 | [], i, h => by simp at h
 | b :: l, 0, h => by
  simp at h
  subst h
  simp
 | b :: l, i + 1, h => by
  have h1 : l.getD i true = false := by simpa using h
  have ih := openN_set l i h1
  cases b <;> simp [List.set_cons_succ] <;> omega
theorem wpAnyH_inv {Inv : Array Bool → Act → World → Prop}
  (hS : ∀ L a w, Inv L a w → S w)
  (hstep : ∀ L a w i, Inv L a w → i ∈ Region.ready md ops L → wpOp P ops Q i (fun a' w' => Inv (L.setIfInBounds i true) a' w') a w)
  (hdone : ∀ L a w, Inv L a w → Region.ready md ops L = [] → Q .normal a w) :
  ∀ (fuel : Nat) (L : Array Bool) (a : Act) (w : World), openN L ≤ fuel → Inv L a w → wpAnyH P md ops Q S fuel L a w
 | 0, L, a, w, hn, hI => by
  have hr : Region.ready md ops L = [] := by
   refine List.eq_nil_iff_forall_not_mem.2 fun i hi => ?_
   have h1 := (mem_ready.1 hi).1
   have h2 := openN_set L.toList i (by simpa [Array.getD_eq_getD_getElem?, List.getD_eq_getElem?_getD] using h1)
   unfold openN at hn
   omega
  exact ⟨hr, hdone L a w hI hr⟩
 | fuel + 1, L, a, w, hn, hI => by
  refine ⟨fun hr => hdone L a w hI hr, fun i hi => ?_⟩
  refine wpOp_mono (fun a' w' h => ?_) (hstep L a w i hI hi)
  refine ⟨hS _ _ _ h, wpAnyH_inv hS hstep hdone fuel _ a' w' ?_ h⟩
  have h1 := (mem_ready.1 hi).1
  have h2 := openN_set L.toList i (by simpa [Array.getD_eq_getD_getElem?, List.getD_eq_getElem?_getD] using h1)
  unfold openN at hn ⊢
  rw [Array.toList_setIfInBounds]
  omega
end
end Go.Proofs.YtomlilkobhkoiaaGreatDoor
/- Layer 15: what the document tells. -/
namespace Go.Proofs.YtomlilkobhkoiaaGreatDoor
open Go.RowKit
set_option linter.unusedVariables false
set_option maxRecDepth 20000
attribute [local go_sem] row_alloc row_drew row_drewN row_ext row_setCell row_setRow size_ext setRow_alloc setRow_drew loadOf storeOf piece_lit loadVal_at storeVal_at allOne_lit buildOf buildRes_some
attribute [local go_sem high] cell_alloc frozen_alloc setCell_alloc cell_ext frozen_ext cell_setRow frozen_setRow
attribute [local go_sem ↓] TDeed_ld0 TDeed_st0 TDeed_fd0 TDeed_bd0
attribute [local go_sem] TDeed_size TDeed_one TDeed_piece TDeed_c0 TDeed_c1 TDeed_c2 TDeed_c3 TDeed_c4 TDeed_c5 TDeed_set_kind TDeed_set_key TDeed_set_val TDeed_set_ver TDeed_set_ses TDeed_set_num TDeed_ld TDeed_st TDeed_f_kind TDeed_f_key TDeed_f_val TDeed_f_ver TDeed_f_ses TDeed_f_num TDeed_bd TDeed_fl TDeed_fl_kind TDeed_fl_key TDeed_fl_val TDeed_fl_ver TDeed_fl_ses TDeed_fl_num
attribute [local go_sem high] TDeed_eql TDeed_neq
attribute [local go_sem ↓] index_deps0 load_deps0 store_deps0
attribute [local go_sem] DV_piece DV_size DV_one index_deps load_deps store_deps
attribute [local go_sem high] TDeps_eql TDeps_neq
attribute [local go_sem ↓] TCall_ld0 TCall_st0 TCall_fd0 TCall_bd0
attribute [local go_sem] TCall_size TCall_one TCall_piece TCall_c0 TCall_c1 TCall_c2 TCall_c3 TCall_c4 TCall_c5 TCall_c6 TCall_c7 TCall_c8 TCall_c9 TCall_c10 TCall_c11 TCall_c12 TCall_c13 TCall_p_deed TCall_put_deed TCall_p_deps TCall_put_deps TCall_set_seq TCall_ld TCall_st TCall_f_deed TCall_f_deps TCall_f_seq TCall_bd TCall_fl TCall_fl_deed TCall_fl_deps TCall_fl_seq
attribute [local go_sem high] TCall_eql TCall_neq
attribute [local go_sem ↓] TItem_ld0 TItem_st0 TItem_fd0 TItem_bd0
attribute [local go_sem] TItem_size TItem_one TItem_piece TItem_c0 TItem_c1 TItem_set_rep TItem_set_num TItem_ld TItem_st TItem_f_rep TItem_f_num TItem_bd TItem_fl TItem_fl_rep TItem_fl_num
attribute [local go_sem high] TItem_eql TItem_neq
attribute [local go_sem ↓] TBallot_ld0 TBallot_st0 TBallot_fd0 TBallot_bd0
attribute [local go_sem] TBallot_size TBallot_one TBallot_piece TBallot_c0 TBallot_c1 TBallot_set_round TBallot_set_rep TBallot_ld TBallot_st TBallot_f_round TBallot_f_rep TBallot_bd TBallot_fl TBallot_fl_round TBallot_fl_rep
attribute [local go_sem high] TBallot_eql TBallot_neq
attribute [local go_sem ↓] TInst_ld0 TInst_st0 TInst_fd0 TInst_bd0
attribute [local go_sem] TInst_size TInst_one TInst_piece TInst_c0 TInst_c1 TInst_c2 TInst_c3 TInst_c4 TInst_c5 TInst_c6 TInst_c7 TInst_c8 TInst_c9 TInst_c10 TInst_c11 TInst_c12 TInst_c13 TInst_c14 TInst_c15 TInst_c16 TInst_c17 TInst_c18 TInst_c19 TInst_p_prom TInst_put_prom TInst_p_vote TInst_put_vote TInst_set_status TInst_p_call TInst_put_call TInst_set_same TInst_ld TInst_st TInst_f_prom TInst_f_vote TInst_f_status TInst_f_call TInst_f_same TInst_bd TInst_fl TInst_fl_prom TInst_fl_vote TInst_fl_status TInst_fl_call TInst_fl_same
attribute [local go_sem high] TInst_eql TInst_neq
attribute [local go_sem ↓] TMsg_ld0 TMsg_st0 TMsg_fd0 TMsg_bd0
attribute [local go_sem] TMsg_size TMsg_one TMsg_piece TMsg_c0 TMsg_c1 TMsg_c2 TMsg_c3 TMsg_c4 TMsg_c5 TMsg_c6 TMsg_c7 TMsg_c8 TMsg_c9 TMsg_c10 TMsg_c11 TMsg_c12 TMsg_c13 TMsg_c14 TMsg_c15 TMsg_c16 TMsg_c17 TMsg_c18 TMsg_c19 TMsg_c20 TMsg_c21 TMsg_c22 TMsg_c23 TMsg_c24 TMsg_set_kind TMsg_set_frm TMsg_set_to TMsg_p_item TMsg_put_item TMsg_p_bal TMsg_put_bal TMsg_p_vote TMsg_put_vote TMsg_set_status TMsg_set_same TMsg_p_call TMsg_put_call TMsg_ld TMsg_st TMsg_f_kind TMsg_f_frm TMsg_f_to TMsg_f_item TMsg_f_bal TMsg_f_vote TMsg_f_status TMsg_f_same TMsg_f_call TMsg_bd TMsg_fl TMsg_fl_kind TMsg_fl_frm TMsg_fl_to TMsg_fl_item TMsg_fl_bal TMsg_fl_vote TMsg_fl_status TMsg_fl_same TMsg_fl_call
attribute [local go_sem high] TMsg_eql TMsg_neq
theorem VotI.open {n : Int} (hs : sizeB n = true) : VotI n 0 (idxF (ents (mK n (goT n [])))) (openD n []) (mK n (goT n [])) := by
 refine ⟨SpI.open (sizeB_n hs) (by simp) 0, ?_, ?_⟩
 ·simp [openD, goT_nil]
 ·unfold sizeB at hs; simp at hs; omega
end Go.Proofs.YtomlilkobhkoiaaGreatDoor
