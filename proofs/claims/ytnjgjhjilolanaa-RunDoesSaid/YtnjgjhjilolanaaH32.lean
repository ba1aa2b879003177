/- Several texts in one. -/
import Derived.Test.YtnjgjhjilolanaaH31
import Derived.Test.YtnjgjhjilolanaaH1
import Derived.Test.YtnjgjhjilolanaaH29
/- Layer 19: is an item done? The one call that is committed ahead of all statements, plain. -/
namespace Go.Proofs.Ytnjgjhjilolanaa
open Go.RowKit Go.Shelf
set_option linter.unusedVariables false
set_option maxRecDepth 20000
attribute [local go_sem] row_alloc row_drew row_drewN row_ext row_setCell row_setRow size_ext setRow_alloc setRow_drew loadOf storeOf piece_lit loadVal_at storeVal_at allOne_lit buildOf buildRes_some
attribute [local go_sem high] cell_alloc frozen_alloc setCell_alloc cell_ext frozen_ext cell_setRow frozen_setRow
attribute [local go_sem ↓] TDeed_ld0 TDeed_st0 TDeed_fd0 TDeed_bd0
attribute [local go_sem] TDeed_size TDeed_one TDeed_piece TDeed_c0 TDeed_c1 TDeed_c2 TDeed_c3 TDeed_c4 TDeed_c5 TDeed_set_kind TDeed_set_key TDeed_set_val TDeed_set_ver TDeed_set_ses TDeed_set_num TDeed_ld TDeed_st TDeed_f_kind TDeed_f_key TDeed_f_val TDeed_f_ver TDeed_f_ses TDeed_f_num TDeed_bd TDeed_fl TDeed_fl_kind TDeed_fl_key TDeed_fl_val TDeed_fl_ver TDeed_fl_ses TDeed_fl_num
attribute [local go_sem high] TDeed_eql TDeed_neq
attribute [local go_sem ↓] index_deps0 load_deps0 store_deps0
attribute [local go_sem] DV_piece DV_size DV_one index_deps load_deps store_deps
attribute [local go_sem high] TDeps_eql TDeps_neq
attribute [local go_sem ↓] TCall_ld0 TCall_st0 TCall_fd0 TCall_bd0
attribute [local go_sem] TCall_size TCall_one TCall_piece TCall_c0 TCall_c1 TCall_c2 TCall_c3 TCall_c4 TCall_c5 TCall_c6 TCall_c7 TCall_c8 TCall_c9 TCall_c10 TCall_c11 TCall_c12 TCall_c13 TCall_p_deed TCall_put_deed TCall_p_deps TCall_put_deps TCall_set_seq TCall_ld TCall_st TCall_f_deed TCall_f_deps TCall_f_seq TCall_bd TCall_fl TCall_fl_deed TCall_fl_deps TCall_fl_seq
attribute [local go_sem high] TCall_eql TCall_neq
attribute [local go_sem ↓] TItem_ld0 TItem_st0 TItem_fd0 TItem_bd0
attribute [local go_sem] TItem_size TItem_one TItem_piece TItem_c0 TItem_c1 TItem_set_rep TItem_set_num TItem_ld TItem_st TItem_f_rep TItem_f_num TItem_bd TItem_fl TItem_fl_rep TItem_fl_num
attribute [local go_sem high] TItem_eql TItem_neq
section
variable {w W : World} {F : Nat → Prop} {R : List Res} {r : Nat} {m : RowsMK} {q : RowsML} {D O : List Item}
set_option maxHeartbeats 4000000 in
theorem runOverT (hq : 0 ≤ q.n ∧ q.n ≤ 7) (x : Item) (T : Sts w F W (runR r m q D O :: R)) :
    Calls Try.prog 39 #[.pointer (some ⟨r, 0, none⟩), .agg (IV x)] W fun e W' => e = .returned (.bool (getML q x).isSome) ∧ Sts w F W' (runR r m q D O :: R) := by
  obtain ⟨b, gc, gd, vd, vo, T1⟩ := T.runOpen
  have HT := Lib.hid ((T1.new (IV x) 35).ord [1, 0, 2, 3, 4, 5, 6])
  have HOV := Lib.hid (grOverR b gc gd m q hq x)
  obtain ⟨ov, hov⟩ : ∃ v, v = (getML q x).isSome := ⟨_, rfl⟩
  rw [← hov] at HOV ⊢
  clear T T1 hov
  go_enter Try.func39, Try.ntmps39
  go_upto_region 1 with fail
  generalize hw3 : W.alloc _ = w3 at *
  generalize W.heap.size = gx at *
  clear hw3
  have FS : ∀ W' R', Sts w F W' (rowR r (runC b vd vo) :: rowR gx (IV x) :: R') → (W'.cell? ⟨r, 0, none⟩ = some (.pointer (some ⟨b, 0, none⟩)) ∧ row? W' gx = some (IV x)) := fun W' R' T => ⟨row_cell T.row 0, T.row1⟩
  have HFS := Lib.hid FS
  have HT0 := Lib.hid HT.out.drew
  have S0 := HFS.out _ _ HT0.out
  clear HT FS
  refine wp_region_held_drew (S := fun W' => (W'.cell? ⟨r, 0, none⟩ = some (.pointer (some ⟨b, 0, none⟩)) ∧ row? W' gx = some (IV x))) (by kernel_rfl) S0 (fun hHeld => ?_)
  clear S0
  refine tkH 0 rfl ?_
  simp only [Act.put, List.setIfInBounds_toArray, List.set_cons_zero, List.set_cons_succ]
  refine tkH 1 rfl ?_
  go_frame
  refine tkH 2 rfl ?_
  go_frame
  refine tkH 3 rfl ?_
  go_frame
  refine tkH 4 rfl ?_
  go_frame
  refine tkH 5 rfl ?_
  go_frame
  refine tkH 6 rfl ?_
  go_frame
  refine tkH 7 rfl ?_
  go_frame
  refine wpAnyH_ready (rs := [8]) (by kernel_rfl) (by simp) ?_
  refine AllReadyH.cons (o := _) rfl (fun K hK => ?_) AllReadyH.nil
  go_simp
  refine (HOV.out.at (R := rowR r (runC b vd vo) :: rowR gx (IV x) :: _) (by have T0 := HT0.out.ord [2, 3, 4, 0, 1]; exact T0)).mono ?_
  clear HOV
  rintro e5 w5 ⟨rfl, hb⟩
  have HT := Lib.hid (HT0.out.pure hb)
  clear hb HT0
  refine hK.out _ _ (HFS.out _ _ HT.out) (fun hHeld => ?_)
  clear hK K HFS
  refine tkH 9 rfl ?_
  simp only [Act.put, List.setIfInBounds_toArray, List.set_cons_zero, List.set_cons_succ]
  refine tkH 10 rfl ?_
  go_frame
  refine wpAnyH_done (by kernel_rfl) ?_ _
  try simp only [Exit.then]
  have HT2 := Lib.hid ((HT.out.ord [1, 0]).drop.runShut)
  clear HT
  go_wp2
  go_ret
  exact ⟨rfl, HT2.out⟩
end
def cS : Call := ⟨noCall.deed, noCall.deps, 4⟩
theorem itemsR19 : itemsL cS.deps = [] := by kernel_rfl
theorem canS : canC ⟨3, fun _ => []⟩ itB cS = true := by
  rw [(GBld.new 3).can]
  have h1 : goodI itB 3 = true := by decide
  have h2 : goodD cS.deps 7 = true := by decide
  rw [h1, h2]
  simp [idxI]
theorem bldS : GBld 3 1 (comC ⟨3, fun _ => []⟩ itB cS) ⟨3, fun _ => []⟩ [itB] [cS] [] := (GBld.new 3).commit canS
theorem callS : callM (comC ⟨3, fun _ => []⟩ itB cS) itB = cS := by
  unfold callM
  rw [bldS.get]
  have h : idxN itB [itB] = 0 := idxN_same (l := []) (by simp)
  rw [h]
  rfl
theorem sortO_one (x : Item) : sortO ([] ++ [x]) = [x] := List.perm_singleton.1 (sortO_perm _)
theorem goS1 {q1 : RowsML} {O1 l : List Item} (h : GoR (comC ⟨3, fun _ => []⟩ itB cS) [itB] [itB] ⟨3, fun _ => []⟩ [itB] q1 O1 l) : l = [itB] := by
  obtain ⟨P, M, l2, ho, hl, _, _, hl2⟩ := h
  have hB := bldS
  have G := hB.inv (by omega)
  have a1 : (getMK (comC ⟨3, fun _ => []⟩ itB cS) itB).isSome = true := (hB.is itB).2 (by simp)
  have a2 : (getML ⟨3, fun _ => []⟩ itB).isSome = false := by rw [getML_new]; rfl
  obtain ⟨-, h2, h3, h4, h5, -, -, h8⟩ := ord_all G a1 a2 ho
  have hw : waitsM (comC ⟨3, fun _ => []⟩ itB cS) ⟨3, fun _ => []⟩ itB = [] := by
    unfold waitsM
    rw [show (getMK (comC ⟨3, fun _ => []⟩ itB cS) itB).getD noCall = cS from callS, itemsR19]
    rfl
  have hnb : ¬ Bad (comC ⟨3, fun _ => []⟩ itB cS) ⟨3, fun _ => []⟩ itB := fun hb => by
    cases hb with
    | here c1 c2 c3 c4 => rw [hw] at c3; simp at c3
    | up c1 c2 c3 c4 => rw [hw] at c3; simp at c3
  have hM : M = [] := by
    by_cases hM : M = []
    · exact hM
    · exact absurd (h4 hM).2 hnb
  have hx := (h5 hM).1
  subst hl2
  rw [List.append_nil] at hl
  rw [← hl] at h8 hx h3
  match l, h8, hx, h3 with
  | [], _, hx, _ => simp at hx
  | [y], _, hx, _ => simp at hx; rw [hx]
  | a :: b :: c, h8, _, _ => simp at h8
theorem goS {q1 : RowsML} {O1 pre post : List Item} {y : Item} (h : GoR (comC ⟨3, fun _ => []⟩ itB cS) [itB] [itB] ⟨3, fun _ => []⟩ [itB] q1 O1 (pre ++ y :: post)) : pre = [] ∧ y = itB ∧ q1 = doneM ⟨3, fun _ => []⟩ [itB] := by
  have hd := h.done
  have hl := goS1 h
  rw [hl] at hd
  have hlen := congrArg List.length hl
  simp at hlen
  have h1 : pre = [] := List.eq_nil_of_length_eq_zero (by omega)
  subst h1
  simp at hl
  exact ⟨rfl, hl.1, hd⟩
theorem overS : (getML (doneM ⟨3, fun _ => []⟩ [itB]) itB).isSome = true := (doneM_is [itB] ⟨3, fun _ => []⟩ (fun y hy => by simp at hy; subst hy; decide) itB).2 (.inr (by simp))
end Go.Proofs.Ytnjgjhjilolanaa
/- Layer 19: the one call that is committed ahead of all statements. -/
namespace Go.Proofs.Ytnjgjhjilolanaa
open Go.RowKit Go.Shelf
set_option linter.unusedVariables false
set_option maxRecDepth 20000
attribute [local go_sem] Oper.semAt_some
attribute [local go_sem] row_alloc row_drew row_drewN row_ext row_setCell row_setRow size_ext setRow_alloc setRow_drew loadOf storeOf piece_lit loadVal_at storeVal_at allOne_lit buildOf buildRes_some
attribute [local go_sem high] cell_alloc frozen_alloc setCell_alloc cell_ext frozen_ext cell_setRow frozen_setRow
attribute [local go_sem ↓] TDeed_ld0 TDeed_st0 TDeed_fd0 TDeed_bd0
attribute [local go_sem] TDeed_size TDeed_one TDeed_piece TDeed_c0 TDeed_c1 TDeed_c2 TDeed_c3 TDeed_c4 TDeed_c5 TDeed_set_kind TDeed_set_key TDeed_set_val TDeed_set_ver TDeed_set_ses TDeed_set_num TDeed_ld TDeed_st TDeed_f_kind TDeed_f_key TDeed_f_val TDeed_f_ver TDeed_f_ses TDeed_f_num TDeed_bd TDeed_fl TDeed_fl_kind TDeed_fl_key TDeed_fl_val TDeed_fl_ver TDeed_fl_ses TDeed_fl_num
attribute [local go_sem high] TDeed_eql TDeed_neq
attribute [local go_sem ↓] index_deps0 load_deps0 store_deps0
attribute [local go_sem] DV_piece DV_size DV_one index_deps load_deps store_deps
attribute [local go_sem high] TDeps_eql TDeps_neq
attribute [local go_sem ↓] TCall_ld0 TCall_st0 TCall_fd0 TCall_bd0
attribute [local go_sem] TCall_size TCall_one TCall_piece TCall_c0 TCall_c1 TCall_c2 TCall_c3 TCall_c4 TCall_c5 TCall_c6 TCall_c7 TCall_c8 TCall_c9 TCall_c10 TCall_c11 TCall_c12 TCall_c13 TCall_p_deed TCall_put_deed TCall_p_deps TCall_put_deps TCall_set_seq TCall_ld TCall_st TCall_f_deed TCall_f_deps TCall_f_seq TCall_bd TCall_fl TCall_fl_deed TCall_fl_deps TCall_fl_seq
attribute [local go_sem high] TCall_eql TCall_neq
attribute [local go_sem ↓] TItem_ld0 TItem_st0 TItem_fd0 TItem_bd0
attribute [local go_sem] TItem_size TItem_one TItem_piece TItem_c0 TItem_c1 TItem_set_rep TItem_set_num TItem_ld TItem_st TItem_f_rep TItem_f_num TItem_bd TItem_fl TItem_fl_rep TItem_fl_num
attribute [local go_sem high] TItem_eql TItem_neq
theorem results_cellR {P : Program} {fn : Func} {p : Tmp} {ty : TypeId} {d : TypeDesc} {tmps : Array Value} {w : World} {g : Nat} {v : Value} (h : fn.results = #[.cell p ty]) (hp : tmps.getD p undef = .pointer (some ⟨g, 0, none⟩)) (hc : w.cell? ⟨g, 0, none⟩ = some v) (hu : P.underlying ty = some d) (hd : d.isRow = false) :
    (results fn tmps).run P w = .ok v w := by
  have hp' : tmps[p]?.getD undef = .pointer (some ⟨g, 0, none⟩) := by simpa using hp
  have ha : (isAgg ty).run P w = .ok false w := by
    unfold isAgg
    simp only [Sem.run_bind, run_underlying hu, Result.andThen_ok]
    cases d <;> first | rfl | (cases hd; done)
  simp [results, h, hp', asAddr, loadVar, ha, hc]
section
variable {w W : World} {F : Nat → Prop} {R : List Res}
set_option maxHeartbeats 16000000 in
theorem alive19 (T : Sts w F W R) :
    Calls Try.prog 25 #[] W fun e W' => e = .returned (.bool true) ∧ Sts w F W' R := by
  refine (callsIn_wide (n := 4)).1 ?_
  refine callsIn_of_wp_marks Try.func25 rfl trivial ?_ rfl
  simp only [Try.ntmps25, List.size_toArray, List.length_nil, Nat.reduceSub, Array.replicate_succ, Array.replicate_zero, List.push_toArray, List.append_toArray, List.nil_append, List.cons_append]
  refine wpIn_wide.2 ?_
  have T0 := T.new #[.bool false] 4
  have HNW := Lib.hid (runNewT 3 (by omega) T0)
  clear T T0
  go_wp2_with fail
  generalize W.alloc _ = w0 at *
  generalize W.heap.size = g0 at *
  refine HNW.out.mono ?_
  clear HNW
  rintro e1 w1 ⟨r, rfl, T⟩
  have T2 := (T.new #[.pointer (some ⟨r, 0, none⟩)] 60).new (IV itB) 35
  rw [World.size_alloc] at T2
  have T3 := T2.ord [2, 1, 0, 3]
  have HT := Lib.hid T3
  have r1 := HT.out.row1; have l1 := row_lt r1
  have r2 := HT.out.row2; have l2 := row_lt r2
  have hn3 : newN 3 = 3 := rfl
  have hCM := runCommitT (by dsimp only; rw [hn3]; decide) (by simp) itB cS HT.out
  rw [hn3, canS, if_pos rfl, sortO_one] at hCM
  have HCM := Lib.hid hCM
  clear T T2 T3 HT hCM
  go_wp2_with fail
  refine HCM.out.mono ?_
  clear HCM r1 l1 r2 l2
  rintro e2 w2 ⟨rfl, T⟩
  have hB := bldS; have hcS := callS
  have hgo : ∀ (q1 : RowsML) (O1 pre post : List Item) (y : Item), GoR (comC ⟨3, fun _ => []⟩ itB cS) [itB] [itB] ⟨3, fun _ => []⟩ [itB] q1 O1 (pre ++ y :: post) → pre = [] ∧ y = itB ∧ q1 = doneM ⟨3, fun _ => []⟩ [itB] := fun _ _ _ _ _ h => goS h
  have hg1 : ∀ (q1 : RowsML) (O1 l : List Item), GoR (comC ⟨3, fun _ => []⟩ itB cS) [itB] [itB] ⟨3, fun _ => []⟩ [itB] q1 O1 l → l = [itB] := fun _ _ _ h => goS1 h
  generalize comC ⟨3, fun _ => []⟩ itB cS = m1 at *
  have HG1 := Lib.hid hg1; clear hg1
  have HB := Lib.hid hB; have HCS := Lib.hid hcS; have HGO := Lib.hid hgo
  clear hB hcS hgo
  have r1 := T.row1; have l1 := row_lt r1; have c1 := row_cell r1 0
  have HOP := Lib.hid (runOpenT (by simp) T)
  clear T
  go_wp2_with fail
  refine HOP.out.mono ?_
  clear HOP r1 l1 c1
  rintro e3 w3 ⟨v3, rfl, T⟩
  obtain ⟨A3, c3, rfl⟩ := vec_shape2 T
  have r1 := T.row2; have l1 := row_lt r1; have c1 := row_cell r1 0
  have HG := Lib.hid (runGoT (r := r) T.drop)
  clear T
  rw [List.length_singleton]
  go_wp2_with fail
  refine HG.out.mono ?_
  clear HG r1 l1 c1
  rintro e4 w4 ⟨g1, rfl, T⟩
  have T0 : Sts w F w4 ([rowR g0 #[.bool false], rowR w1.heap.size #[.pointer (some ⟨r, 0, none⟩)], rowR (w1.heap.size + 1) (IV itB)] ++ ([rowR g1 #[.pointer (some ⟨r, 0, none⟩)], runR r m1 ⟨3, fun _ => []⟩ [] [itB]] ++ R)) := by
    have T1 := T.ord [4, 2, 3, 0, 1]
    exact T1
  generalize w1.heap.size + 1 = gx at *
  generalize w1.heap.size = gr at *
  have HT0 := Lib.hid T0
  clear T T0
  go_wp2_with fail
  refine (wpIn_wide (n := 4)).1 ?_
  refine wp_rangeT (gf := 57) (lb := #[.pointer (some ⟨g1, 0, none⟩)]) (enc := fun x : Item => #[.agg (IV x), .agg (CV (callM m1 x))]) (O := fun xs => ∃ q1 O1, GoR m1 [itB] [itB] ⟨3, fun _ => []⟩ [itB] q1 O1 xs)
    (fun pre => match pre with | [] => [rowR g0 #[.bool false], rowR gr #[.pointer (some ⟨r, 0, none⟩)], rowR gx (IV itB)] | _ :: _ => [noR]) (fun c _ => match c with | .ret => [rowR g0 #[.bool true]] | _ => [noR]) [rowR g1 #[.pointer (some ⟨r, 0, none⟩)], runR r m1 ⟨3, fun _ => []⟩ [] [itB]] [rowR g1 #[.pointer (some ⟨r, 0, none⟩)], goneR r m1 [itB] ⟨3, fun _ => []⟩ [] [itB]] R
    (fun _ y a' own' => ∃ g4 g5, own' = [rowR g5 (CV (callM m1 y)), rowR g4 (IV y), rowR g0 #[.bool false], rowR gr #[.pointer (some ⟨r, 0, none⟩)], rowR gx (IV itB)] ∧ a' = { tmps := #[.pointer (some ⟨g0, 0, none⟩), .pointer (some ⟨gr, 0, none⟩), .pointer (some ⟨gx, 0, none⟩), .pointer (some ⟨g4, 0, none⟩), .pointer (some ⟨g5, 0, none⟩), .pointer (some ⟨r, 0, none⟩), .agg (IV itB), .pointer (some ⟨r, 0, none⟩), .agg (IV itB), .agg (CV cS), .bool true, .bool false, .bool false, .pointer (some ⟨r, 0, none⟩), .slice A3 1 c3, .int .i64 1, .bool false, .bool false, .pointer (some ⟨r, 0, none⟩), .func (.func 57) #[] #[.pointer (some ⟨g1, 0, none⟩)], .agg (IV y), .agg (CV (callM m1 y)), undef, undef, undef, undef, undef, undef, undef, undef, undef, undef, undef, undef, undef], defers := [] })
    rfl (enters_of Try.func57 (by kernel_rfl) rfl) (fun _ => rfl) (runGoG (by rw [HB.out.mn]; decide) (by dsimp only; decide) (HB.out.inv (by omega)) (by simp) (by simp) (fun y hy => (HB.out.inv (by omega)).fits y hy) (by simp)) HT0.out ?assign ?body ?done ?stop
  case assign =>
    rintro lr pre y w F W1 R K ⟨post, q1, O1, hx⟩ T1 hK
    obtain ⟨rfl, -, -⟩ := HGO.out _ _ _ _ _ hx
    have T2 := ((T1.new (IV y) 35).new (CV (callM m1 y)) 47)
    rw [World.size_alloc] at T2
    have HT2 := Lib.hid T2
    clear HT0 T1 T2 hx
    gi_wp2
    exact hK _ _ _ ⟨_, _, rfl, rfl⟩ HT2.out
  case body =>
    rintro lr pre y _ _ w F W1 R ⟨post, q1, O1, hx⟩ ⟨g4, g5, rfl, rfl⟩ T1
    obtain ⟨rfl, rfl, rfl⟩ := HGO.out _ _ _ _ _ hx
    clear HT0
    have T1 : Sts w F W1 (rowR g5 (CV (callM m1 itB)) :: rowR g4 (IV itB) :: rowR g0 #[.bool false] :: rowR gr #[.pointer (some ⟨r, 0, none⟩)] :: rowR gx (IV itB) :: rowR g1 #[.pointer (some ⟨r, 0, none⟩)] :: goneR r m1 [itB] ⟨3, fun _ => []⟩ [] [itB] :: R) := T1
    have T2 := (T1.ord [6, 0, 1, 2, 3, 4, 5]).goneSame hx
    rw [HCS.out] at T2
    have HOV := Lib.hid (runOverT (by rw [doneM_n]; dsimp only; decide) itB T2)
    rw [overS] at HOV
    have r5 := T2.row1; have l5 := row_lt r5
    have c5 : W1.cell? ⟨g5, 13, none⟩ = some (.int .i64 4) := by rw [row_cell r5 13]; rfl
    have r4 := T2.row2; have l4 := row_lt r4
    have rr := T2.row4; have lr2 := row_lt rr; have cr := row_cell rr 0
    have rx := (T2.ord [5, 0, 1, 2, 3, 4]).row; have lx := row_lt rx
    have he : eqA (IV itB) (IV itB) = true := eqA_refl _
    have HX := Lib.hid hx
    clear T1 T2 hx
    gi_wp2_with fail
    refine ⟨trivial, ?_⟩
    refine (CallsIn.inRound lr (callsIn_wide.2 HOV.out)).mono ?_
    clear HOV r5 l5 c5 r4 l4 rr lr2 cr rx lx
    rintro e6 w6 ⟨rfl, T⟩
    have T2 := T.goneShut HX.out
    have T3 := T2.ord [3, 6, 0, 1, 2, 4, 5]
    have r0 := T3.row; have l0 := row_lt r0; have c0 := row_cell r0 0; have f0 := row_frozen r0 0
    have T4 := T3.setCell 0 (.bool true)
    have T5 := (T4.ord [3, 4, 5, 6, 0, 1, 2]).drop.drop.drop.drop
    have HT := Lib.hid T5
    clear T T2 T3 T4 T5
    gi_wp2
    exact HT.out
  case done =>
    rintro D1 W1 xs ⟨q1, O1, hx⟩ T1
    cases xs with
    | nil =>
      have := HG1.out _ _ _ hx
      simp at this
    | cons a b => exact (Sts.no T1.drop).elim
  case stop =>
    intro D1 c1 pre W1 T1
    cases c1 with
    | ret =>
      clear HT0
      have T1 : Sts w F W1 (objR D1 (.deferred (some [])) :: rowR g0 #[.bool true] :: rowR g1 #[.pointer (some ⟨r, 0, none⟩)] :: goneR r m1 [itB] ⟨3, fun _ => []⟩ [] [itB] :: R) := T1
      have hD := T1.obj
      have T6 : Sts w F (W1.putObj D1 (.deferred none)) (rowR g0 #[.bool true] :: rowR g1 #[.pointer (some ⟨r, 0, none⟩)] :: goneR r m1 [itB] ⟨3, fun _ => []⟩ [] [itB] :: R) := (T1.putObj (.deferred none)).drop
      have HT := Lib.hid T6; have HD := Lib.hid hD; clear T1 T6 hD
      refine wpIn_wide.2 ?_
      go_wp2
      exact retM1 HD.out (results_cellR rfl rfl (row_cell HT.out.row 0) Try.underlying4 rfl) ⟨rfl, HT.out.drop.drop.drop⟩ rfl
    | _ => exact (Sts.no T1.drop).elim
end
end Go.Proofs.Ytnjgjhjilolanaa
/- Layer 19: two rows of items that are the same; how much a run does. -/
namespace Go.Proofs.Ytnjgjhjilolanaa
open Go.RowKit Go.Shelf
set_option linter.unusedVariables false
set_option maxRecDepth 20000
attribute [local go_sem] row_alloc row_drew row_drewN row_ext row_setCell row_setRow size_ext setRow_alloc setRow_drew loadOf storeOf piece_lit loadVal_at storeVal_at allOne_lit buildOf buildRes_some
attribute [local go_sem high] cell_alloc frozen_alloc setCell_alloc cell_ext frozen_ext cell_setRow frozen_setRow
attribute [local go_sem ↓] TDeed_ld0 TDeed_st0 TDeed_fd0 TDeed_bd0
attribute [local go_sem] TDeed_size TDeed_one TDeed_piece TDeed_c0 TDeed_c1 TDeed_c2 TDeed_c3 TDeed_c4 TDeed_c5 TDeed_set_kind TDeed_set_key TDeed_set_val TDeed_set_ver TDeed_set_ses TDeed_set_num TDeed_ld TDeed_st TDeed_f_kind TDeed_f_key TDeed_f_val TDeed_f_ver TDeed_f_ses TDeed_f_num TDeed_bd TDeed_fl TDeed_fl_kind TDeed_fl_key TDeed_fl_val TDeed_fl_ver TDeed_fl_ses TDeed_fl_num
attribute [local go_sem high] TDeed_eql TDeed_neq
attribute [local go_sem ↓] index_deps0 load_deps0 store_deps0
attribute [local go_sem] DV_piece DV_size DV_one index_deps load_deps store_deps
attribute [local go_sem high] TDeps_eql TDeps_neq
attribute [local go_sem ↓] TCall_ld0 TCall_st0 TCall_fd0 TCall_bd0
attribute [local go_sem] TCall_size TCall_one TCall_piece TCall_c0 TCall_c1 TCall_c2 TCall_c3 TCall_c4 TCall_c5 TCall_c6 TCall_c7 TCall_c8 TCall_c9 TCall_c10 TCall_c11 TCall_c12 TCall_c13 TCall_p_deed TCall_put_deed TCall_p_deps TCall_put_deps TCall_set_seq TCall_ld TCall_st TCall_f_deed TCall_f_deps TCall_f_seq TCall_bd TCall_fl TCall_fl_deed TCall_fl_deps TCall_fl_seq
attribute [local go_sem high] TCall_eql TCall_neq
attribute [local go_sem ↓] TItem_ld0 TItem_st0 TItem_fd0 TItem_bd0
attribute [local go_sem] TItem_size TItem_one TItem_piece TItem_c0 TItem_c1 TItem_set_rep TItem_set_num TItem_ld TItem_st TItem_f_rep TItem_f_num TItem_bd TItem_fl TItem_fl_rep TItem_fl_num
attribute [local go_sem high] TItem_eql TItem_neq
theorem GoR.len {m : RowsMK} {its : List Item} (G : GInv m its) (hits : its.length ≤ 511) : ∀ {xs : List Item} {q : RowsML} {O : List Item} {q1 : RowsML} {O1 l1 : List Item}, GoR m its xs q O q1 O1 l1 → l1.length ≤ xs.length * 511
  | [], q, O, q1, O1, l1, h => by obtain ⟨rfl, rfl, rfl⟩ := h; simp
  | a :: xs, q, O, q1, O1, l1, h => by
    obtain ⟨P1, M1, l2, h1, rfl, h2⟩ := h
    have h3 := GoR.len G hits h2
    have h4 := (ord_len G h1).1
    rw [List.length_append, List.length_cons]
    omega
section
variable {w W : World} {F : Nat → Prop} {R : List Res}
set_option maxHeartbeats 8000000 in
theorem rowSameT {v1 v2 : Value} {l : List Item} (hl : l.length ≤ 1000000) (T : Sts w F W (vecR 35 2 v1 l.length (vl IV l) :: vecR 35 2 v2 l.length (vl IV l) :: R)) :
    Calls Try.prog 32 #[v1, v2] W fun e W' => e = .returned (.bool true) ∧ Sts w F W' (vecR 35 2 v1 l.length (vl IV l) :: vecR 35 2 v2 l.length (vl IV l) :: R) := by
  obtain ⟨A1, c1, rfl⟩ := vec_shape2 T
  obtain ⟨A2, c2, rfl⟩ := vec_shape2 (T.ord [1, 0])
  obtain ⟨n, hn⟩ : ∃ n, n = l.length := ⟨_, rfl⟩
  have HN := Lib.hid hn
  have HT := Lib.hid T
  rw [← hn] at hl
  have e1 : (Value.slice A1 l.length c1) = .slice A1 n c1 := by rw [hn]
  have e2 : (Value.slice A2 l.length c2) = .slice A2 n c2 := by rw [hn]
  rw [show #[Value.slice A1 l.length c1, Value.slice A2 l.length c2] = #[Value.slice A1 n c1, Value.slice A2 n c2] by rw [e1, e2]]
  clear T hn e1 e2
  go_enter Try.func32, Try.ntmps32
  go_wp2_with fail
  go_loopw [13] (fun u13 wr => ∃ k : Nat, u13 = .int .i64 k ∧ k ≤ n ∧ Sts w F wr (vecR 35 2 (.slice A1 l.length c1) l.length (vl IV l) :: vecR 35 2 (.slice A2 l.length c2) l.length (vl IV l) :: R)) (fun u13 _ => n - (intOf u13).toNat)
  case atStart => exact ⟨0, rfl, Nat.zero_le _, HT.out⟩
  case round =>
    clear HT
    obtain ⟨k, rfl, hk, T⟩ := hrel
    by_cases hkn : k < n
    · have hk1 : (k : Int) < (n : Int) := by omega
      have hk0 : (0 : Int) ≤ (k : Int) := by omega
      obtain ⟨y, hy⟩ : ∃ y, l[k]? = some y := ⟨l[k]'(by rw [← HN.out]; exact hkn), List.getElem?_eq_getElem _⟩
      have T0 := T.drew
      obtain ⟨ga, rfl, hld⟩ := vec_load (P := Try.prog) (e := 35) TItem_size (by omega) TItem_und rfl (by kernel_rfl) T0 rfl hy (by have := HN.out; omega)
      obtain ⟨gb, rfl, hld2⟩ := vec_load (P := Try.prog) (e := 35) TItem_size (by omega) TItem_und rfl (by kernel_rfl) (T0.ord [1, 0]) rfl hy (by have := HN.out; omega)
      have he : eqA (IV y) (IV y) = true := eqA_refl _
      have HT := Lib.hid T0
      have S0 : (fun W' => loadVal Try.prog 35 2 W' (.pointer (some ⟨ga, k * 2, none⟩)) = .ok (.agg (IV y)) W' ∧ loadVal Try.prog 35 2 W' (.pointer (some ⟨gb, k * 2, none⟩)) = .ok (.agg (IV y)) W') wr.drew := ⟨hld, hld2⟩
      clear T T0 hy hld hld2
      go_upto_region 6 with fail
      refine wp_region_held_drew (S := fun W' => loadVal Try.prog 35 2 W' (.pointer (some ⟨ga, k * 2, none⟩)) = .ok (.agg (IV y)) W' ∧ loadVal Try.prog 35 2 W' (.pointer (some ⟨gb, k * 2, none⟩)) = .ok (.agg (IV y)) W') (by kernel_rfl) S0 (fun hHeld => ?_)
      clear S0
      refine tkH 0 rfl ?_
      simp only [Act.put, List.setIfInBounds_toArray, List.set_cons_zero, List.set_cons_succ]
      refine tkH 1 rfl ?_
      go_frame
      refine tkH 2 rfl ?_
      go_frame
      refine tkH 3 rfl ?_
      go_frame
      refine tkH 4 rfl ?_
      go_frame
      refine tkH 5 rfl ?_
      go_frame
      refine tkH 6 rfl ?_
      go_frame
      refine tkH 7 rfl ?_
      go_frame
      refine tkH 8 rfl ?_
      go_frame
      refine wpAnyH_done (by kernel_rfl) ?_ _
      try simp only [Exit.then]
      go_wp2
      go_roundw
      case rel => exact ⟨k + 1, by go_num, by omega, HT.out⟩
      case measure => simp [intOf]; omega
    · have hk1 : ¬ (k : Int) < (n : Int) := by omega
      have HT := Lib.hid T; clear T
      go_wp2
      go_ret
      exact ⟨rfl, HT.out⟩
end
end Go.Proofs.Ytnjgjhjilolanaa
/- Layer 19: what is more than is played. -/
namespace Go.Proofs.Ytnjgjhjilolanaa
open Go.RowKit Go.Shelf
set_option linter.unusedVariables false
set_option maxRecDepth 20000
attribute [local go_sem] Oper.semAt_some
theorem great19 (n : Int) (A : Option Addr) (k c : Nat) (hk : k ≤ 9223372036854775807) (w : World) : Calls Try.prog 26 #[.int .i64 n, .slice A k c] w fun e w' => e = .returned (.bool (greatG n k)) ∧ w' = w := by
  have hk' : (k : Int) ≤ 9223372036854775807 := by omega
  obtain ⟨v, hv⟩ : ∃ v, v = greatG n k := ⟨_, rfl⟩
  rw [← hv]
  have HV := Lib.hid hv; clear hv
  by_cases h25 : 25 < k
  · have h1 : (25 : Int) < (k : Int) := by omega
    have hv : v = true := by rw [HV.out, greatG, decide_eq_true h25, Bool.or_true]
    have HVV := Lib.hid hv; clear hv HV
    go_enter Try.func26, Try.ntmps26
    go_wp2
    all_goals (go_ret; refine ⟨?_, rfl⟩; rw [HVV.out]; try rfl; try simp)
  · have h1 : ¬ (25 : Int) < (k : Int) := by omega
    have hv : v = (decide (n ≠ 3) && decide (n ≠ 5) && decide (n ≠ 7)) := by rw [HV.out, greatG, decide_eq_false h25, Bool.or_false]
    have HVV := Lib.hid hv; clear hv HV
    by_cases h3 : n = 3
    · subst h3
      go_enter Try.func26, Try.ntmps26
      go_wp2
      go_ret; exact ⟨by rw [HVV.out]; rfl, rfl⟩
    · by_cases h5 : n = 5
      · subst h5
        go_enter Try.func26, Try.ntmps26
        go_wp2
        go_ret; exact ⟨by rw [HVV.out]; rfl, rfl⟩
      · by_cases h7 : n = 7
        · subst h7
          go_enter Try.func26, Try.ntmps26
          go_wp2
          go_ret; exact ⟨by rw [HVV.out]; rfl, rfl⟩
        · have b3 : (n == 3) = false := by simp [h3]
          have b5 : (n == 5) = false := by simp [h5]
          have b7 : (n == 7) = false := by simp [h7]
          have hvt : v = true := by rw [HVV.out]; simp [h3, h5, h7]
          have HVT := Lib.hid hvt; clear hvt
          go_enter Try.func26, Try.ntmps26
          go_wp2
          all_goals (go_ret; refine ⟨?_, rfl⟩; rw [HVT.out]; try rfl)
end Go.Proofs.Ytnjgjhjilolanaa
