/- Layer 24: two committed calls of unlike items. -/
import Derived.Test.YtahajjfbkdocaaaAudO
import Derived.Test.YtahajjfbkdocaaaAudP
import Derived.Test.YtahajjfbkdocaaaAudQ
import Derived.Test.YtahajjfbkdocaaaDeedE
import Derived.Deep.RegionHeld3
import Derived.Deep.DeepCutAuto
namespace Go.Proofs.Ytahajjfbkdocaaa
open Go.RowKit
set_option linter.unusedVariables false
attribute [local go_sem] row_alloc row_drew row_drewN row_ext row_setCell row_setRow size_ext setRow_alloc setRow_drew loadOf storeOf piece_lit loadVal_at storeVal_at allOne_lit buildOf buildRes_some
attribute [local go_sem high] cell_alloc frozen_alloc setCell_alloc cell_ext frozen_ext cell_setRow frozen_setRow
attribute [local go_sem ↓] TDeed_ld0 TDeed_st0 TDeed_fd0 TDeed_bd0
attribute [local go_sem] TDeed_size TDeed_one TDeed_piece TDeed_c0 TDeed_c1 TDeed_c2 TDeed_c3 TDeed_c4 TDeed_c5 TDeed_set_kind TDeed_set_key TDeed_set_val TDeed_set_ver TDeed_set_ses TDeed_set_num TDeed_ld TDeed_st TDeed_f_kind TDeed_f_key TDeed_f_val TDeed_f_ver TDeed_f_ses TDeed_f_num TDeed_bd TDeed_fl TDeed_fl_kind TDeed_fl_key TDeed_fl_val TDeed_fl_ver TDeed_fl_ses TDeed_fl_num
attribute [local go_sem high] TDeed_eql TDeed_neq
attribute [local go_sem ↓] index_deps0 load_deps0 store_deps0
attribute [local go_sem] DV_piece DV_size DV_one index_deps load_deps store_deps
attribute [local go_sem high] TDeps_eql TDeps_neq
attribute [local go_sem ↓] TCall_ld0 TCall_st0 TCall_fd0 TCall_bd0
attribute [local go_sem] TCall_size TCall_one TCall_piece TCall_c0 TCall_c1 TCall_c2 TCall_c3 TCall_c4 TCall_c5 TCall_c6 TCall_c7 TCall_c8 TCall_c9 TCall_c10 TCall_c11 TCall_c12 TCall_c13 TCall_p_deed TCall_put_deed TCall_p_deps TCall_put_deps TCall_set_seq TCall_ld TCall_st TCall_f_deed TCall_f_deps TCall_f_seq TCall_bd TCall_fl TCall_fl_deed TCall_fl_deps TCall_fl_seq
attribute [local go_sem high] TCall_eql TCall_neq
attribute [local go_sem ↓] TItem_ld0 TItem_st0 TItem_fd0 TItem_bd0
attribute [local go_sem] TItem_size TItem_one TItem_piece TItem_c0 TItem_c1 TItem_set_rep TItem_set_num TItem_ld TItem_st TItem_f_rep TItem_f_num TItem_bd TItem_fl TItem_fl_rep TItem_fl_num
attribute [local go_sem high] TItem_eql TItem_neq
attribute [local go_sem ↓] TBallot_ld0 TBallot_st0 TBallot_fd0 TBallot_bd0
attribute [local go_sem] TBallot_size TBallot_one TBallot_piece TBallot_c0 TBallot_c1 TBallot_set_round TBallot_set_rep TBallot_ld TBallot_st TBallot_f_round TBallot_f_rep TBallot_bd TBallot_fl TBallot_fl_round TBallot_fl_rep
attribute [local go_sem high] TBallot_eql TBallot_neq
attribute [local go_sem ↓] TInst_ld0 TInst_st0 TInst_fd0 TInst_bd0
attribute [local go_sem] TInst_size TInst_one TInst_piece TInst_c0 TInst_c1 TInst_c2 TInst_c3 TInst_c4 TInst_c5 TInst_c6 TInst_c7 TInst_c8 TInst_c9 TInst_c10 TInst_c11 TInst_c12 TInst_c13 TInst_c14 TInst_c15 TInst_c16 TInst_c17 TInst_c18 TInst_c19 TInst_p_prom TInst_put_prom TInst_p_vote TInst_put_vote TInst_set_status TInst_p_call TInst_put_call TInst_set_same TInst_ld TInst_st TInst_f_prom TInst_f_vote TInst_f_status TInst_f_call TInst_f_same TInst_bd TInst_fl TInst_fl_prom TInst_fl_vote TInst_fl_status TInst_fl_call TInst_fl_same
attribute [local go_sem high] TInst_eql TInst_neq
attribute [local go_sem ↓] TEntry_ld0 TEntry_st0 TEntry_fd0 TEntry_bd0
attribute [local go_sem] TEntry_size TEntry_one TEntry_piece TEntry_c0 TEntry_c1 TEntry_c2 TEntry_c3 TEntry_c4 TEntry_c5 TEntry_c6 TEntry_c7 TEntry_c8 TEntry_c9 TEntry_c10 TEntry_c11 TEntry_c12 TEntry_c13 TEntry_c14 TEntry_c15 TEntry_c16 TEntry_c17 TEntry_c18 TEntry_c19 TEntry_c20 TEntry_c21 TEntry_p_item TEntry_put_item TEntry_p_inst TEntry_put_inst TEntry_ld TEntry_st TEntry_f_item TEntry_f_inst TEntry_bd TEntry_fl TEntry_fl_item TEntry_fl_inst
attribute [local go_sem high] TEntry_eql TEntry_neq
attribute [local go_sem ↓] TFinding_ld0 TFinding_st0 TFinding_fd0 TFinding_bd0
attribute [local go_sem] TFinding_size TFinding_one TFinding_piece TFinding_c0 TFinding_c1 TFinding_c2 TFinding_c3 TFinding_set_kind TFinding_set_rep TFinding_p_item TFinding_put_item TFinding_ld TFinding_st TFinding_f_kind TFinding_f_rep TFinding_f_item TFinding_bd TFinding_fl TFinding_fl_kind TFinding_fl_rep TFinding_fl_item
attribute [local go_sem high] TFinding_eql TFinding_neq
attribute [local go_sem ↓] entry_slice0
attribute [local go_sem] entry_slice1 entry_slice2
theorem dumps_of_rows {W : World} {g : Nat} {ds : List Dump} (h : row? W g = some (flatV PV ds)) (hl : ds.length ≤ 9223372036854775807) (hd : ∀ d ∈ ds, ∃ k, d.A = some ⟨k, 0, none⟩ ∧ row? W k = some (flatV AV d.l) ∧ d.l.length ≤ 9223372036854775807) : DumpsIn W (some ⟨g, 0, none⟩) ds := by
  refine ⟨rows_of_row PV_size h hl, fun d hm => ?_⟩
  obtain ⟨k, hk, hr, hn⟩ := hd d hm
  rw [hk]
  exact rows_of_row TEntry_size hr hn
theorem row_first (W : World) (A B : Array Value) (t u : TypeId) : row? ((W.alloc (.cells A t)).alloc (.cells B u)).drew W.heap.size = some A := by
  rw [row_drew, row_alloc_ne _ _ _ (by rw [World.size_alloc]; omega), row_alloc_at _ _ _ _ rfl]
theorem row_second (W : World) (A B : Array Value) (t u : TypeId) : row? ((W.alloc (.cells A t)).alloc (.cells B u)).drew (W.heap.size + 1) = some B := by
  rw [row_drew, row_alloc_at _ _ _ _ (by rw [World.size_alloc])]
theorem look_one (n : Int) (e : Entry) (m : Nat) (hm : (lookE n [[e]]).length = m) (gE gS : Nat) (W : World) (h1 : row? W gE = some (AV e)) (h2 : row? W gS = some #[.slice (some ⟨gE, 0, none⟩) 1 1]) (he : Clean e) :
    Calls Try.prog 8 #[.int .i64 n, .slice (some ⟨gS, 0, none⟩) 1 1] W fun r W' => ∃ A c, r = .returned (.slice A m c) ∧ Below W.heap.size W W' := by
  have hx : DumpsIn W (some ⟨gS, 0, none⟩) [⟨some ⟨gE, 0, none⟩, 1, [e]⟩] := dumps_of_rows (by rw [flat1]; exact h2) (by simp) fun d hd => by
    rw [List.mem_singleton.1 hd]; exact ⟨gE, rfl, by rw [flat1]; exact h1, by simp⟩
  refine (look_at n (some ⟨gS, 0, none⟩) 1 _ hx (fun d hd => by rw [List.mem_singleton.1 hd]; exact ⟨fun e' he' => by rw [List.mem_singleton.1 he']; exact he, by simp⟩) (by simp) (Sts.start0 W)).mono ?_
  rintro r W' ⟨v, rfl, T⟩
  obtain ⟨A, c, rfl⟩ := list_shape T
  rw [lookM_lookE]
  exact ⟨A, c, by rw [← hm]; rfl, T.below⟩
theorem look_one2 (n : Int) (e : Entry) (m : Nat) (hm : (lookE n [[e]]).length = m) (gS : Nat) (W : World) (h : ∃ gE, row? W gS = some #[.slice (some ⟨gE, 0, none⟩) 1 1] ∧ row? W gE = some (AV e)) (he : Clean e) :
    Calls Try.prog 8 #[.int .i64 n, .slice (some ⟨gS, 0, none⟩) 1 1] W fun r W' => ∃ A c, r = .returned (.slice A m c) ∧ Below W.heap.size W W' := by
  obtain ⟨gE, h2, h1⟩ := h
  exact look_one n e m hm gE gS W h1 h2 he
theorem row_at1 (W : World) (o : Obj) (c : Array Value) (t : TypeId) : row? ((W.alloc o).alloc (.cells c t)) (W.heap.size + 1) = some c := row_alloc_at _ _ _ _ (by simp only [World.size_alloc])
theorem row_at2 (W : World) (o p : Obj) (c : Array Value) (t : TypeId) : row? (((W.alloc o).alloc p).alloc (.cells c t)) (W.heap.size + 1 + 1) = some c := row_alloc_at _ _ _ _ (by simp only [World.size_alloc])
theorem row_at3 (W : World) (o p q : Obj) (c : Array Value) (t : TypeId) : row? ((((W.alloc o).alloc p).alloc q).alloc (.cells c t)) (W.heap.size + 1 + 1 + 1) = some c := row_alloc_at _ _ _ _ (by simp only [World.size_alloc])
theorem vec_shape0 {e : TypeId} {size n : Nat} {v : Value} {xs : List Value} {w W : World} {F : Nat → Prop} {R : List Res} (T : Sts w F W (vecR e size v n xs :: R)) : ∃ A c, v = .slice A n c := by
  rcases T.vec.2 with ⟨rfl, rfl⟩ | ⟨g, cap, cur, rfl, _⟩
  · exact ⟨_, _, rfl⟩
  · exact ⟨_, _, rfl⟩
theorem wrap_zero : ∀ i : Nat, i ≤ 2 → ∀ j : Nat, j ≤ 2 → decide ((0 : Int) < IntKind.i64.wrap ((i : Int) + (j : Int))) = false → i = 0 ∧ j = 0 := by decide
theorem great_two (a b : Entry) (q : Bool) (hq : (overE a || overE b) = q) (gE gS : Nat) (W : World) (h1 : row? W gE = some (AV a ++ AV b)) (h2 : row? W gS = some #[.slice (some ⟨gE, 0, none⟩) 2 2]) (ha : a.inst.call.deed.key.size ≤ 140737488351232 ∧ a.inst.call.deed.val.size ≤ 140737488351232) (hb : b.inst.call.deed.key.size ≤ 140737488351232 ∧ b.inst.call.deed.val.size ≤ 140737488351232) :
    Calls Try.prog 7 #[.slice (some ⟨gS, 0, none⟩) 1 1] W fun r W' => r = .returned (.bool q) ∧ Below W.heap.size W W' := by
  have hx : DumpsIn W (some ⟨gS, 0, none⟩) [⟨some ⟨gE, 0, none⟩, 2, [a, b]⟩] := dumps_of_rows (by rw [flat1]; exact h2) (by simp) fun d hd => by
    rw [List.mem_singleton.1 hd]; exact ⟨gE, rfl, by rw [flat2]; exact h1, by simp⟩
  have hg : greatB [⟨some ⟨gE, 0, none⟩, 2, [a, b]⟩] = (overE a || overE b) := by
    unfold greatB
    simp [overD]
  refine (great_any (some ⟨gS, 0, none⟩) 1 _ W W [] hx (fun d hd e he => ?_) (Sts.start0 W)).mono ?_
  · rw [List.mem_singleton.1 hd] at he
    rcases List.mem_cons.1 he with rfl | he
    · exact ha
    · rw [List.mem_singleton.1 he]; exact hb
  · rintro r W' ⟨rfl, T⟩
    rw [hg, hq]
    exact ⟨rfl, T.below⟩
theorem look_pair (n : Int) (a b : Entry) (gA gB gS : Nat) {w W : World} {F : Nat → Prop} {R : List Res} (h1 : row? W gA = some (AV a)) (h2 : row? W gB = some (AV b)) (h3 : row? W gS = some #[.slice (some ⟨gA, 0, none⟩) 1 1, .slice (some ⟨gB, 0, none⟩) 1 1]) (ha : Clean a) (hb : Clean b) (T : Sts w F W R) :
    Calls Try.prog 8 #[.int .i64 n, .slice (some ⟨gS, 0, none⟩) 2 2] W fun r W' => ∃ v, r = .returned v ∧ Sts w F W' (vecR 49 4 v (lookE n [[a], [b]]).length (vl FV (lookE n [[a], [b]])) :: R) := by
  have hx : DumpsIn W (some ⟨gS, 0, none⟩) [⟨some ⟨gA, 0, none⟩, 1, [a]⟩, ⟨some ⟨gB, 0, none⟩, 1, [b]⟩] := dumps_of_rows (by rw [flat2]; exact h3) (by simp) fun d hd => by
    rcases List.mem_cons.1 hd with rfl | hd
    · exact ⟨gA, rfl, by rw [flat1]; exact h1, by simp⟩
    · rw [List.mem_singleton.1 hd]; exact ⟨gB, rfl, by rw [flat1]; exact h2, by simp⟩
  refine (look_at n (some ⟨gS, 0, none⟩) 2 _ hx (fun d hd => ?_) (by simp) T).mono ?_
  · rcases List.mem_cons.1 hd with rfl | hd
    · exact ⟨fun e he => by rw [List.mem_singleton.1 he]; exact ha, by simp⟩
    · rw [List.mem_singleton.1 hd]; exact ⟨fun e he => by rw [List.mem_singleton.1 he]; exact hb, by simp⟩
  · rintro r W' ⟨v, rfl, T⟩
    unfold listR at T
    rw [lookM_lookE] at T
    exact ⟨v, rfl, T⟩
set_option maxHeartbeats 16000000 in
set_option maxRecDepth 10000 in
theorem law_tied (n : Int) (x y : Item) (c d : Call) (W : World) (hn : Fits n) (hx : InI x) (hy : InI y) (hc : c.deed.key.size ≤ 140737488351232 ∧ c.deed.val.size ≤ 140737488351232) (hd : d.deed.key.size ≤ 140737488351232 ∧ d.deed.val.size ≤ 140737488351232) :
    Calls Try.prog 4 #[.int .i64 n, .agg (IV x), .agg (IV y), .agg (CV c), .agg (CV d)] W fun e W' => e = .returned (.bool true) ∧ Below W.heap.size W W' := by
  have T := ((((Sts.start0 W).new (IV x) 28).new (IV y) 28).new (CV c) 36).new (CV d) 36
  simp only [World.size_alloc] at T
  obtain ⟨hn1, hn2⟩ := hn
  go_enter Try.func4, Try.ntmps4
  go_wp2_with fail
  refine (Ans.at alive_any T).mono ?_; clear T; rintro e w1 ⟨rfl, T⟩
  have r1 := T.row; have r2 := T.row1; have r3 := T.row2; have r4 := T.row3
  have l1 := row_lt r1; have l2 := row_lt r2; have l3 := row_lt r3; have l4 := row_lt r4
  generalize W.heap.size + 1 + 1 + 1 = g4 at *
  generalize W.heap.size + 1 + 1 = g3 at *
  generalize W.heap.size + 1 = g2 at *
  generalize hg1 : W.heap.size = g1 at *
  go_wp2_with fail
  have TE := (T.new (AV (comE x c)) 40).new (AV (comE y d)) 40
  simp only [World.size_alloc] at TE
  have ea : (⟨x, { prom := noInst.prom, vote := noInst.vote, status := 3, call := c, same := noInst.same }⟩ : Entry) = comE x c := rfl
  have eb : (⟨y, { prom := noInst.prom, vote := noInst.vote, status := 3, call := d, same := noInst.same }⟩ : Entry) = comE y d := rfl
  simp only [ea, eb]
  have hcl : Clean (comE x c) → True := fun _ => trivial
  clear ea eb hcl T r1 r2 r3 r4 l1 l2 l3 l4
  have hka : (comE x c).inst.call.deed.key.size ≤ 140737488351232 ∧ (comE x c).inst.call.deed.val.size ≤ 140737488351232 := hc
  have hkb : (comE y d).inst.call.deed.key.size ≤ 140737488351232 ∧ (comE y d).inst.call.deed.val.size ≤ 140737488351232 := hd
  have hia : InI (comE x c).item := hx
  have hib : InI (comE y d).item := hy
  have hlaw := com_two n x y c d
  have hsx := com_sound n x c
  have hsy := com_sound n y d
  have hma := one_few n (comE x c)
  have hmb := one_few n (comE y d)
  have hov1 : overE (comE x c) = false → c.deed.key.size ≤ 1000 := fun h => by
    unfold overE at h; rw [decide_eq_false_iff_not] at h
    have : ¬ ((100 : Int) < (c.deed.key.size : Int) + (c.deed.val.size : Int)) := h
    omega
  have hov2 : overE (comE y d) = false → d.deed.key.size ≤ 1000 := fun h => by
    unfold overE at h; rw [decide_eq_false_iff_not] at h
    have : ¬ ((100 : Int) < (d.deed.key.size : Int) + (d.deed.val.size : Int)) := h
    omega
  have hk1 : c.deed.key.size ≤ 1000 → (comE x c).inst.call.deed.key.size ≤ 1000 := id
  have hk2 : d.deed.key.size ≤ 1000 → (comE y d).inst.call.deed.key.size ≤ 1000 := id
  generalize hma0 : (lookE n [[comE x c]]).length = ma at *
  generalize hmb0 : (lookE n [[comE y d]]).length = mb at *
  generalize comE x c = a at *
  generalize comE y d = b at *
  generalize (w1.alloc _).alloc _ = w2 at *
  generalize w1.heap.size + 1 = gb at *
  generalize w1.heap.size = ga at *
  have LAW := Lib.hid hlaw; have SX := Lib.hid hsx; have SY := Lib.hid hsy; have O1 := Lib.hid hov1; have O2 := Lib.hid hov2; have K1 := Lib.hid hk1; have K2 := Lib.hid hk2; have MA := Lib.hid hma0; have MB := Lib.hid hmb0
  clear hlaw hsx hsy hov1 hov2 hk1 hk2 hma0 hmb0
  obtain ⟨L, hL⟩ : ∃ L, L = [rowR gb (AV b), rowR ga (AV a), rowR g4 (CV d), rowR g3 (CV c), rowR g2 (IV y), rowR g1 (IV x)] := ⟨_, rfl⟩
  rw [← hL] at TE
  have HL := Lib.hid hL; clear hL
  go_cut [54] (fun u54 wx => ∃ q, u54 = .bool q ∧ (q = false → overE a = false ∧ overE b = false ∧ ¬ 7 < n ∧ eqA (IV x) (IV y) = false ∧ ma = 0 ∧ mb = 0) ∧ Sts W (fun _ => False) wx L)
  case first =>
    have q1 : ∀ W', Sts W (fun _ => False) W' L → row? W' gb = some (AV b) := fun W' h => by rw [HL.out] at h; exact h.row
    have q2 : ∀ W', Sts W (fun _ => False) W' L → row? W' ga = some (AV a) := fun W' h => by rw [HL.out] at h; exact h.row1
    have q3 : ∀ W', Sts W (fun _ => False) W' L → row? W' g2 = some (IV y) := fun W' h => by rw [HL.out] at h; exact h.row4
    have q4 : ∀ W', Sts W (fun _ => False) W' L → row? W' g1 = some (IV x) := fun W' h => by rw [HL.out] at h; exact h.drop.row4
    have f1 := q1 _ TE; have f2 := q2 _ TE; have f3 := q3 _ TE; have f4 := q4 _ TE
    have e1 := row_lt f1; have e2 := row_lt f2; have e3 := row_lt f3; have e4 := row_lt f4
    have TG : ∀ W', Below (((w2.alloc (.cells (AV a ++ AV b) 40)).alloc (.cells #[.slice (some ⟨w2.heap.size, 0, none⟩) 2 2] 26)).drew).heap.size (((w2.alloc (.cells (AV a ++ AV b) 40)).alloc (.cells #[.slice (some ⟨w2.heap.size, 0, none⟩) 2 2] 26)).drew) W' → Sts W (fun _ => False) W' L := fun W' hb => ((TE.keep _).keep _).drew.pure hb
    cases hov : (overE a || overE b)
    case true =>
      clear f1 f2 f3 f4 e1 e2 e3 e4 TG
      refine wp_region_held_drew (S := fun W' => Sts W (fun _ => False) W' L) (by kernel_rfl) TE.drew (fun hHeld => ?_)
      refine wpAnyH_take (i := 0) (oi := _) (v := ?_) rfl (by kernel_rfl) (by kernel_rfl) (by kernel_rfl) (fun _ _ _ h => h) (Or.inl ⟨by kernel_rfl, ?_⟩) (by assumption) ?_
      rotate_left
      · (intro w hSw; (try dsimp only at hSw); go_simp; try (with_reducible rfl))
      simp only [Act.put, List.getElem_toArray, List.getElem_cons_zero, List.setIfInBounds_toArray, List.set_cons_zero, List.set_cons_succ]
      refine wpAnyH_take (i := 1) (oi := _) (v := ?_) rfl (by kernel_rfl) (by kernel_rfl) (by kernel_rfl) (fun _ _ _ h => h) (Or.inl ⟨by kernel_rfl, ?_⟩) (by assumption) ?_
      rotate_left
      · (intro w hSw; (try dsimp only at hSw); go_simp; try (with_reducible rfl))
      simp only [Act.put, List.getElem_toArray, List.getElem_cons_succ, List.getElem_cons_zero, List.setIfInBounds_toArray, List.set_cons_zero, List.set_cons_succ]
      refine wpAnyH_ready (rs := [2]) (by kernel_rfl) (by simp) ?_
      refine AllReadyH.cons (o := _) rfl (fun K hK => ?_) AllReadyH.nil
      go_simp
      refine hK.out _ _ ?_ (fun hHeld => ?_)
      · first | assumption | exact TE.drew | exact Sts.keep (by assumption) _ | exact Sts.pure (by assumption) hb
      clear hK K
      refine wpAnyH_ready (rs := [3]) (by kernel_rfl) (by simp) ?_
      refine AllReadyH.cons (o := _) rfl (fun K hK => ?_) AllReadyH.nil
      go_simp
      refine hK.out _ _ ?_ (fun hHeld => ?_)
      · first | assumption | exact TE.drew | exact Sts.keep (by assumption) _ | exact Sts.pure (by assumption) hb
      clear hK K
      refine wpAnyH_ready (rs := [4]) (by kernel_rfl) (by simp) ?_
      refine AllReadyH.cons (o := _) rfl (fun K hK => ?_) AllReadyH.nil
      go_simp
      (go_at_call 7; with_reducible refine (great_two a b true hov _ _ _ (row_first _ _ _ _ _) (row_second _ _ _ _ _) hka hkb).mono ?_; rintro e w' ⟨rfl, hb⟩)
      refine hK.out _ _ ?_ (fun hHeld => ?_)
      · first | assumption | exact TE.drew | exact Sts.keep (by assumption) _ | exact Sts.pure (by assumption) hb
      clear hK K
      refine wpAnyH_take (i := 5) (oi := _) (v := ?_) rfl (by kernel_rfl) (by kernel_rfl) (by kernel_rfl) (fun _ _ _ h => h) (Or.inl ⟨by kernel_rfl, ?_⟩) (by assumption) ?_
      rotate_left
      · (intro w hSw; (try dsimp only at hSw); go_simp; try (with_reducible rfl))
      simp only [Act.put, List.getElem_toArray, List.getElem_cons_succ, List.getElem_cons_zero, List.setIfInBounds_toArray, List.set_cons_zero, List.set_cons_succ]
      refine wpAnyH_take (i := 6) (oi := _) (v := undef) rfl (by kernel_rfl) (by kernel_rfl) (by kernel_rfl) (fun _ _ _ h => h) (Or.inr ⟨by kernel_rfl, rfl⟩) (by assumption) ?_
      simp only [Act.put, List.getElem_toArray, List.getElem_cons_succ, List.getElem_cons_zero, List.setIfInBounds_toArray, List.set_cons_zero, List.set_cons_succ]
      refine wpAnyH_take (i := 7) (oi := _) (v := undef) rfl (by kernel_rfl) (by kernel_rfl) (by kernel_rfl) (fun _ _ _ h => h) (Or.inr ⟨by kernel_rfl, rfl⟩) (by assumption) ?_
      simp only [Act.put, List.getElem_toArray, List.getElem_cons_succ, List.getElem_cons_zero, List.setIfInBounds_toArray, List.set_cons_zero, List.set_cons_succ]
      refine wpAnyH_take (i := 8) (oi := _) (v := ?_) rfl (by kernel_rfl) (by kernel_rfl) (by kernel_rfl) (fun _ _ _ h => h) (Or.inl ⟨by kernel_rfl, ?_⟩) (by assumption) ?_
      rotate_left
      · (intro w hSw; (try dsimp only at hSw); go_simp; try (with_reducible rfl))
      simp only [Act.put, List.getElem_toArray, List.getElem_cons_succ, List.getElem_cons_zero, List.setIfInBounds_toArray, List.set_cons_zero, List.set_cons_succ]
      refine wpAnyH_take (i := 9) (oi := _) (v := ?_) rfl (by kernel_rfl) (by kernel_rfl) (by kernel_rfl) (fun _ _ _ h => h) (Or.inl ⟨by kernel_rfl, ?_⟩) (by assumption) ?_
      rotate_left
      · (intro w hSw; (try dsimp only at hSw); go_simp; try (with_reducible rfl))
      simp only [Act.put, List.getElem_toArray, List.getElem_cons_succ, List.getElem_cons_zero, List.setIfInBounds_toArray, List.set_cons_zero, List.set_cons_succ]
      refine wpAnyH_take (i := 10) (oi := _) (v := undef) rfl (by kernel_rfl) (by kernel_rfl) (by kernel_rfl) (fun _ _ _ h => h) (Or.inr ⟨by kernel_rfl, rfl⟩) (by assumption) ?_
      simp only [Act.put, List.getElem_toArray, List.getElem_cons_succ, List.getElem_cons_zero, List.setIfInBounds_toArray, List.set_cons_zero, List.set_cons_succ]
      refine wpAnyH_take (i := 11) (oi := _) (v := undef) rfl (by kernel_rfl) (by kernel_rfl) (by kernel_rfl) (fun _ _ _ h => h) (Or.inr ⟨by kernel_rfl, rfl⟩) (by assumption) ?_
      simp only [Act.put, List.getElem_toArray, List.getElem_cons_succ, List.getElem_cons_zero, List.setIfInBounds_toArray, List.set_cons_zero, List.set_cons_succ]
      refine wpAnyH_take (i := 12) (oi := _) (v := undef) rfl (by kernel_rfl) (by kernel_rfl) (by kernel_rfl) (fun _ _ _ h => h) (Or.inr ⟨by kernel_rfl, rfl⟩) (by assumption) ?_
      simp only [Act.put, List.getElem_toArray, List.getElem_cons_succ, List.getElem_cons_zero, List.setIfInBounds_toArray, List.set_cons_zero, List.set_cons_succ]
      refine wpAnyH_take (i := 13) (oi := _) (v := ?_) rfl (by kernel_rfl) (by kernel_rfl) (by kernel_rfl) (fun _ _ _ h => h) (Or.inl ⟨by kernel_rfl, ?_⟩) (by assumption) ?_
      rotate_left
      · (intro w hSw; (try dsimp only at hSw); go_simp; try (with_reducible rfl))
      simp only [Act.put, List.getElem_toArray, List.getElem_cons_succ, List.getElem_cons_zero, List.setIfInBounds_toArray, List.set_cons_zero, List.set_cons_succ]
      refine wpAnyH_take (i := 14) (oi := _) (v := ?_) rfl (by kernel_rfl) (by kernel_rfl) (by kernel_rfl) (fun _ _ _ h => h) (Or.inl ⟨by kernel_rfl, ?_⟩) (by assumption) ?_
      rotate_left
      · (intro w hSw; (try dsimp only at hSw); go_simp; try (with_reducible rfl))
      simp only [Act.put, List.getElem_toArray, List.getElem_cons_succ, List.getElem_cons_zero, List.setIfInBounds_toArray, List.set_cons_zero, List.set_cons_succ]
      refine wpAnyH_take (i := 15) (oi := _) (v := undef) rfl (by kernel_rfl) (by kernel_rfl) (by kernel_rfl) (fun _ _ _ h => h) (Or.inr ⟨by kernel_rfl, rfl⟩) (by assumption) ?_
      simp only [Act.put, List.getElem_toArray, List.getElem_cons_succ, List.getElem_cons_zero, List.setIfInBounds_toArray, List.set_cons_zero, List.set_cons_succ]
      refine wpAnyH_take (i := 16) (oi := _) (v := undef) rfl (by kernel_rfl) (by kernel_rfl) (by kernel_rfl) (fun _ _ _ h => h) (Or.inr ⟨by kernel_rfl, rfl⟩) (by assumption) ?_
      simp only [Act.put, List.getElem_toArray, List.getElem_cons_succ, List.getElem_cons_zero, List.setIfInBounds_toArray, List.set_cons_zero, List.set_cons_succ]
      refine wpAnyH_take (i := 17) (oi := _) (v := undef) rfl (by kernel_rfl) (by kernel_rfl) (by kernel_rfl) (fun _ _ _ h => h) (Or.inr ⟨by kernel_rfl, rfl⟩) (by assumption) ?_
      simp only [Act.put, List.getElem_toArray, List.getElem_cons_succ, List.getElem_cons_zero, List.setIfInBounds_toArray, List.set_cons_zero, List.set_cons_succ]
      refine wpAnyH_take (i := 18) (oi := _) (v := undef) rfl (by kernel_rfl) (by kernel_rfl) (by kernel_rfl) (fun _ _ _ h => h) (Or.inr ⟨by kernel_rfl, rfl⟩) (by assumption) ?_
      simp only [Act.put, List.getElem_toArray, List.getElem_cons_succ, List.getElem_cons_zero, List.setIfInBounds_toArray, List.set_cons_zero, List.set_cons_succ]
      refine wpAnyH_take (i := 19) (oi := _) (v := undef) rfl (by kernel_rfl) (by kernel_rfl) (by kernel_rfl) (fun _ _ _ h => h) (Or.inr ⟨by kernel_rfl, rfl⟩) (by assumption) ?_
      simp only [Act.put, List.getElem_toArray, List.getElem_cons_succ, List.getElem_cons_zero, List.setIfInBounds_toArray, List.set_cons_zero, List.set_cons_succ]
      refine wpAnyH_take (i := 20) (oi := _) (v := undef) rfl (by kernel_rfl) (by kernel_rfl) (by kernel_rfl) (fun _ _ _ h => h) (Or.inr ⟨by kernel_rfl, rfl⟩) (by assumption) ?_
      simp only [Act.put, List.getElem_toArray, List.getElem_cons_succ, List.getElem_cons_zero, List.setIfInBounds_toArray, List.set_cons_zero, List.set_cons_succ]
      refine wpAnyH_take (i := 21) (oi := _) (v := undef) rfl (by kernel_rfl) (by kernel_rfl) (by kernel_rfl) (fun _ _ _ h => h) (Or.inr ⟨by kernel_rfl, rfl⟩) (by assumption) ?_
      simp only [Act.put, List.getElem_toArray, List.getElem_cons_succ, List.getElem_cons_zero, List.setIfInBounds_toArray, List.set_cons_zero, List.set_cons_succ]
      refine wpAnyH_take (i := 22) (oi := _) (v := undef) rfl (by kernel_rfl) (by kernel_rfl) (by kernel_rfl) (fun _ _ _ h => h) (Or.inr ⟨by kernel_rfl, rfl⟩) (by assumption) ?_
      simp only [Act.put, List.getElem_toArray, List.getElem_cons_succ, List.getElem_cons_zero, List.setIfInBounds_toArray, List.set_cons_zero, List.set_cons_succ]
      refine wpAnyH_take (i := 23) (oi := _) (v := undef) rfl (by kernel_rfl) (by kernel_rfl) (by kernel_rfl) (fun _ _ _ h => h) (Or.inr ⟨by kernel_rfl, rfl⟩) (by assumption) ?_
      simp only [Act.put, List.getElem_toArray, List.getElem_cons_succ, List.getElem_cons_zero, List.setIfInBounds_toArray, List.set_cons_zero, List.set_cons_succ]
      refine wpAnyH_take (i := 24) (oi := _) (v := undef) rfl (by kernel_rfl) (by kernel_rfl) (by kernel_rfl) (fun _ _ _ h => h) (Or.inr ⟨by kernel_rfl, rfl⟩) (by assumption) ?_
      simp only [Act.put, List.getElem_toArray, List.getElem_cons_succ, List.getElem_cons_zero, List.setIfInBounds_toArray, List.set_cons_zero, List.set_cons_succ]
      refine wpAnyH_take (i := 25) (oi := _) (v := undef) rfl (by kernel_rfl) (by kernel_rfl) (by kernel_rfl) (fun _ _ _ h => h) (Or.inr ⟨by kernel_rfl, rfl⟩) (by assumption) ?_
      simp only [Act.put, List.getElem_toArray, List.getElem_cons_succ, List.getElem_cons_zero, List.setIfInBounds_toArray, List.set_cons_zero, List.set_cons_succ]
      refine wpAnyH_take (i := 26) (oi := _) (v := undef) rfl (by kernel_rfl) (by kernel_rfl) (by kernel_rfl) (fun _ _ _ h => h) (Or.inr ⟨by kernel_rfl, rfl⟩) (by assumption) ?_
      simp only [Act.put, List.getElem_toArray, List.getElem_cons_succ, List.getElem_cons_zero, List.setIfInBounds_toArray, List.set_cons_zero, List.set_cons_succ]
      refine wpAnyH_take (i := 27) (oi := _) (v := undef) rfl (by kernel_rfl) (by kernel_rfl) (by kernel_rfl) (fun _ _ _ h => h) (Or.inr ⟨by kernel_rfl, rfl⟩) (by assumption) ?_
      simp only [Act.put, List.getElem_toArray, List.getElem_cons_succ, List.getElem_cons_zero, List.setIfInBounds_toArray, List.set_cons_zero, List.set_cons_succ]
      refine wpAnyH_take (i := 28) (oi := _) (v := undef) rfl (by kernel_rfl) (by kernel_rfl) (by kernel_rfl) (fun _ _ _ h => h) (Or.inr ⟨by kernel_rfl, rfl⟩) (by assumption) ?_
      simp only [Act.put, List.getElem_toArray, List.getElem_cons_succ, List.getElem_cons_zero, List.setIfInBounds_toArray, List.set_cons_zero, List.set_cons_succ]
      refine wpAnyH_take (i := 29) (oi := _) (v := ?_) rfl (by kernel_rfl) (by kernel_rfl) (by kernel_rfl) (fun _ _ _ h => h) (Or.inl ⟨by kernel_rfl, ?_⟩) (by assumption) ?_
      rotate_left
      · (intro w hSw; (try dsimp only at hSw); go_simp; try (with_reducible rfl))
      simp only [Act.put, List.getElem_toArray, List.getElem_cons_succ, List.getElem_cons_zero, List.setIfInBounds_toArray, List.set_cons_zero, List.set_cons_succ]
      refine wpAnyH_done (by kernel_rfl) ?_ _
      simp only [Exit.then]
      go_step
      go_meet
      case rel => exact ⟨true, rfl, fun h => (by cases h), by assumption⟩
    case false =>
      clear f1 f2 f3 f4 e1 e2 e3 e4 TG
      cases hn7 : decide ((7 : Int) < n)
      case true =>
        refine wp_region_held_drew (S := fun W' => Sts W (fun _ => False) W' L) (by kernel_rfl) TE.drew (fun hHeld => ?_)
        refine wpAnyH_take (i := 0) (oi := _) (v := ?_) rfl (by kernel_rfl) (by kernel_rfl) (by kernel_rfl) (fun _ _ _ h => h) (Or.inl ⟨by kernel_rfl, ?_⟩) (by assumption) ?_
        rotate_left
        · (intro w hSw; (try dsimp only at hSw); go_simp; try (with_reducible rfl))
        simp only [Act.put, List.getElem_toArray, List.getElem_cons_zero, List.setIfInBounds_toArray, List.set_cons_zero, List.set_cons_succ]
        refine wpAnyH_take (i := 1) (oi := _) (v := ?_) rfl (by kernel_rfl) (by kernel_rfl) (by kernel_rfl) (fun _ _ _ h => h) (Or.inl ⟨by kernel_rfl, ?_⟩) (by assumption) ?_
        rotate_left
        · (intro w hSw; (try dsimp only at hSw); go_simp; try (with_reducible rfl))
        simp only [Act.put, List.getElem_toArray, List.getElem_cons_succ, List.getElem_cons_zero, List.setIfInBounds_toArray, List.set_cons_zero, List.set_cons_succ]
        refine wpAnyH_ready (rs := [2]) (by kernel_rfl) (by simp) ?_
        refine AllReadyH.cons (o := _) rfl (fun K hK => ?_) AllReadyH.nil
        go_simp
        refine hK.out _ _ ?_ (fun hHeld => ?_)
        · first | assumption | exact TE.drew | exact Sts.keep (by assumption) _ | exact Sts.pure (by assumption) hb
        clear hK K
        refine wpAnyH_ready (rs := [3]) (by kernel_rfl) (by simp) ?_
        refine AllReadyH.cons (o := _) rfl (fun K hK => ?_) AllReadyH.nil
        go_simp
        refine hK.out _ _ ?_ (fun hHeld => ?_)
        · first | assumption | exact TE.drew | exact Sts.keep (by assumption) _ | exact Sts.pure (by assumption) hb
        clear hK K
        refine wpAnyH_ready (rs := [4]) (by kernel_rfl) (by simp) ?_
        refine AllReadyH.cons (o := _) rfl (fun K hK => ?_) AllReadyH.nil
        go_simp
        (go_at_call 7; with_reducible refine (great_two a b false hov _ _ _ (row_first _ _ _ _ _) (row_second _ _ _ _ _) hka hkb).mono ?_; rintro e w' ⟨rfl, hb⟩)
        refine hK.out _ _ ?_ (fun hHeld => ?_)
        · first | assumption | exact TE.drew | exact Sts.keep (by assumption) _ | exact Sts.pure (by assumption) hb
        clear hK K
        refine wpAnyH_take (i := 5) (oi := _) (v := ?_) rfl (by kernel_rfl) (by kernel_rfl) (by kernel_rfl) (fun _ _ _ h => h) (Or.inl ⟨by kernel_rfl, ?_⟩) (by assumption) ?_
        rotate_left
        · (intro w hSw; (try dsimp only at hSw); go_simp; try (with_reducible rfl))
        simp only [Act.put, List.getElem_toArray, List.getElem_cons_succ, List.getElem_cons_zero, List.setIfInBounds_toArray, List.set_cons_zero, List.set_cons_succ]
        refine wpAnyH_take (i := 6) (oi := _) (v := ?_) rfl (by kernel_rfl) (by kernel_rfl) (by kernel_rfl) (fun _ _ _ h => h) (Or.inl ⟨by kernel_rfl, ?_⟩) (by assumption) ?_
        rotate_left
        · (intro w hSw; (try dsimp only at hSw); go_simp; try (with_reducible rfl))
        simp only [Act.put, List.getElem_toArray, List.getElem_cons_succ, List.getElem_cons_zero, List.setIfInBounds_toArray, List.set_cons_zero, List.set_cons_succ]
        refine wpAnyH_take (i := 7) (oi := _) (v := ?_) rfl (by kernel_rfl) (by kernel_rfl) (by kernel_rfl) (fun _ _ _ h => h) (Or.inl ⟨by kernel_rfl, ?_⟩) (by assumption) ?_
        rotate_left
        · (intro w hSw; (try dsimp only at hSw); go_simp; try (with_reducible rfl))
        simp only [Act.put, List.getElem_toArray, List.getElem_cons_succ, List.getElem_cons_zero, List.setIfInBounds_toArray, List.set_cons_zero, List.set_cons_succ]
        refine wpAnyH_take (i := 8) (oi := _) (v := ?_) rfl (by kernel_rfl) (by kernel_rfl) (by kernel_rfl) (fun _ _ _ h => h) (Or.inl ⟨by kernel_rfl, ?_⟩) (by assumption) ?_
        rotate_left
        · (intro w hSw; (try dsimp only at hSw); go_simp; try (with_reducible rfl))
        simp only [Act.put, List.getElem_toArray, List.getElem_cons_succ, List.getElem_cons_zero, List.setIfInBounds_toArray, List.set_cons_zero, List.set_cons_succ]
        refine wpAnyH_take (i := 9) (oi := _) (v := ?_) rfl (by kernel_rfl) (by kernel_rfl) (by kernel_rfl) (fun _ _ _ h => h) (Or.inl ⟨by kernel_rfl, ?_⟩) (by assumption) ?_
        rotate_left
        · (intro w hSw; (try dsimp only at hSw); go_simp; try (with_reducible rfl))
        simp only [Act.put, List.getElem_toArray, List.getElem_cons_succ, List.getElem_cons_zero, List.setIfInBounds_toArray, List.set_cons_zero, List.set_cons_succ]
        refine wpAnyH_take (i := 10) (oi := _) (v := undef) rfl (by kernel_rfl) (by kernel_rfl) (by kernel_rfl) (fun _ _ _ h => h) (Or.inr ⟨by kernel_rfl, rfl⟩) (by assumption) ?_
        simp only [Act.put, List.getElem_toArray, List.getElem_cons_succ, List.getElem_cons_zero, List.setIfInBounds_toArray, List.set_cons_zero, List.set_cons_succ]
        refine wpAnyH_take (i := 11) (oi := _) (v := undef) rfl (by kernel_rfl) (by kernel_rfl) (by kernel_rfl) (fun _ _ _ h => h) (Or.inr ⟨by kernel_rfl, rfl⟩) (by assumption) ?_
        simp only [Act.put, List.getElem_toArray, List.getElem_cons_succ, List.getElem_cons_zero, List.setIfInBounds_toArray, List.set_cons_zero, List.set_cons_succ]
        refine wpAnyH_take (i := 12) (oi := _) (v := undef) rfl (by kernel_rfl) (by kernel_rfl) (by kernel_rfl) (fun _ _ _ h => h) (Or.inr ⟨by kernel_rfl, rfl⟩) (by assumption) ?_
        simp only [Act.put, List.getElem_toArray, List.getElem_cons_succ, List.getElem_cons_zero, List.setIfInBounds_toArray, List.set_cons_zero, List.set_cons_succ]
        refine wpAnyH_take (i := 13) (oi := _) (v := ?_) rfl (by kernel_rfl) (by kernel_rfl) (by kernel_rfl) (fun _ _ _ h => h) (Or.inl ⟨by kernel_rfl, ?_⟩) (by assumption) ?_
        rotate_left
        · (intro w hSw; (try dsimp only at hSw); go_simp; try (with_reducible rfl))
        simp only [Act.put, List.getElem_toArray, List.getElem_cons_succ, List.getElem_cons_zero, List.setIfInBounds_toArray, List.set_cons_zero, List.set_cons_succ]
        refine wpAnyH_take (i := 14) (oi := _) (v := ?_) rfl (by kernel_rfl) (by kernel_rfl) (by kernel_rfl) (fun _ _ _ h => h) (Or.inl ⟨by kernel_rfl, ?_⟩) (by assumption) ?_
        rotate_left
        · (intro w hSw; (try dsimp only at hSw); go_simp; try (with_reducible rfl))
        simp only [Act.put, List.getElem_toArray, List.getElem_cons_succ, List.getElem_cons_zero, List.setIfInBounds_toArray, List.set_cons_zero, List.set_cons_succ]
        refine wpAnyH_take (i := 15) (oi := _) (v := undef) rfl (by kernel_rfl) (by kernel_rfl) (by kernel_rfl) (fun _ _ _ h => h) (Or.inr ⟨by kernel_rfl, rfl⟩) (by assumption) ?_
        simp only [Act.put, List.getElem_toArray, List.getElem_cons_succ, List.getElem_cons_zero, List.setIfInBounds_toArray, List.set_cons_zero, List.set_cons_succ]
        refine wpAnyH_take (i := 16) (oi := _) (v := undef) rfl (by kernel_rfl) (by kernel_rfl) (by kernel_rfl) (fun _ _ _ h => h) (Or.inr ⟨by kernel_rfl, rfl⟩) (by assumption) ?_
        simp only [Act.put, List.getElem_toArray, List.getElem_cons_succ, List.getElem_cons_zero, List.setIfInBounds_toArray, List.set_cons_zero, List.set_cons_succ]
        refine wpAnyH_take (i := 17) (oi := _) (v := undef) rfl (by kernel_rfl) (by kernel_rfl) (by kernel_rfl) (fun _ _ _ h => h) (Or.inr ⟨by kernel_rfl, rfl⟩) (by assumption) ?_
        simp only [Act.put, List.getElem_toArray, List.getElem_cons_succ, List.getElem_cons_zero, List.setIfInBounds_toArray, List.set_cons_zero, List.set_cons_succ]
        refine wpAnyH_take (i := 18) (oi := _) (v := undef) rfl (by kernel_rfl) (by kernel_rfl) (by kernel_rfl) (fun _ _ _ h => h) (Or.inr ⟨by kernel_rfl, rfl⟩) (by assumption) ?_
        simp only [Act.put, List.getElem_toArray, List.getElem_cons_succ, List.getElem_cons_zero, List.setIfInBounds_toArray, List.set_cons_zero, List.set_cons_succ]
        refine wpAnyH_take (i := 19) (oi := _) (v := undef) rfl (by kernel_rfl) (by kernel_rfl) (by kernel_rfl) (fun _ _ _ h => h) (Or.inr ⟨by kernel_rfl, rfl⟩) (by assumption) ?_
        simp only [Act.put, List.getElem_toArray, List.getElem_cons_succ, List.getElem_cons_zero, List.setIfInBounds_toArray, List.set_cons_zero, List.set_cons_succ]
        refine wpAnyH_take (i := 20) (oi := _) (v := undef) rfl (by kernel_rfl) (by kernel_rfl) (by kernel_rfl) (fun _ _ _ h => h) (Or.inr ⟨by kernel_rfl, rfl⟩) (by assumption) ?_
        simp only [Act.put, List.getElem_toArray, List.getElem_cons_succ, List.getElem_cons_zero, List.setIfInBounds_toArray, List.set_cons_zero, List.set_cons_succ]
        refine wpAnyH_take (i := 21) (oi := _) (v := undef) rfl (by kernel_rfl) (by kernel_rfl) (by kernel_rfl) (fun _ _ _ h => h) (Or.inr ⟨by kernel_rfl, rfl⟩) (by assumption) ?_
        simp only [Act.put, List.getElem_toArray, List.getElem_cons_succ, List.getElem_cons_zero, List.setIfInBounds_toArray, List.set_cons_zero, List.set_cons_succ]
        refine wpAnyH_take (i := 22) (oi := _) (v := undef) rfl (by kernel_rfl) (by kernel_rfl) (by kernel_rfl) (fun _ _ _ h => h) (Or.inr ⟨by kernel_rfl, rfl⟩) (by assumption) ?_
        simp only [Act.put, List.getElem_toArray, List.getElem_cons_succ, List.getElem_cons_zero, List.setIfInBounds_toArray, List.set_cons_zero, List.set_cons_succ]
        refine wpAnyH_take (i := 23) (oi := _) (v := undef) rfl (by kernel_rfl) (by kernel_rfl) (by kernel_rfl) (fun _ _ _ h => h) (Or.inr ⟨by kernel_rfl, rfl⟩) (by assumption) ?_
        simp only [Act.put, List.getElem_toArray, List.getElem_cons_succ, List.getElem_cons_zero, List.setIfInBounds_toArray, List.set_cons_zero, List.set_cons_succ]
        refine wpAnyH_take (i := 24) (oi := _) (v := undef) rfl (by kernel_rfl) (by kernel_rfl) (by kernel_rfl) (fun _ _ _ h => h) (Or.inr ⟨by kernel_rfl, rfl⟩) (by assumption) ?_
        simp only [Act.put, List.getElem_toArray, List.getElem_cons_succ, List.getElem_cons_zero, List.setIfInBounds_toArray, List.set_cons_zero, List.set_cons_succ]
        refine wpAnyH_take (i := 25) (oi := _) (v := undef) rfl (by kernel_rfl) (by kernel_rfl) (by kernel_rfl) (fun _ _ _ h => h) (Or.inr ⟨by kernel_rfl, rfl⟩) (by assumption) ?_
        simp only [Act.put, List.getElem_toArray, List.getElem_cons_succ, List.getElem_cons_zero, List.setIfInBounds_toArray, List.set_cons_zero, List.set_cons_succ]
        refine wpAnyH_take (i := 26) (oi := _) (v := undef) rfl (by kernel_rfl) (by kernel_rfl) (by kernel_rfl) (fun _ _ _ h => h) (Or.inr ⟨by kernel_rfl, rfl⟩) (by assumption) ?_
        simp only [Act.put, List.getElem_toArray, List.getElem_cons_succ, List.getElem_cons_zero, List.setIfInBounds_toArray, List.set_cons_zero, List.set_cons_succ]
        refine wpAnyH_take (i := 27) (oi := _) (v := undef) rfl (by kernel_rfl) (by kernel_rfl) (by kernel_rfl) (fun _ _ _ h => h) (Or.inr ⟨by kernel_rfl, rfl⟩) (by assumption) ?_
        simp only [Act.put, List.getElem_toArray, List.getElem_cons_succ, List.getElem_cons_zero, List.setIfInBounds_toArray, List.set_cons_zero, List.set_cons_succ]
        refine wpAnyH_take (i := 28) (oi := _) (v := undef) rfl (by kernel_rfl) (by kernel_rfl) (by kernel_rfl) (fun _ _ _ h => h) (Or.inr ⟨by kernel_rfl, rfl⟩) (by assumption) ?_
        simp only [Act.put, List.getElem_toArray, List.getElem_cons_succ, List.getElem_cons_zero, List.setIfInBounds_toArray, List.set_cons_zero, List.set_cons_succ]
        refine wpAnyH_take (i := 29) (oi := _) (v := ?_) rfl (by kernel_rfl) (by kernel_rfl) (by kernel_rfl) (fun _ _ _ h => h) (Or.inl ⟨by kernel_rfl, ?_⟩) (by assumption) ?_
        rotate_left
        · (intro w hSw; (try dsimp only at hSw); go_simp; try (with_reducible rfl))
        simp only [Act.put, List.getElem_toArray, List.getElem_cons_succ, List.getElem_cons_zero, List.setIfInBounds_toArray, List.set_cons_zero, List.set_cons_succ]
        refine wpAnyH_done (by kernel_rfl) ?_ _
        simp only [Exit.then]
        go_step
        go_meet
        case rel => exact ⟨true, rfl, fun h => (by cases h), by assumption⟩
      case false =>
        cases hxy : eqA (IV x) (IV y)
        case true =>
          refine wp_region_held_drew (S := fun W' => Sts W (fun _ => False) W' L) (by kernel_rfl) TE.drew (fun hHeld => ?_)
          refine wpAnyH_take (i := 0) (oi := _) (v := ?_) rfl (by kernel_rfl) (by kernel_rfl) (by kernel_rfl) (fun _ _ _ h => h) (Or.inl ⟨by kernel_rfl, ?_⟩) (by assumption) ?_
          rotate_left
          · (intro w hSw; (try dsimp only at hSw); go_simp; try (with_reducible rfl))
          simp only [Act.put, List.getElem_toArray, List.getElem_cons_zero, List.setIfInBounds_toArray, List.set_cons_zero, List.set_cons_succ]
          refine wpAnyH_take (i := 1) (oi := _) (v := ?_) rfl (by kernel_rfl) (by kernel_rfl) (by kernel_rfl) (fun _ _ _ h => h) (Or.inl ⟨by kernel_rfl, ?_⟩) (by assumption) ?_
          rotate_left
          · (intro w hSw; (try dsimp only at hSw); go_simp; try (with_reducible rfl))
          simp only [Act.put, List.getElem_toArray, List.getElem_cons_succ, List.getElem_cons_zero, List.setIfInBounds_toArray, List.set_cons_zero, List.set_cons_succ]
          refine wpAnyH_ready (rs := [2]) (by kernel_rfl) (by simp) ?_
          refine AllReadyH.cons (o := _) rfl (fun K hK => ?_) AllReadyH.nil
          go_simp
          refine hK.out _ _ ?_ (fun hHeld => ?_)
          · first | assumption | exact TE.drew | exact Sts.keep (by assumption) _ | exact Sts.pure (by assumption) hb
          clear hK K
          refine wpAnyH_ready (rs := [3]) (by kernel_rfl) (by simp) ?_
          refine AllReadyH.cons (o := _) rfl (fun K hK => ?_) AllReadyH.nil
          go_simp
          refine hK.out _ _ ?_ (fun hHeld => ?_)
          · first | assumption | exact TE.drew | exact Sts.keep (by assumption) _ | exact Sts.pure (by assumption) hb
          clear hK K
          refine wpAnyH_ready (rs := [4]) (by kernel_rfl) (by simp) ?_
          refine AllReadyH.cons (o := _) rfl (fun K hK => ?_) AllReadyH.nil
          go_simp
          (go_at_call 7; with_reducible refine (great_two a b false hov _ _ _ (row_first _ _ _ _ _) (row_second _ _ _ _ _) hka hkb).mono ?_; rintro e w' ⟨rfl, hb⟩)
          refine hK.out _ _ ?_ (fun hHeld => ?_)
          · first | assumption | exact TE.drew | exact Sts.keep (by assumption) _ | exact Sts.pure (by assumption) hb
          clear hK K
          refine wpAnyH_take (i := 5) (oi := _) (v := ?_) rfl (by kernel_rfl) (by kernel_rfl) (by kernel_rfl) (fun _ _ _ h => h) (Or.inl ⟨by kernel_rfl, ?_⟩) (by assumption) ?_
          rotate_left
          · (intro w hSw; (try dsimp only at hSw); go_simp; try (with_reducible rfl))
          simp only [Act.put, List.getElem_toArray, List.getElem_cons_succ, List.getElem_cons_zero, List.setIfInBounds_toArray, List.set_cons_zero, List.set_cons_succ]
          refine wpAnyH_take (i := 6) (oi := _) (v := ?_) rfl (by kernel_rfl) (by kernel_rfl) (by kernel_rfl) (fun _ _ _ h => h) (Or.inl ⟨by kernel_rfl, ?_⟩) (by assumption) ?_
          rotate_left
          · (intro w hSw; (try dsimp only at hSw); go_simp; try (with_reducible rfl))
          simp only [Act.put, List.getElem_toArray, List.getElem_cons_succ, List.getElem_cons_zero, List.setIfInBounds_toArray, List.set_cons_zero, List.set_cons_succ]
          refine wpAnyH_take (i := 7) (oi := _) (v := ?_) rfl (by kernel_rfl) (by kernel_rfl) (by kernel_rfl) (fun _ _ _ h => h) (Or.inl ⟨by kernel_rfl, ?_⟩) (by assumption) ?_
          rotate_left
          · (intro w hSw; (try dsimp only at hSw); go_simp; try (with_reducible rfl))
          simp only [Act.put, List.getElem_toArray, List.getElem_cons_succ, List.getElem_cons_zero, List.setIfInBounds_toArray, List.set_cons_zero, List.set_cons_succ]
          refine wpAnyH_take (i := 8) (oi := _) (v := ?_) rfl (by kernel_rfl) (by kernel_rfl) (by kernel_rfl) (fun _ _ _ h => h) (Or.inl ⟨by kernel_rfl, ?_⟩) (by assumption) ?_
          rotate_left
          · (intro w hSw; (try dsimp only at hSw); go_simp; try (with_reducible rfl))
          simp only [Act.put, List.getElem_toArray, List.getElem_cons_succ, List.getElem_cons_zero, List.setIfInBounds_toArray, List.set_cons_zero, List.set_cons_succ]
          refine wpAnyH_take (i := 9) (oi := _) (v := ?_) rfl (by kernel_rfl) (by kernel_rfl) (by kernel_rfl) (fun _ _ _ h => h) (Or.inl ⟨by kernel_rfl, ?_⟩) (by assumption) ?_
          rotate_left
          · (intro w hSw; (try dsimp only at hSw); go_simp; try (with_reducible rfl))
          simp only [Act.put, List.getElem_toArray, List.getElem_cons_succ, List.getElem_cons_zero, List.setIfInBounds_toArray, List.set_cons_zero, List.set_cons_succ]
          refine wpAnyH_take (i := 10) (oi := _) (v := ?_) rfl (by kernel_rfl) (by kernel_rfl) (by kernel_rfl) (fun _ _ _ h => h) (Or.inl ⟨by kernel_rfl, ?_⟩) (by assumption) ?_
          rotate_left
          · (intro w hSw; (try dsimp only at hSw); go_simp; try (with_reducible rfl))
          simp only [Act.put, List.getElem_toArray, List.getElem_cons_succ, List.getElem_cons_zero, List.setIfInBounds_toArray, List.set_cons_zero, List.set_cons_succ]
          refine wpAnyH_take (i := 11) (oi := _) (v := ?_) rfl (by kernel_rfl) (by kernel_rfl) (by kernel_rfl) (fun _ _ _ h => h) (Or.inl ⟨by kernel_rfl, ?_⟩) (by assumption) ?_
          rotate_left
          · (intro w hSw; (try dsimp only at hSw); go_simp; try (with_reducible rfl))
          simp only [Act.put, List.getElem_toArray, List.getElem_cons_succ, List.getElem_cons_zero, List.setIfInBounds_toArray, List.set_cons_zero, List.set_cons_succ]
          refine wpAnyH_take (i := 12) (oi := _) (v := ?_) rfl (by kernel_rfl) (by kernel_rfl) (by kernel_rfl) (fun _ _ _ h => h) (Or.inl ⟨by kernel_rfl, ?_⟩) (by assumption) ?_
          rotate_left
          · (intro w hSw; (try dsimp only at hSw); go_simp; try (with_reducible rfl))
          simp only [Act.put, List.getElem_toArray, List.getElem_cons_succ, List.getElem_cons_zero, List.setIfInBounds_toArray, List.set_cons_zero, List.set_cons_succ]
          refine wpAnyH_take (i := 13) (oi := _) (v := ?_) rfl (by kernel_rfl) (by kernel_rfl) (by kernel_rfl) (fun _ _ _ h => h) (Or.inl ⟨by kernel_rfl, ?_⟩) (by assumption) ?_
          rotate_left
          · (intro w hSw; (try dsimp only at hSw); go_simp; try (with_reducible rfl))
          simp only [Act.put, List.getElem_toArray, List.getElem_cons_succ, List.getElem_cons_zero, List.setIfInBounds_toArray, List.set_cons_zero, List.set_cons_succ]
          refine wpAnyH_take (i := 14) (oi := _) (v := ?_) rfl (by kernel_rfl) (by kernel_rfl) (by kernel_rfl) (fun _ _ _ h => h) (Or.inl ⟨by kernel_rfl, ?_⟩) (by assumption) ?_
          rotate_left
          · (intro w hSw; (try dsimp only at hSw); go_simp; try (with_reducible rfl))
          simp only [Act.put, List.getElem_toArray, List.getElem_cons_succ, List.getElem_cons_zero, List.setIfInBounds_toArray, List.set_cons_zero, List.set_cons_succ]
          refine wpAnyH_take (i := 15) (oi := _) (v := undef) rfl (by kernel_rfl) (by kernel_rfl) (by kernel_rfl) (fun _ _ _ h => h) (Or.inr ⟨by kernel_rfl, rfl⟩) (by assumption) ?_
          simp only [Act.put, List.getElem_toArray, List.getElem_cons_succ, List.getElem_cons_zero, List.setIfInBounds_toArray, List.set_cons_zero, List.set_cons_succ]
          refine wpAnyH_take (i := 16) (oi := _) (v := undef) rfl (by kernel_rfl) (by kernel_rfl) (by kernel_rfl) (fun _ _ _ h => h) (Or.inr ⟨by kernel_rfl, rfl⟩) (by assumption) ?_
          simp only [Act.put, List.getElem_toArray, List.getElem_cons_succ, List.getElem_cons_zero, List.setIfInBounds_toArray, List.set_cons_zero, List.set_cons_succ]
          refine wpAnyH_take (i := 17) (oi := _) (v := undef) rfl (by kernel_rfl) (by kernel_rfl) (by kernel_rfl) (fun _ _ _ h => h) (Or.inr ⟨by kernel_rfl, rfl⟩) (by assumption) ?_
          simp only [Act.put, List.getElem_toArray, List.getElem_cons_succ, List.getElem_cons_zero, List.setIfInBounds_toArray, List.set_cons_zero, List.set_cons_succ]
          refine wpAnyH_take (i := 18) (oi := _) (v := undef) rfl (by kernel_rfl) (by kernel_rfl) (by kernel_rfl) (fun _ _ _ h => h) (Or.inr ⟨by kernel_rfl, rfl⟩) (by assumption) ?_
          simp only [Act.put, List.getElem_toArray, List.getElem_cons_succ, List.getElem_cons_zero, List.setIfInBounds_toArray, List.set_cons_zero, List.set_cons_succ]
          refine wpAnyH_take (i := 19) (oi := _) (v := undef) rfl (by kernel_rfl) (by kernel_rfl) (by kernel_rfl) (fun _ _ _ h => h) (Or.inr ⟨by kernel_rfl, rfl⟩) (by assumption) ?_
          simp only [Act.put, List.getElem_toArray, List.getElem_cons_succ, List.getElem_cons_zero, List.setIfInBounds_toArray, List.set_cons_zero, List.set_cons_succ]
          refine wpAnyH_take (i := 20) (oi := _) (v := undef) rfl (by kernel_rfl) (by kernel_rfl) (by kernel_rfl) (fun _ _ _ h => h) (Or.inr ⟨by kernel_rfl, rfl⟩) (by assumption) ?_
          simp only [Act.put, List.getElem_toArray, List.getElem_cons_succ, List.getElem_cons_zero, List.setIfInBounds_toArray, List.set_cons_zero, List.set_cons_succ]
          refine wpAnyH_take (i := 21) (oi := _) (v := undef) rfl (by kernel_rfl) (by kernel_rfl) (by kernel_rfl) (fun _ _ _ h => h) (Or.inr ⟨by kernel_rfl, rfl⟩) (by assumption) ?_
          simp only [Act.put, List.getElem_toArray, List.getElem_cons_succ, List.getElem_cons_zero, List.setIfInBounds_toArray, List.set_cons_zero, List.set_cons_succ]
          refine wpAnyH_take (i := 22) (oi := _) (v := undef) rfl (by kernel_rfl) (by kernel_rfl) (by kernel_rfl) (fun _ _ _ h => h) (Or.inr ⟨by kernel_rfl, rfl⟩) (by assumption) ?_
          simp only [Act.put, List.getElem_toArray, List.getElem_cons_succ, List.getElem_cons_zero, List.setIfInBounds_toArray, List.set_cons_zero, List.set_cons_succ]
          refine wpAnyH_take (i := 23) (oi := _) (v := undef) rfl (by kernel_rfl) (by kernel_rfl) (by kernel_rfl) (fun _ _ _ h => h) (Or.inr ⟨by kernel_rfl, rfl⟩) (by assumption) ?_
          simp only [Act.put, List.getElem_toArray, List.getElem_cons_succ, List.getElem_cons_zero, List.setIfInBounds_toArray, List.set_cons_zero, List.set_cons_succ]
          refine wpAnyH_take (i := 24) (oi := _) (v := undef) rfl (by kernel_rfl) (by kernel_rfl) (by kernel_rfl) (fun _ _ _ h => h) (Or.inr ⟨by kernel_rfl, rfl⟩) (by assumption) ?_
          simp only [Act.put, List.getElem_toArray, List.getElem_cons_succ, List.getElem_cons_zero, List.setIfInBounds_toArray, List.set_cons_zero, List.set_cons_succ]
          refine wpAnyH_take (i := 25) (oi := _) (v := undef) rfl (by kernel_rfl) (by kernel_rfl) (by kernel_rfl) (fun _ _ _ h => h) (Or.inr ⟨by kernel_rfl, rfl⟩) (by assumption) ?_
          simp only [Act.put, List.getElem_toArray, List.getElem_cons_succ, List.getElem_cons_zero, List.setIfInBounds_toArray, List.set_cons_zero, List.set_cons_succ]
          refine wpAnyH_take (i := 26) (oi := _) (v := undef) rfl (by kernel_rfl) (by kernel_rfl) (by kernel_rfl) (fun _ _ _ h => h) (Or.inr ⟨by kernel_rfl, rfl⟩) (by assumption) ?_
          simp only [Act.put, List.getElem_toArray, List.getElem_cons_succ, List.getElem_cons_zero, List.setIfInBounds_toArray, List.set_cons_zero, List.set_cons_succ]
          refine wpAnyH_take (i := 27) (oi := _) (v := undef) rfl (by kernel_rfl) (by kernel_rfl) (by kernel_rfl) (fun _ _ _ h => h) (Or.inr ⟨by kernel_rfl, rfl⟩) (by assumption) ?_
          simp only [Act.put, List.getElem_toArray, List.getElem_cons_succ, List.getElem_cons_zero, List.setIfInBounds_toArray, List.set_cons_zero, List.set_cons_succ]
          refine wpAnyH_take (i := 28) (oi := _) (v := undef) rfl (by kernel_rfl) (by kernel_rfl) (by kernel_rfl) (fun _ _ _ h => h) (Or.inr ⟨by kernel_rfl, rfl⟩) (by assumption) ?_
          simp only [Act.put, List.getElem_toArray, List.getElem_cons_succ, List.getElem_cons_zero, List.setIfInBounds_toArray, List.set_cons_zero, List.set_cons_succ]
          refine wpAnyH_take (i := 29) (oi := _) (v := ?_) rfl (by kernel_rfl) (by kernel_rfl) (by kernel_rfl) (fun _ _ _ h => h) (Or.inl ⟨by kernel_rfl, ?_⟩) (by assumption) ?_
          rotate_left
          · (intro w hSw; (try dsimp only at hSw); go_simp; try (with_reducible rfl))
          simp only [Act.put, List.getElem_toArray, List.getElem_cons_succ, List.getElem_cons_zero, List.setIfInBounds_toArray, List.set_cons_zero, List.set_cons_succ]
          refine wpAnyH_done (by kernel_rfl) ?_ _
          simp only [Exit.then]
          go_step
          go_meet
          case rel => exact ⟨true, rfl, fun h => (by cases h), by assumption⟩
        case false =>
          have hca : Clean a := by rw [Bool.or_eq_false_iff] at hov; exact ⟨hia, K1.out (O1.out hov.1)⟩
          have hcb : Clean b := by rw [Bool.or_eq_false_iff] at hov; exact ⟨hib, K2.out (O2.out hov.2)⟩
          go_region_held3 (fun W' => Sts W (fun _ => False) W' L)
            (first | assumption | exact TE.drew | exact Sts.keep (by assumption) _ | exact Sts.pure (by assumption) hb)
            (first
              | (go_at_call 7; with_reducible refine (great_two a b false hov _ _ _ (row_first _ _ _ _ _) (row_second _ _ _ _ _) hka hkb).mono ?_; rintro e w' ⟨rfl, hb⟩)
              | (go_at_call 8; with_reducible refine (look_one2 n a ma MA.out _ _ ?_ hca).mono ?_; (first | exact ⟨_, row_at1 _ _ _ _, (row_alloc_ne _ _ _ (by (try simp only [World.size_alloc]); omega)).trans (row_alloc_at _ _ _ _ rfl)⟩ | exact ⟨_, (row_alloc_ne _ _ _ (by (try simp only [World.size_alloc]); omega)).trans (row_at1 _ _ _ _), (row_alloc_ne _ _ _ (by (try simp only [World.size_alloc]); omega)).trans ((row_alloc_ne _ _ _ (by (try simp only [World.size_alloc]); omega)).trans (row_alloc_at _ _ _ _ rfl))⟩ | exact ⟨_, row_at2 _ _ _ _ _, (row_alloc_ne _ _ _ (by (try simp only [World.size_alloc]); omega)).trans ((row_alloc_ne _ _ _ (by (try simp only [World.size_alloc]); omega)).trans (row_alloc_at _ _ _ _ rfl))⟩ | exact ⟨_, row_at2 _ _ _ _ _, (row_alloc_ne _ _ _ (by (try simp only [World.size_alloc]); omega)).trans (row_at1 _ _ _ _)⟩ | exact ⟨_, (row_alloc_ne _ _ _ (by (try simp only [World.size_alloc]); omega)).trans ((row_alloc_ne _ _ _ (by (try simp only [World.size_alloc]); omega)).trans (row_at1 _ _ _ _)), (row_alloc_ne _ _ _ (by (try simp only [World.size_alloc]); omega)).trans ((row_alloc_ne _ _ _ (by (try simp only [World.size_alloc]); omega)).trans ((row_alloc_ne _ _ _ (by (try simp only [World.size_alloc]); omega)).trans (row_alloc_at _ _ _ _ rfl)))⟩ | exact ⟨_, (row_alloc_ne _ _ _ (by (try simp only [World.size_alloc]); omega)).trans (row_at2 _ _ _ _ _), (row_alloc_ne _ _ _ (by (try simp only [World.size_alloc]); omega)).trans ((row_alloc_ne _ _ _ (by (try simp only [World.size_alloc]); omega)).trans ((row_alloc_ne _ _ _ (by (try simp only [World.size_alloc]); omega)).trans (row_alloc_at _ _ _ _ rfl)))⟩ | exact ⟨_, (row_alloc_ne _ _ _ (by (try simp only [World.size_alloc]); omega)).trans (row_at2 _ _ _ _ _), (row_alloc_ne _ _ _ (by (try simp only [World.size_alloc]); omega)).trans ((row_alloc_ne _ _ _ (by (try simp only [World.size_alloc]); omega)).trans (row_at1 _ _ _ _))⟩ | exact ⟨_, row_at3 _ _ _ _ _ _, (row_alloc_ne _ _ _ (by (try simp only [World.size_alloc]); omega)).trans ((row_alloc_ne _ _ _ (by (try simp only [World.size_alloc]); omega)).trans ((row_alloc_ne _ _ _ (by (try simp only [World.size_alloc]); omega)).trans (row_alloc_at _ _ _ _ rfl)))⟩ | exact ⟨_, row_at3 _ _ _ _ _ _, (row_alloc_ne _ _ _ (by (try simp only [World.size_alloc]); omega)).trans ((row_alloc_ne _ _ _ (by (try simp only [World.size_alloc]); omega)).trans (row_at1 _ _ _ _))⟩ | exact ⟨_, row_at3 _ _ _ _ _ _, (row_alloc_ne _ _ _ (by (try simp only [World.size_alloc]); omega)).trans (row_at2 _ _ _ _ _)⟩); rintro e w' ⟨A9, c9, rfl, hb⟩)
              | (go_at_call 8; with_reducible refine (look_one2 n b mb MB.out _ _ ?_ hcb).mono ?_; (have hz := hb.size; (try simp only [World.size_alloc] at hz); first | exact ⟨_, row_at1 _ _ _ _, (row_alloc_ne _ _ _ (by (try simp only [World.size_alloc]); omega)).trans (row_alloc_at _ _ _ _ rfl)⟩ | exact ⟨_, row_alloc_at _ _ _ _ rfl, (row_alloc_ne _ _ _ (by (try simp only [World.size_alloc]); omega)).trans ((row_below hb (by (try simp only [World.size_alloc]); omega)).trans ((row_alloc_ne _ _ _ (by (try simp only [World.size_alloc]); omega)).trans ((row_alloc_ne _ _ _ (by (try simp only [World.size_alloc]); omega)).trans (row_alloc_at _ _ _ _ rfl))))⟩ | exact ⟨_, row_alloc_at _ _ _ _ rfl, (row_alloc_ne _ _ _ (by (try simp only [World.size_alloc]); omega)).trans ((row_below hb (by (try simp only [World.size_alloc]); omega)).trans ((row_alloc_ne _ _ _ (by (try simp only [World.size_alloc]); omega)).trans (row_at1 _ _ _ _)))⟩ | exact ⟨_, row_alloc_at _ _ _ _ rfl, (row_alloc_ne _ _ _ (by (try simp only [World.size_alloc]); omega)).trans ((row_below hb (by (try simp only [World.size_alloc]); omega)).trans (row_at2 _ _ _ _ _))⟩ | exact ⟨_, (row_below hb (by (try simp only [World.size_alloc]); omega)).trans ((row_alloc_ne _ _ _ (by (try simp only [World.size_alloc]); omega)).trans ((row_alloc_ne _ _ _ (by (try simp only [World.size_alloc]); omega)).trans (row_at1 _ _ _ _))), (row_below hb (by (try simp only [World.size_alloc]); omega)).trans ((row_alloc_ne _ _ _ (by (try simp only [World.size_alloc]); omega)).trans ((row_alloc_ne _ _ _ (by (try simp only [World.size_alloc]); omega)).trans ((row_alloc_ne _ _ _ (by (try simp only [World.size_alloc]); omega)).trans (row_alloc_at _ _ _ _ rfl))))⟩ | exact ⟨_, (row_below hb (by (try simp only [World.size_alloc]); omega)).trans ((row_alloc_ne _ _ _ (by (try simp only [World.size_alloc]); omega)).trans (row_at2 _ _ _ _ _)), (row_below hb (by (try simp only [World.size_alloc]); omega)).trans ((row_alloc_ne _ _ _ (by (try simp only [World.size_alloc]); omega)).trans ((row_alloc_ne _ _ _ (by (try simp only [World.size_alloc]); omega)).trans ((row_alloc_ne _ _ _ (by (try simp only [World.size_alloc]); omega)).trans (row_alloc_at _ _ _ _ rfl))))⟩ | exact ⟨_, (row_below hb (by (try simp only [World.size_alloc]); omega)).trans ((row_alloc_ne _ _ _ (by (try simp only [World.size_alloc]); omega)).trans (row_at2 _ _ _ _ _)), (row_below hb (by (try simp only [World.size_alloc]); omega)).trans ((row_alloc_ne _ _ _ (by (try simp only [World.size_alloc]); omega)).trans ((row_alloc_ne _ _ _ (by (try simp only [World.size_alloc]); omega)).trans (row_at1 _ _ _ _)))⟩ | exact ⟨_, (row_below hb (by (try simp only [World.size_alloc]); omega)).trans (row_at3 _ _ _ _ _ _), (row_below hb (by (try simp only [World.size_alloc]); omega)).trans ((row_alloc_ne _ _ _ (by (try simp only [World.size_alloc]); omega)).trans ((row_alloc_ne _ _ _ (by (try simp only [World.size_alloc]); omega)).trans ((row_alloc_ne _ _ _ (by (try simp only [World.size_alloc]); omega)).trans (row_alloc_at _ _ _ _ rfl))))⟩ | exact ⟨_, (row_below hb (by (try simp only [World.size_alloc]); omega)).trans (row_at3 _ _ _ _ _ _), (row_below hb (by (try simp only [World.size_alloc]); omega)).trans ((row_alloc_ne _ _ _ (by (try simp only [World.size_alloc]); omega)).trans ((row_alloc_ne _ _ _ (by (try simp only [World.size_alloc]); omega)).trans (row_at1 _ _ _ _)))⟩ | exact ⟨_, (row_below hb (by (try simp only [World.size_alloc]); omega)).trans (row_at3 _ _ _ _ _ _), (row_below hb (by (try simp only [World.size_alloc]); omega)).trans ((row_alloc_ne _ _ _ (by (try simp only [World.size_alloc]); omega)).trans (row_at2 _ _ _ _ _))⟩); rintro e w' ⟨A9, c9, rfl, hb⟩))
          all_goals
            simp only [Exit.then]
            go_step
            go_meet
            case rel =>
              refine ⟨decide ((0 : Int) < IntKind.i64.wrap ((ma : Int) + (mb : Int))), rfl, fun h => ?_, by assumption⟩
              obtain ⟨h1, h2⟩ := wrap_zero ma hma mb hmb h
              rw [Bool.or_eq_false_iff] at hov
              exact ⟨hov.1, hov.2, by simpa using hn7, hxy, h1, h2⟩
  case rest =>
    obtain ⟨q, rfl, hq, TN⟩ := hcut
    rw [HL.out] at TN
    clear TE HL
    have T := TN; clear TN
    cases q
    case true =>
      go_wp2
      go_ret
      exact ⟨rfl, hg1 ▸ T.below⟩
    case false =>
      obtain ⟨o1, o2, hn7, hxy, rfl, rfl⟩ := hq rfl
      obtain ⟨gx, -⟩ := SX.out rfl
      obtain ⟨gy, -⟩ := SY.out rfl
      have hl := LAW.out hxy rfl rfl
      rw [has_num c.deps y n (by omega) gy, has_num d.deps x n (by omega) gx] at hl
      have hkc := K1.out (O1.out o1); have hkd := K2.out (O2.out o2)
      have hca : Clean a := ⟨hia, hkc⟩
      have hcb : Clean b := ⟨hib, hkd⟩
      have CC := Lib.hid (rclash_any c.deed d.deed (by have := O1.out o1; unfold maxLen; omega) (by have := O2.out o2; unfold maxLen; omega))
      unfold goodI at gx gy
      rw [decide_eq_true_iff] at gx gy
      obtain ⟨kx, hkx⟩ := Int.eq_ofNat_of_zero_le gx.1
      obtain ⟨ky, hky⟩ := Int.eq_ofNat_of_zero_le gy.1
      have hkx7 : kx < 7 := by omega
      have hky7 : ky < 7 := by omega
      have ex : x.rep.toNat = kx := by omega
      have ey : y.rep.toNat = ky := by omega
      rw [ex, ey] at hl
      clear ex ey
      have HLW := Lib.hid hl
      clear hl hq SX SY O1 O2 K1 K2 MA MB LAW gx gy hkc hkd o1 o2 hxy
      have r1 := T.drop.drop.row; have r2 := T.drop.drop.row1; have r3 := T.drop.drop.row2; have r4 := T.drop.drop.row3
      have l1 := row_lt r1; have l2 := row_lt r2; have l3 := row_lt r3; have l4 := row_lt r4
      have c1 := row_cell r1; have c2 := row_cell r2; have c3 := row_cell r3; have c4 := row_cell r4
      have hdc := TCall_deps c ky hky7; have hdd := TCall_deps d kx hkx7
      go_upto_region 7 with fail
      go_cut [13] (fun u13 wx => u13 = .bool (clashB c.deed d.deed && decide (c.deps ky < y.num) && decide (d.deps kx < x.num)) ∧ Sts W (fun _ => False) wx [rowR gb (AV b), rowR ga (AV a), rowR g4 (CV d), rowR g3 (CV c), rowR g2 (IV y), rowR g1 (IV x)])
      case first =>
        cases hcl : clashB c.deed d.deed
        case true =>
          cases hu1 : decide (c.deps ky < y.num)
          case true =>
            cases hu2 : decide (d.deps kx < x.num)
            case true =>
              refine wp_region_ext (by kernel_rfl) (by kernel_rfl) ?_
              repeat (go_big_quiet_step (first | (go_at_call 10; exact (CC.out.of_eq (by rw [hcl])).quiet)))
              refine wpQuiet_nil ?_
              rintro _ ⟨x9, rfl⟩
              have T := T.ext x9
              clear c1 c2 c3 c4 r1 r2 r3 r4 l1 l2 l3 l4
              generalize ext _ x9 = w3 at *
              simp only [Exit.then]
              go_step
              go_meet
              case rel => exact ⟨by first | (rw [hcl, hu1, hu2]; rfl) | (rw [hcl, hu1]; rfl) | (rw [hcl]; rfl), T⟩
            case false =>
              refine wp_region_ext (by kernel_rfl) (by kernel_rfl) ?_
              repeat (go_big_quiet_step (first | (go_at_call 10; exact (CC.out.of_eq (by rw [hcl])).quiet)))
              refine wpQuiet_nil ?_
              rintro _ ⟨x9, rfl⟩
              have T := T.ext x9
              clear c1 c2 c3 c4 r1 r2 r3 r4 l1 l2 l3 l4
              generalize ext _ x9 = w3 at *
              simp only [Exit.then]
              go_step
              go_meet
              case rel => exact ⟨by first | (rw [hcl, hu1, hu2]; rfl) | (rw [hcl, hu1]; rfl) | (rw [hcl]; rfl), T⟩
          case false =>
            refine wp_region_ext (by kernel_rfl) (by kernel_rfl) ?_
            repeat (go_big_quiet_step (first | (go_at_call 10; exact (CC.out.of_eq (by rw [hcl])).quiet)))
            refine wpQuiet_nil ?_
            rintro _ ⟨x9, rfl⟩
            have T := T.ext x9
            clear c1 c2 c3 c4 r1 r2 r3 r4 l1 l2 l3 l4
            generalize ext _ x9 = w3 at *
            simp only [Exit.then]
            go_step
            go_meet
            case rel => exact ⟨by first | (rw [hcl, hu1, hu2]; rfl) | (rw [hcl, hu1]; rfl) | (rw [hcl]; rfl), T⟩
        case false =>
          refine wp_region_ext (by kernel_rfl) (by kernel_rfl) ?_
          repeat (go_big_quiet_step (first | (go_at_call 10; exact (CC.out.of_eq (by rw [hcl])).quiet)))
          refine wpQuiet_nil ?_
          rintro _ ⟨x9, rfl⟩
          have T := T.ext x9
          clear c1 c2 c3 c4 r1 r2 r3 r4 l1 l2 l3 l4
          generalize ext _ x9 = w3 at *
          simp only [Exit.then]
          go_step
          go_meet
          case rel => exact ⟨by first | (rw [hcl, hu1, hu2]; rfl) | (rw [hcl, hu1]; rfl) | (rw [hcl]; rfl), T⟩
      case rest =>
        obtain ⟨rfl, TN⟩ := hcut
        clear c1 c2 c3 c4 r1 r2 r3 r4 l1 l2 l3 l4 T CC hdc hdd
        have T := TN; clear TN
        have r1 := T.row; have r2 := T.row1
        have l1 := row_lt r1; have l2 := row_lt r2
        generalize wc = w3 at *
        have TX := ((T.new (AV a) 40).new (AV b) 40).new #[.slice (some ⟨w3.heap.size, 0, none⟩) 1 1, .slice (some ⟨w3.heap.size + 1, 0, none⟩) 1 1] 26
        simp only [World.size_alloc] at TX
        have CL := Lib.hid (look_pair n a b w3.heap.size (w3.heap.size + 1) (w3.heap.size + 1 + 1) TX.row2 TX.row1 TX.row hca hcb TX.drop.drop.drop)
        clear TX
        go_wp2_with fail
        with_reducible refine CL.out.mono ?_
        clear CL r1 r2 l1 l2; rintro e w4 ⟨v, rfl, T⟩
        rw [HLW.out] at T
        cases hu : (clashB c.deed d.deed && decide (c.deps ky < y.num) && decide (d.deps kx < x.num))
        case false =>
          rw [hu, if_neg Bool.false_ne_true] at T
          obtain ⟨A9, c9, rfl⟩ := vec_shape0 T
          clear HLW
          go_wp2
          go_ret
          exact ⟨rfl, hg1 ▸ T.below⟩
        case true =>
          rw [hu, if_pos rfl] at T
          obtain ⟨A9, c9, hv, hrow, -, hA9⟩ := vec_rows TFinding_size T (by omega) (by simp)
          subst hv
          clear HLW
          cases A9 with
          | none => exact absurd (hrow.nil rfl) (by simp)
          | some q9 =>
            obtain ⟨g9, rfl⟩ := hA9 q9 rfl
            have f1 := fun z => hrow.part (P := Try.prog) (T := 49) (ext_below w4 z) (j := 0) (by simp) 0 4 (FV ⟨5, x.rep, x⟩) (fun i v h => by rw [Nat.zero_add]; exact h) rfl TFinding_und rfl (by kernel_rfl)
            have r6 := T.drop.drop.drop.drop.drop.row1
            have l6 := row_lt r6; have c6 := row_cell r6
            have he : eqA (FV ⟨5, x.rep, x⟩) (FV ⟨5, x.rep, x⟩) = true := eqA_refl _
            simp only [loadOf, row_ext, Nat.zero_mul, Nat.add_zero] at f1
            clear hkx hky
            go_upto_region 11 with fail
            refine wp_region_ext (by kernel_rfl) (by kernel_rfl) ?_
            repeat (go_big_quiet_step (fail))
            refine wpQuiet_nil ?_
            rintro _ ⟨x9, rfl⟩
            have T := T.ext x9
            clear f1 r6 l6 c6 hrow
            generalize ext _ x9 = w5 at *
            go_wp2
            go_ret
            exact ⟨rfl, hg1 ▸ T.below⟩
end Go.Proofs.Ytahajjfbkdocaaa
