/- Several texts in one. -/
import Derived.Test.YtahajjfbkdocaaaZ18
import Derived.Test.YtahajjfbkdocaaaZ23
import Derived.Test.YtahajjfbkdocaaaZ20
/- Layer 24, the laws: what the document tells. -/
namespace Go.Proofs.Ytahajjfbkdocaaa
open Go.RowKit
set_option linter.unusedVariables false
attribute [local go_sem] row_alloc row_drew row_drewN row_ext row_setCell row_setRow size_ext setRow_alloc setRow_drew loadOf storeOf piece_lit loadVal_at storeVal_at allOne_lit buildOf buildRes_some
attribute [local go_sem high] cell_alloc frozen_alloc setCell_alloc cell_ext frozen_ext cell_setRow frozen_setRow
attribute [local go_sem ↓] TDeed_ld0 TDeed_st0 TDeed_fd0 TDeed_bd0
attribute [local go_sem] TDeed_size TDeed_one TDeed_piece TDeed_c0 TDeed_c1 TDeed_c2 TDeed_c3 TDeed_c4 TDeed_c5 TDeed_set_kind TDeed_set_key TDeed_set_val TDeed_set_ver TDeed_set_ses TDeed_set_num TDeed_ld TDeed_st TDeed_f_kind TDeed_f_key TDeed_f_val TDeed_f_ver TDeed_f_ses TDeed_f_num TDeed_bd TDeed_fl TDeed_fl_kind TDeed_fl_key TDeed_fl_val TDeed_fl_ver TDeed_fl_ses TDeed_fl_num
attribute [local go_sem high] TDeed_eql TDeed_neq
attribute [local go_sem ↓] index_deps0 load_deps0 store_deps0
attribute [local go_sem] DV_piece DV_size DV_one index_deps load_deps store_deps
attribute [local go_sem high] TDeps_eql TDeps_neq
attribute [local go_sem ↓] TCall_ld0 TCall_st0 TCall_fd0 TCall_bd0
attribute [local go_sem] TCall_size TCall_one TCall_piece TCall_c0 TCall_c1 TCall_c2 TCall_c3 TCall_c4 TCall_c5 TCall_c6 TCall_c7 TCall_c8 TCall_c9 TCall_c10 TCall_c11 TCall_c12 TCall_c13 TCall_p_deed TCall_put_deed TCall_p_deps TCall_put_deps TCall_set_seq TCall_ld TCall_st TCall_f_deed TCall_f_deps TCall_f_seq TCall_bd TCall_fl TCall_fl_deed TCall_fl_deps TCall_fl_seq
attribute [local go_sem high] TCall_eql TCall_neq
attribute [local go_sem ↓] TItem_ld0 TItem_st0 TItem_fd0 TItem_bd0
attribute [local go_sem] TItem_size TItem_one TItem_piece TItem_c0 TItem_c1 TItem_set_rep TItem_set_num TItem_ld TItem_st TItem_f_rep TItem_f_num TItem_bd TItem_fl TItem_fl_rep TItem_fl_num
attribute [local go_sem high] TItem_eql TItem_neq
attribute [local go_sem ↓] TBallot_ld0 TBallot_st0 TBallot_fd0 TBallot_bd0
attribute [local go_sem] TBallot_size TBallot_one TBallot_piece TBallot_c0 TBallot_c1 TBallot_set_round TBallot_set_rep TBallot_ld TBallot_st TBallot_f_round TBallot_f_rep TBallot_bd TBallot_fl TBallot_fl_round TBallot_fl_rep
attribute [local go_sem high] TBallot_eql TBallot_neq
attribute [local go_sem ↓] TInst_ld0 TInst_st0 TInst_fd0 TInst_bd0
attribute [local go_sem] TInst_size TInst_one TInst_piece TInst_c0 TInst_c1 TInst_c2 TInst_c3 TInst_c4 TInst_c5 TInst_c6 TInst_c7 TInst_c8 TInst_c9 TInst_c10 TInst_c11 TInst_c12 TInst_c13 TInst_c14 TInst_c15 TInst_c16 TInst_c17 TInst_c18 TInst_c19 TInst_p_prom TInst_put_prom TInst_p_vote TInst_put_vote TInst_set_status TInst_p_call TInst_put_call TInst_set_same TInst_ld TInst_st TInst_f_prom TInst_f_vote TInst_f_status TInst_f_call TInst_f_same TInst_bd TInst_fl TInst_fl_prom TInst_fl_vote TInst_fl_status TInst_fl_call TInst_fl_same
attribute [local go_sem high] TInst_eql TInst_neq
attribute [local go_sem ↓] TEntry_ld0 TEntry_st0 TEntry_fd0 TEntry_bd0
attribute [local go_sem] TEntry_size TEntry_one TEntry_piece TEntry_c0 TEntry_c1 TEntry_c2 TEntry_c3 TEntry_c4 TEntry_c5 TEntry_c6 TEntry_c7 TEntry_c8 TEntry_c9 TEntry_c10 TEntry_c11 TEntry_c12 TEntry_c13 TEntry_c14 TEntry_c15 TEntry_c16 TEntry_c17 TEntry_c18 TEntry_c19 TEntry_c20 TEntry_c21 TEntry_p_item TEntry_put_item TEntry_p_inst TEntry_put_inst TEntry_ld TEntry_st TEntry_f_item TEntry_f_inst TEntry_bd TEntry_fl TEntry_fl_item TEntry_fl_inst
attribute [local go_sem high] TEntry_eql TEntry_neq
attribute [local go_sem ↓] TFinding_ld0 TFinding_st0 TFinding_fd0 TFinding_bd0
attribute [local go_sem] TFinding_size TFinding_one TFinding_piece TFinding_c0 TFinding_c1 TFinding_c2 TFinding_c3 TFinding_set_kind TFinding_set_rep TFinding_p_item TFinding_put_item TFinding_ld TFinding_st TFinding_f_kind TFinding_f_rep TFinding_f_item TFinding_bd TFinding_fl TFinding_fl_kind TFinding_fl_rep TFinding_fl_item
attribute [local go_sem high] TFinding_eql TFinding_neq
theorem entry_slice0 (len : Nat) (parts : Array (Nat × Value)) : Instr.buildSlice 26 len parts = buildSem 26 len parts := rfl
theorem noEntry_lit : (AV noEntry : Array Value) = #[.int .i64 0, .int .i64 0, .int .i64 0, .int .i64 0, .int .i64 0, .int .i64 0, .int .i64 0, .int .i64 0, .string { data := #[] }, .string { data := #[] }, .int .i64 0, .int .i64 0, .int .i64 0, .int .i64 0, .int .i64 0, .int .i64 0, .int .i64 0, .int .i64 0, .int .i64 0, .int .i64 0, .int .i64 0, .bool false] := by kernel_rfl
theorem entry_slice1 (w : World) (x : Entry) : (buildSem 26 1 #[(0, .agg (AV x))]).run Try.prog w = .ok (.slice (some ⟨w.heap.size, 0, none⟩) 1 1) (w.alloc (.cells (AV x) 40)) :=
  build_slice1 Try.underlying26 (z := .agg #[.int .i64 0, .int .i64 0, .int .i64 0, .int .i64 0, .int .i64 0, .int .i64 0, .int .i64 0, .int .i64 0, .string { data := #[] }, .string { data := #[] }, .int .i64 0, .int .i64 0, .int .i64 0, .int .i64 0, .int .i64 0, .int .i64 0, .int .i64 0, .int .i64 0, .int .i64 0, .int .i64 0, .int .i64 0, .bool false]) (n := 22) (by kernel_rfl) (by omega) w (TEntry_size x) (by omega)
theorem entry_slice2 (w : World) (x y : Entry) : (buildSem 26 2 #[(0, .agg (AV x)), (1, .agg (AV y))]).run Try.prog w = .ok (.slice (some ⟨w.heap.size, 0, none⟩) 2 2) (w.alloc (.cells (AV x ++ AV y) 40)) :=
  build_slice2 Try.underlying26 (z := .agg #[.int .i64 0, .int .i64 0, .int .i64 0, .int .i64 0, .int .i64 0, .int .i64 0, .int .i64 0, .int .i64 0, .string { data := #[] }, .string { data := #[] }, .int .i64 0, .int .i64 0, .int .i64 0, .int .i64 0, .int .i64 0, .int .i64 0, .int .i64 0, .int .i64 0, .int .i64 0, .int .i64 0, .int .i64 0, .bool false]) (n := 22) (by kernel_rfl) (by omega) w (TEntry_size x) (TEntry_size y) (by omega)
attribute [local go_sem ↓] entry_slice0
attribute [local go_sem] entry_slice1 entry_slice2
/-- Rows of a block of the call's own. -/
theorem rows_of_row {α : Type} {V : α → Array Value} {size : Nat} (hV : ∀ x, (V x).size = size) {W : World} {g : Nat} {l : List α} (h : row? W g = some (flatV V l)) (hl : l.length ≤ 9223372036854775807) : RowsIn W (some ⟨g, 0, none⟩) size V l := by
  refine ⟨fun ha => (by cases ha), fun a ha j hj i u hu => ?_, hl⟩
  injection ha with ha; subst ha
  have hi : i < size := by have := (Array.getElem?_eq_some_iff.1 hu).1; rw [hV] at this; exact this
  have h2 := flatV_get hV l j hj i hi
  rw [hu] at h2
  rw [add_none, add_none, Nat.zero_add, row_cell h]
  exact h2
theorem flat1 {α : Type} (V : α → Array Value) (x : α) : flatV V [x] = V x := flatV_one V x
theorem flat2 {α : Type} (V : α → Array Value) (x y : α) : flatV V [x, y] = V x ++ V y := by
  rw [show [x, y] = [x] ++ [y] from rfl, flatV_append, flatV_one, flatV_one]
theorem Sts.after {w W W' : World} {F : Nat → Prop} {L R : List Res} (T : Sts w F W R) (h : Sts W (fun _ => False) W' L) : Sts w F W' (L ++ R) := by
  obtain ⟨G, hG, hk⟩ := Sts.call (L := []) (R := R) T
  have e : G = fun _ => False := funext fun k => propext ⟨fun hg => hG k hg, False.elim⟩
  subst e
  exact hk h
/-- Look, of dumps that lie here. -/
theorem look_at (n : Int) (A : Option Addr) (c : Nat) (ds : List Dump) {w W : World} {F : Nat → Prop} {R : List Res} (hx : DumpsIn W A ds) (hd : ∀ d ∈ ds, (∀ e ∈ d.l, Clean e) ∧ d.l.length ≤ 20) (h14 : ds.length ≤ 14) (T : Sts w F W R) :
    Calls Try.prog 8 #[.int .i64 n, .slice A ds.length c] W fun e W' => ∃ v, e = .returned v ∧ Sts w F W' (listR (lookM n ds) v :: R) := by
  refine (lookT n A c ds W W [] hx.rows (fun d h => ⟨hx.each d h, (hd d h).1, (hd d h).2⟩) h14 (Sts.start0 W)).mono ?_
  rintro e W' ⟨v, he, h⟩
  exact ⟨v, he, T.after h⟩
theorem DumpsIn.later {w W : World} {A : Option Addr} {ds : List Dump} (h : DumpsIn w A ds) (hb : Below w.heap.size w W) : DumpsIn W A ds := ⟨h.rows.later hb, fun d hd => (h.each d hd).later hb⟩
theorem dumps_none (W : World) : DumpsIn W none [] := ⟨⟨fun _ => rfl, fun a ha => (by cases ha), by simp⟩, fun d hd => (by cases hd)⟩
theorem PV_size (d : Dump) : (PV d).size = 1 := rfl
theorem Clean_noEntry : Clean noEntry := ⟨⟨by decide, by decide⟩, by decide⟩
theorem look_none (n : Int) : (lookM n []).list = [] := rfl
theorem look_zero (A : Option Addr) (c : Nat) : (lookM 3 [⟨A, c, [noEntry]⟩]).list = [⟨1, 0, noItem⟩] := by
  have h : (marks 3 (fun _ => none) [noEntry]) = [(false, noEntry)] := by
    have : goodI noEntry.item 3 = false := by decide
    unfold marks
    rw [this]
    rfl
  rw [lookM_told]
  unfold toldM flatM
  dsimp only
  rw [h]
  rfl
theorem list_shape {s : Rep} {v : Value} {w W : World} {F : Nat → Prop} {R : List Res} (T : Sts w F W (listR s v :: R)) : ∃ A c, v = .slice A s.list.length c := by
  rcases T.vec.2 with ⟨rfl, h0⟩ | ⟨g', cap, cur, rfl, hg', _⟩
  · exact ⟨none, 0, by rw [h0]⟩
  · exact ⟨_, cap, rfl⟩
set_option maxHeartbeats 4000000 in
theorem alive_any : Ans Try.prog 6 #[] (.bool true) := by
  intro W
  have T := ((Sts.start0 W).new (AV noEntry) 40).new #[.slice (some ⟨W.heap.size, 0, none⟩) 1 1] 26
  simp only [World.size_alloc] at T
  have hx : DumpsIn ((W.alloc (.cells (AV noEntry) 40)).alloc (.cells #[.slice (some ⟨W.heap.size, 0, none⟩) 1 1] 26)) (some ⟨W.heap.size + 1, 0, none⟩) [⟨some ⟨W.heap.size, 0, none⟩, 1, [noEntry]⟩] := by
    refine ⟨rows_of_row PV_size (by rw [flat1]; exact T.row) (by simp), fun d hd => ?_⟩
    rw [List.mem_singleton.1 hd]
    exact rows_of_row TEntry_size (by rw [flat1]; exact T.row1) (by simp)
  have C1 := Lib.hid (look_at 3 (some ⟨W.heap.size + 1, 0, none⟩) 1 _ hx (fun d hd => by rw [List.mem_singleton.1 hd]; exact ⟨fun e he => by rw [List.mem_singleton.1 he]; exact Clean_noEntry, by simp⟩) (by simp) T)
  clear hx T
  go_enter Try.func6, Try.ntmps6
  go_wp2_with fail
  refine C1.out.mono ?_
  clear C1; rintro e w1 ⟨v, rfl, T⟩
  obtain ⟨A1, c1, rfl⟩ := list_shape T
  have C2 := Lib.hid (look_at 3 none 0 [] (dumps_none w1) (fun d hd => by cases hd) (by simp) T)
  clear T
  go_wp2_with fail
  refine C2.out.mono ?_
  clear C2; rintro e w2 ⟨v2, rfl, T⟩
  obtain ⟨A2, c2, rfl⟩ := list_shape T
  have T := T.drop
  obtain ⟨g, c', hv, hg, hcell⟩ := vec_cell TFinding_size T (by omega) (j := 0) (by rw [look_zero]; simp)
  obtain ⟨rfl, -, rfl⟩ := Value.slice.inj hv
  clear hv
  simp only [look_zero, look_none] at *
  have hc : w2.cell? ⟨g, 0, none⟩ = some (.int .i64 1) := hcell 0 _ rfl
  clear hcell
  go_wp2
  go_ret
  exact ⟨rfl, T.below⟩
end Go.Proofs.Ytahajjfbkdocaaa
/- Layer 24: dumps told twice. -/
namespace Go.Proofs.Ytahajjfbkdocaaa
open Go.RowKit
set_option linter.unusedVariables false
attribute [local go_sem] row_alloc row_drew row_drewN row_ext row_setCell row_setRow size_ext setRow_alloc setRow_drew loadOf storeOf piece_lit loadVal_at storeVal_at allOne_lit buildOf buildRes_some
attribute [local go_sem high] cell_alloc frozen_alloc setCell_alloc cell_ext frozen_ext cell_setRow frozen_setRow
attribute [local go_sem ↓] TDeed_ld0 TDeed_st0 TDeed_fd0 TDeed_bd0
attribute [local go_sem] TDeed_size TDeed_one TDeed_piece TDeed_c0 TDeed_c1 TDeed_c2 TDeed_c3 TDeed_c4 TDeed_c5 TDeed_set_kind TDeed_set_key TDeed_set_val TDeed_set_ver TDeed_set_ses TDeed_set_num TDeed_ld TDeed_st TDeed_f_kind TDeed_f_key TDeed_f_val TDeed_f_ver TDeed_f_ses TDeed_f_num TDeed_bd TDeed_fl TDeed_fl_kind TDeed_fl_key TDeed_fl_val TDeed_fl_ver TDeed_fl_ses TDeed_fl_num
attribute [local go_sem high] TDeed_eql TDeed_neq
attribute [local go_sem ↓] index_deps0 load_deps0 store_deps0
attribute [local go_sem] DV_piece DV_size DV_one index_deps load_deps store_deps
attribute [local go_sem high] TDeps_eql TDeps_neq
attribute [local go_sem ↓] TCall_ld0 TCall_st0 TCall_fd0 TCall_bd0
attribute [local go_sem] TCall_size TCall_one TCall_piece TCall_c0 TCall_c1 TCall_c2 TCall_c3 TCall_c4 TCall_c5 TCall_c6 TCall_c7 TCall_c8 TCall_c9 TCall_c10 TCall_c11 TCall_c12 TCall_c13 TCall_p_deed TCall_put_deed TCall_p_deps TCall_put_deps TCall_set_seq TCall_ld TCall_st TCall_f_deed TCall_f_deps TCall_f_seq TCall_bd TCall_fl TCall_fl_deed TCall_fl_deps TCall_fl_seq
attribute [local go_sem high] TCall_eql TCall_neq
attribute [local go_sem ↓] TItem_ld0 TItem_st0 TItem_fd0 TItem_bd0
attribute [local go_sem] TItem_size TItem_one TItem_piece TItem_c0 TItem_c1 TItem_set_rep TItem_set_num TItem_ld TItem_st TItem_f_rep TItem_f_num TItem_bd TItem_fl TItem_fl_rep TItem_fl_num
attribute [local go_sem high] TItem_eql TItem_neq
attribute [local go_sem ↓] TBallot_ld0 TBallot_st0 TBallot_fd0 TBallot_bd0
attribute [local go_sem] TBallot_size TBallot_one TBallot_piece TBallot_c0 TBallot_c1 TBallot_set_round TBallot_set_rep TBallot_ld TBallot_st TBallot_f_round TBallot_f_rep TBallot_bd TBallot_fl TBallot_fl_round TBallot_fl_rep
attribute [local go_sem high] TBallot_eql TBallot_neq
attribute [local go_sem ↓] TInst_ld0 TInst_st0 TInst_fd0 TInst_bd0
attribute [local go_sem] TInst_size TInst_one TInst_piece TInst_c0 TInst_c1 TInst_c2 TInst_c3 TInst_c4 TInst_c5 TInst_c6 TInst_c7 TInst_c8 TInst_c9 TInst_c10 TInst_c11 TInst_c12 TInst_c13 TInst_c14 TInst_c15 TInst_c16 TInst_c17 TInst_c18 TInst_c19 TInst_p_prom TInst_put_prom TInst_p_vote TInst_put_vote TInst_set_status TInst_p_call TInst_put_call TInst_set_same TInst_ld TInst_st TInst_f_prom TInst_f_vote TInst_f_status TInst_f_call TInst_f_same TInst_bd TInst_fl TInst_fl_prom TInst_fl_vote TInst_fl_status TInst_fl_call TInst_fl_same
attribute [local go_sem high] TInst_eql TInst_neq
attribute [local go_sem ↓] TEntry_ld0 TEntry_st0 TEntry_fd0 TEntry_bd0
attribute [local go_sem] TEntry_size TEntry_one TEntry_piece TEntry_c0 TEntry_c1 TEntry_c2 TEntry_c3 TEntry_c4 TEntry_c5 TEntry_c6 TEntry_c7 TEntry_c8 TEntry_c9 TEntry_c10 TEntry_c11 TEntry_c12 TEntry_c13 TEntry_c14 TEntry_c15 TEntry_c16 TEntry_c17 TEntry_c18 TEntry_c19 TEntry_c20 TEntry_c21 TEntry_p_item TEntry_put_item TEntry_p_inst TEntry_put_inst TEntry_ld TEntry_st TEntry_f_item TEntry_f_inst TEntry_bd TEntry_fl TEntry_fl_item TEntry_fl_inst
attribute [local go_sem high] TEntry_eql TEntry_neq
attribute [local go_sem ↓] TFinding_ld0 TFinding_st0 TFinding_fd0 TFinding_bd0
attribute [local go_sem] TFinding_size TFinding_one TFinding_piece TFinding_c0 TFinding_c1 TFinding_c2 TFinding_c3 TFinding_set_kind TFinding_set_rep TFinding_p_item TFinding_put_item TFinding_ld TFinding_st TFinding_f_kind TFinding_f_rep TFinding_f_item TFinding_bd TFinding_fl TFinding_fl_kind TFinding_fl_rep TFinding_fl_item
attribute [local go_sem high] TFinding_eql TFinding_neq
theorem small_of {ds : List Dump} (h : greatB ds = false) : (∀ d ∈ ds, d.l.length ≤ 20 ∧ ∀ e ∈ d.l, e.inst.call.deed.key.size ≤ 1000) ∧ ds.length ≤ 7 := by
  unfold greatB at h
  rw [Bool.or_eq_false_iff] at h
  obtain ⟨h1, h2⟩ := h
  rw [decide_eq_false_iff_not] at h2
  refine ⟨fun d hd => ?_, by omega⟩
  have h3 : overD d = false := by
    cases hq : overD d
    · rfl
    · rw [List.any_eq_true.2 ⟨d, hd, hq⟩] at h1; cases h1
  unfold overD at h3
  rw [Bool.or_eq_false_iff] at h3
  obtain ⟨h3, h4⟩ := h3
  rw [decide_eq_false_iff_not] at h4
  refine ⟨by omega, fun e he => ?_⟩
  have h5 : overE e = false := by
    cases hq : overE e
    · rfl
    · rw [List.any_eq_true.2 ⟨e, he, hq⟩] at h3; cases h3
  unfold overE at h5
  rw [decide_eq_false_iff_not] at h5
  omega
theorem dumps_info : (Try.prog.info? 26).map (fun i => (i.zero, i.size, i.bytes)) = some (some (.slice none 0 0), 1, 24) := by kernel_rfl
theorem dumps_i : ∃ i, Try.prog.info? 26 = some i ∧ i.zero = some (.slice none 0 0) ∧ i.size = 1 ∧ i.bytes = 24 := by
  have h := dumps_info
  cases hi : Try.prog.info? 26 with
  | none => rw [hi] at h; simp at h
  | some i => rw [hi] at h; simp at h; exact ⟨i, rfl, h.1, h.2.1, h.2.2⟩
theorem DumpsIn.news {w : World} {a : Addr} {ds : List Dump} (hx : DumpsIn w (some a) ds) : ∀ j u, (vl PV ds)[j]? = some u → w.cell? (a.add j) = some u := by
  intro j u hu
  unfold vl at hu
  rw [Array.getElem?_toList] at hu
  have hj : j < ds.length := by
    have := (Array.getElem?_eq_some_iff.1 hu).1
    rw [flatV_size PV_size] at this
    omega
  have h2 := flatV_get PV_size ds j hj 0 (by omega)
  rw [Nat.mul_one, Nat.add_zero, hu] at h2
  rw [hx.load (Below.refl _ _) hj]
  exact h2.symm
theorem dumps_one (ds : List Dump) : ∀ u ∈ vl PV ds, u.oneCell' = true := by
  intro u hu
  unfold vl at hu
  rw [Array.mem_toList_iff] at hu
  obtain ⟨j, hj, rfl⟩ := Array.mem_iff_getElem.1 hu
  have hj2 : j < ds.length := by rw [flatV_size PV_size] at hj; omega
  have h2 := flatV_get PV_size ds j hj2 0 (by omega)
  rw [Nat.mul_one, Nat.add_zero, Array.getElem?_eq_getElem hj] at h2
  injection h2 with h2
  rw [h2]
  rfl
theorem dumps_len (ds : List Dump) : (vl PV ds).length = ds.length * 1 := by
  unfold vl
  rw [Array.length_toList, flatV_size PV_size]
set_option maxHeartbeats 4000000 in
theorem law_again (n : Int) (A : Option Addr) (c : Nat) (ds : List Dump) (W : World) (hn : Fits n) (hx : DumpsIn W A ds) (hf : TextsFit ds) (hi : ∀ d ∈ ds, ∀ e ∈ d.l, InI e.item) :
    Calls Try.prog 5 #[.int .i64 n, .slice A ds.length c] W fun e W' => e = .returned (.bool true) ∧ Below W.heap.size W W' := by
  have T := Sts.start0 W
  obtain ⟨hn1, hn2⟩ := hn
  go_enter Try.func5, Try.ntmps5
  go_wp2_with fail
  refine (Ans.at alive_any T).mono ?_; clear T; rintro e w1 ⟨rfl, T⟩
  go_wp2_with fail
  refine (great_any A c ds W w1 [] hx hf T).mono ?_; clear T; rintro e w2 ⟨rfl, T⟩
  cases hg : greatB ds
  case true =>
    go_wp2
    go_ret
    exact ⟨rfl, T.below⟩
  case false =>
    obtain ⟨hs, h7⟩ := small_of hg
    by_cases hn7 : 7 < n
    · go_wp2
      go_ret
      exact ⟨rfl, T.below⟩
    · have hok : ∀ d ∈ ds, (∀ e ∈ d.l, Clean e) ∧ d.l.length ≤ 20 := fun d hd => ⟨fun e he => ⟨hi d hd e he, (hs d hd).2 e he⟩, (hs d hd).1⟩
      have C1 := Lib.hid (look_at n A c ds (hx.later T.below) hok (by omega) T)
      clear hf hi hs hg
      go_wp2_with fail
      refine C1.out.mono ?_
      clear C1; rintro e w3 ⟨v1, rfl, T⟩
      obtain ⟨A1, c1, rfl⟩ := list_shape T
      have hag := look_again n ds
      obtain ⟨i0, hi, hz0, hz1, hz2⟩ := dumps_i
      have T0 := T.vecNew #[] 26 1 0 rfl (by unfold maxLen; omega)
      cases A with
      | none =>
        have hds := hx.rows.nil rfl
        subst hds
        dsimp only [List.length_nil]
        have hx3 : DumpsIn (w3.alloc (.cells #[] 26)) (some ⟨w3.heap.size, 0, none⟩) [] := ⟨⟨fun _ => rfl, fun a ha j hj => by simp at hj, by simp⟩, fun d hd => by cases hd⟩
        have C2 := Lib.hid (look_at n (some ⟨w3.heap.size, 0, none⟩) 0 [] hx3 (fun d hd => by cases hd) (by simp) T0)
        clear T T0 hx3 hx hok hi
        go_wp2_with fail
        refine C2.out.mono ?_
        clear C2; rintro e w6 ⟨v2, rfl, T⟩
        obtain ⟨A4, c4, rfl⟩ := list_shape T
        rw [List.append_nil] at *
        generalize (lookM n []).list.length = m1 at *
        clear hag
        go_wp2
        go_ret
        exact ⟨rfl, T.below⟩
      | some a =>
        go_wp2_with (at_builtin; refine wpList_append_vec rfl _ _ 22 rfl 26 i0 _ 1 24 Try.underlying22 hi hz0 hz1 hz2 rfl (by omega) _ 0 [] rfl T0 a ds.length c (vl PV ds) rfl (dumps_len ds) (hx.later T0.below).news (dumps_one ds) ?c3 ?c4 ?_)
        case c3 => unfold maxLen; omega
        case c4 => omega
        intro v' w4 T1
        go_wp2_with (at_builtin; refine wpList_append_vec rfl _ _ 22 rfl 26 i0 _ 1 24 Try.underlying22 hi hz0 hz1 hz2 rfl (by omega) _ _ _ rfl T1 a ds.length c (vl PV ds) rfl (dumps_len ds) (hx.later T1.below).news (dumps_one ds) ?c3 ?c4 ?_)
        case c3 => unfold maxLen; omega
        case c4 => omega
        intro v'' w5 T2
        have e1 : ds.length + ds.length = (ds ++ ds).length := by rw [List.length_append]
        have e2 : vl PV ds ++ vl PV ds = vl PV (ds ++ ds) := by unfold vl; rw [flatV_append, Array.toList_append]
        rw [e1, e2] at T2
        obtain ⟨es, hes⟩ : ∃ es, es = ds ++ ds := ⟨_, rfl⟩
        have hmem : ∀ d ∈ es, d ∈ ds := fun d hd => (List.mem_append.1 (hes ▸ hd)).elim id id
        have hel : es.length ≤ 14 := by rw [hes, ← e1]; omega
        rw [← hes] at T2 hag
        obtain ⟨A3, c3, rfl, hr3, -, -⟩ := vec_rows PV_size T2 (by omega) (by omega)
        have hx3 : DumpsIn w5 A3 es := ⟨hr3, fun d hd => (hx.later T2.below).each d (hmem d hd)⟩
        have C2 := Lib.hid (look_at n A3 c3 es hx3 (fun d hd => hok d (hmem d hd)) hel T2)
        have hag := Lib.hid hag
        clear hmem hes
        clear T T0 T1 T2 hr3 hx3 hx hok hi e1 e2
        go_wp2_with fail
        with_reducible refine C2.out.mono ?_
        clear C2; rintro e w6 ⟨v2, rfl, T⟩
        obtain ⟨A4, c4, rfl⟩ := list_shape T
        have hag := hag.out
        generalize (lookM n ds).list.length = m1 at *
        generalize (lookM n es).list.length = m2 at *
        obtain ⟨hag1, hag2⟩ := hag
        by_cases h0 : m1 = 0
        · have h1 := hag1.1 h0
          clear hag1 hag2
          subst h0; subst h1
          go_wp2
          go_ret
          exact ⟨rfl, T.below⟩
        · have h1 : ¬ m2 = 0 := fun h => h0 (hag1.2 h)
          have g1 : ((m1 : Int) == 0) = false := by rw [beq_eq_false_iff_ne]; omega
          have g2 : ((m2 : Int) == 0) = false := by rw [beq_eq_false_iff_ne]; omega
          clear hag1
          go_wp2
          go_ret
          exact ⟨rfl, T.below⟩
end Go.Proofs.Ytahajjfbkdocaaa
