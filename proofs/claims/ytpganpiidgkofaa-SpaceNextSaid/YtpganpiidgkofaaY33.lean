/- Several texts in one. -/
import Derived.Test.YtpganpiidgkofaaY32
import Derived.Test.YtpganpiidgkofaaY6
import Derived.Test.YtpganpiidgkofaaY27
import Derived.Maps.OwnIn
import Derived.OwnWalkIn
import Derived.Test.YtpganpiidgkofaaY24
/- Layer 24, the laws: what the document tells. -/
namespace Go.Proofs.Ytpganpiidgkofaa
open Go.RowKit
set_option linter.unusedVariables false
attribute [local go_sem] row_alloc row_drew row_drewN row_ext row_setCell row_setRow size_ext setRow_alloc setRow_drew loadOf storeOf piece_lit loadVal_at storeVal_at allOne_lit buildOf buildRes_some
attribute [local go_sem high] cell_alloc frozen_alloc setCell_alloc cell_ext frozen_ext cell_setRow frozen_setRow
attribute [local go_sem ↓] TDeed_ld0 TDeed_st0 TDeed_fd0 TDeed_bd0
attribute [local go_sem] TDeed_size TDeed_one TDeed_piece TDeed_c0 TDeed_c1 TDeed_c2 TDeed_c3 TDeed_c4 TDeed_c5 TDeed_set_kind TDeed_set_key TDeed_set_val TDeed_set_ver TDeed_set_ses TDeed_set_num TDeed_ld TDeed_st TDeed_f_kind TDeed_f_key TDeed_f_val TDeed_f_ver TDeed_f_ses TDeed_f_num TDeed_bd TDeed_fl TDeed_fl_kind TDeed_fl_key TDeed_fl_val TDeed_fl_ver TDeed_fl_ses TDeed_fl_num
attribute [local go_sem high] TDeed_eql TDeed_neq
attribute [local go_sem ↓] index_deps0 load_deps0 store_deps0
attribute [local go_sem] DV_piece DV_size DV_one index_deps load_deps store_deps
attribute [local go_sem high] TDeps_eql TDeps_neq
attribute [local go_sem ↓] TCall_ld0 TCall_st0 TCall_fd0 TCall_bd0
attribute [local go_sem] TCall_size TCall_one TCall_piece TCall_c0 TCall_c1 TCall_c2 TCall_c3 TCall_c4 TCall_c5 TCall_c6 TCall_c7 TCall_c8 TCall_c9 TCall_c10 TCall_c11 TCall_c12 TCall_c13 TCall_p_deed TCall_put_deed TCall_p_deps TCall_put_deps TCall_set_seq TCall_ld TCall_st TCall_f_deed TCall_f_deps TCall_f_seq TCall_bd TCall_fl TCall_fl_deed TCall_fl_deps TCall_fl_seq
attribute [local go_sem high] TCall_eql TCall_neq
attribute [local go_sem ↓] TItem_ld0 TItem_st0 TItem_fd0 TItem_bd0
attribute [local go_sem] TItem_size TItem_one TItem_piece TItem_c0 TItem_c1 TItem_set_rep TItem_set_num TItem_ld TItem_st TItem_f_rep TItem_f_num TItem_bd TItem_fl TItem_fl_rep TItem_fl_num
attribute [local go_sem high] TItem_eql TItem_neq
attribute [local go_sem ↓] TBallot_ld0 TBallot_st0 TBallot_fd0 TBallot_bd0
attribute [local go_sem] TBallot_size TBallot_one TBallot_piece TBallot_c0 TBallot_c1 TBallot_set_round TBallot_set_rep TBallot_ld TBallot_st TBallot_f_round TBallot_f_rep TBallot_bd TBallot_fl TBallot_fl_round TBallot_fl_rep
attribute [local go_sem high] TBallot_eql TBallot_neq
attribute [local go_sem ↓] TInst_ld0 TInst_st0 TInst_fd0 TInst_bd0
attribute [local go_sem] TInst_size TInst_one TInst_piece TInst_c0 TInst_c1 TInst_c2 TInst_c3 TInst_c4 TInst_c5 TInst_c6 TInst_c7 TInst_c8 TInst_c9 TInst_c10 TInst_c11 TInst_c12 TInst_c13 TInst_c14 TInst_c15 TInst_c16 TInst_c17 TInst_c18 TInst_c19 TInst_p_prom TInst_put_prom TInst_p_vote TInst_put_vote TInst_set_status TInst_p_call TInst_put_call TInst_set_same TInst_ld TInst_st TInst_f_prom TInst_f_vote TInst_f_status TInst_f_call TInst_f_same TInst_bd TInst_fl TInst_fl_prom TInst_fl_vote TInst_fl_status TInst_fl_call TInst_fl_same
attribute [local go_sem high] TInst_eql TInst_neq
attribute [local go_sem ↓] TEntry_ld0 TEntry_st0 TEntry_fd0 TEntry_bd0
attribute [local go_sem] TEntry_size TEntry_one TEntry_piece TEntry_c0 TEntry_c1 TEntry_c2 TEntry_c3 TEntry_c4 TEntry_c5 TEntry_c6 TEntry_c7 TEntry_c8 TEntry_c9 TEntry_c10 TEntry_c11 TEntry_c12 TEntry_c13 TEntry_c14 TEntry_c15 TEntry_c16 TEntry_c17 TEntry_c18 TEntry_c19 TEntry_c20 TEntry_c21 TEntry_p_item TEntry_put_item TEntry_p_inst TEntry_put_inst TEntry_ld TEntry_st TEntry_f_item TEntry_f_inst TEntry_bd TEntry_fl TEntry_fl_item TEntry_fl_inst
attribute [local go_sem high] TEntry_eql TEntry_neq
attribute [local go_sem ↓] TFinding_ld0 TFinding_st0 TFinding_fd0 TFinding_bd0
attribute [local go_sem] TFinding_size TFinding_one TFinding_piece TFinding_c0 TFinding_c1 TFinding_c2 TFinding_c3 TFinding_set_kind TFinding_set_rep TFinding_p_item TFinding_put_item TFinding_ld TFinding_st TFinding_f_kind TFinding_f_rep TFinding_f_item TFinding_bd TFinding_fl TFinding_fl_kind TFinding_fl_rep TFinding_fl_item
attribute [local go_sem high] TFinding_eql TFinding_neq
theorem entry_slice0 (len : Nat) (parts : Array (Nat × Value)) : Instr.buildSlice 80 len parts = buildSem 80 len parts := rfl
theorem noEntry_lit : (AV noEntry : Array Value) = #[.int .i64 0, .int .i64 0, .int .i64 0, .int .i64 0, .int .i64 0, .int .i64 0, .int .i64 0, .int .i64 0, .string { data := #[] }, .string { data := #[] }, .int .i64 0, .int .i64 0, .int .i64 0, .int .i64 0, .int .i64 0, .int .i64 0, .int .i64 0, .int .i64 0, .int .i64 0, .int .i64 0, .int .i64 0, .bool false] := by kernel_rfl
theorem entry_slice1 (w : World) (x : Entry) : (buildSem 80 1 #[(0, .agg (AV x))]).run Try.prog w = .ok (.slice (some ⟨w.heap.size, 0, none⟩) 1 1) (w.alloc (.cells (AV x) 85)) :=
  build_slice1 Try.underlying80 (z := .agg #[.int .i64 0, .int .i64 0, .int .i64 0, .int .i64 0, .int .i64 0, .int .i64 0, .int .i64 0, .int .i64 0, .string { data := #[] }, .string { data := #[] }, .int .i64 0, .int .i64 0, .int .i64 0, .int .i64 0, .int .i64 0, .int .i64 0, .int .i64 0, .int .i64 0, .int .i64 0, .int .i64 0, .int .i64 0, .bool false]) (n := 22) (by kernel_rfl) (by omega) w (TEntry_size x) (by omega)
theorem entry_slice2 (w : World) (x y : Entry) : (buildSem 80 2 #[(0, .agg (AV x)), (1, .agg (AV y))]).run Try.prog w = .ok (.slice (some ⟨w.heap.size, 0, none⟩) 2 2) (w.alloc (.cells (AV x ++ AV y) 85)) :=
  build_slice2 Try.underlying80 (z := .agg #[.int .i64 0, .int .i64 0, .int .i64 0, .int .i64 0, .int .i64 0, .int .i64 0, .int .i64 0, .int .i64 0, .string { data := #[] }, .string { data := #[] }, .int .i64 0, .int .i64 0, .int .i64 0, .int .i64 0, .int .i64 0, .int .i64 0, .int .i64 0, .int .i64 0, .int .i64 0, .int .i64 0, .int .i64 0, .bool false]) (n := 22) (by kernel_rfl) (by omega) w (TEntry_size x) (TEntry_size y) (by omega)
attribute [local go_sem ↓] entry_slice0
attribute [local go_sem] entry_slice1 entry_slice2
/-- Rows of a block of the call's own. -/
theorem rows_of_row {α : Type} {V : α → Array Value} {size : Nat} (hV : ∀ x, (V x).size = size) {W : World} {g : Nat} {l : List α} (h : row? W g = some (flatV V l)) (hl : l.length ≤ 9223372036854775807) : RowsIn W (some ⟨g, 0, none⟩) size V l := by
  refine ⟨fun ha => (by cases ha), fun a ha j hj i u hu => ?_, hl⟩
  injection ha with ha; subst ha
  have hi : i < size := by have := (Array.getElem?_eq_some_iff.1 hu).1; rw [hV] at this; exact this
  have h2 := flatV_get hV l j hj i hi
  rw [hu] at h2
  rw [add_none, add_none, Nat.zero_add, row_cell h]
  exact h2
theorem flat1 {α : Type} (V : α → Array Value) (x : α) : flatV V [x] = V x := flatV_one V x
theorem flatV2 {α : Type} (V : α → Array Value) (x y : α) : flatV V [x, y] = V x ++ V y := by
  rw [show [x, y] = [x] ++ [y] from rfl, flatV_append, flatV_one, flatV_one]
theorem Sts.after {w W W' : World} {F : Nat → Prop} {L R : List Res} (T : Sts w F W R) (h : Sts W (fun _ => False) W' L) : Sts w F W' (L ++ R) := by
  obtain ⟨G, hG, hk⟩ := Sts.call (L := []) (R := R) T
  have e : G = fun _ => False := funext fun k => propext ⟨fun hg => hG k hg, False.elim⟩
  subst e
  exact hk h
/-- Look, of dumps that lie here. -/
theorem look_at (n : Int) (A : Option Addr) (c : Nat) (ds : List Dump) {w W : World} {F : Nat → Prop} {R : List Res} (hx : DumpsIn W A ds) (hd : ∀ d ∈ ds, (∀ e ∈ d.l, Clean e) ∧ d.l.length ≤ 20) (h14 : ds.length ≤ 14) (T : Sts w F W R) :
    Calls Try.prog 73 #[.int .i64 n, .slice A ds.length c] W fun e W' => ∃ v, e = .returned v ∧ Sts w F W' (listR (lookM n ds) v :: R) := by
  refine (lookT n A c ds W W [] hx.rows (fun d h => ⟨hx.each d h, (hd d h).1, (hd d h).2⟩) h14 (Sts.start0 W)).mono ?_
  rintro e W' ⟨v, he, h⟩
  exact ⟨v, he, T.after h⟩
theorem DumpsIn.later {w W : World} {A : Option Addr} {ds : List Dump} (h : DumpsIn w A ds) (hb : Below w.heap.size w W) : DumpsIn W A ds := ⟨h.rows.later hb, fun d hd => (h.each d hd).later hb⟩
theorem dumps_none (W : World) : DumpsIn W none [] := ⟨⟨fun _ => rfl, fun a ha => (by cases ha), by simp⟩, fun d hd => (by cases hd)⟩
theorem PV_size (d : Dump) : (PV d).size = 1 := rfl
theorem Clean_noEntry : Clean noEntry := ⟨⟨by decide, by decide⟩, by decide⟩
theorem look_none (n : Int) : (lookM n []).list = [] := rfl
theorem look_zero (A : Option Addr) (c : Nat) : (lookM 3 [⟨A, c, [noEntry]⟩]).list = [⟨1, 0, noItem⟩] := by
  have h : (marks 3 (fun _ => none) [noEntry]) = [(false, noEntry)] := by
    have : goodI noEntry.item 3 = false := by decide
    unfold marks
    rw [this]
    rfl
  rw [lookM_told]
  unfold toldM flatM
  dsimp only
  rw [h]
  rfl
theorem list_shape {s : Rep} {v : Value} {w W : World} {F : Nat → Prop} {R : List Res} (T : Sts w F W (listR s v :: R)) : ∃ A c, v = .slice A s.list.length c := by
  rcases T.vec.2 with ⟨rfl, h0⟩ | ⟨g', cap, cur, rfl, hg', _⟩
  · exact ⟨none, 0, by rw [h0]⟩
  · exact ⟨_, cap, rfl⟩
set_option maxHeartbeats 4000000 in
theorem alive_any : Ans Try.prog 37 #[] (.bool true) := by
  intro W
  have T := ((Sts.start0 W).new (AV noEntry) 85).new #[.slice (some ⟨W.heap.size, 0, none⟩) 1 1] 80
  simp only [World.size_alloc] at T
  have hx : DumpsIn ((W.alloc (.cells (AV noEntry) 85)).alloc (.cells #[.slice (some ⟨W.heap.size, 0, none⟩) 1 1] 80)) (some ⟨W.heap.size + 1, 0, none⟩) [⟨some ⟨W.heap.size, 0, none⟩, 1, [noEntry]⟩] := by
    refine ⟨rows_of_row PV_size (by rw [flat1]; exact T.row) (by simp), fun d hd => ?_⟩
    rw [List.mem_singleton.1 hd]
    exact rows_of_row TEntry_size (by rw [flat1]; exact T.row1) (by simp)
  have C1 := Lib.hid (look_at 3 (some ⟨W.heap.size + 1, 0, none⟩) 1 _ hx (fun d hd => by rw [List.mem_singleton.1 hd]; exact ⟨fun e he => by rw [List.mem_singleton.1 he]; exact Clean_noEntry, by simp⟩) (by simp) T)
  clear hx T
  go_enter Try.func37, Try.ntmps37
  go_wp2_with fail
  refine C1.out.mono ?_
  clear C1; rintro e w1 ⟨v, rfl, T⟩
  obtain ⟨A1, c1, rfl⟩ := list_shape T
  have C2 := Lib.hid (look_at 3 none 0 [] (dumps_none w1) (fun d hd => by cases hd) (by simp) T)
  clear T
  go_wp2_with fail
  refine C2.out.mono ?_
  clear C2; rintro e w2 ⟨v2, rfl, T⟩
  obtain ⟨A2, c2, rfl⟩ := list_shape T
  have T := T.drop
  obtain ⟨g, c', hv, hg, hcell⟩ := vec_cell TFinding_size T (by omega) (j := 0) (by rw [look_zero]; simp)
  obtain ⟨rfl, -, rfl⟩ := Value.slice.inj hv
  clear hv
  simp only [look_zero, look_none] at *
  have hc : w2.cell? ⟨g, 0, none⟩ = some (.int .i64 1) := hcell 0 _ rfl
  clear hcell
  go_wp2
  go_ret
  exact ⟨rfl, T.below⟩
end Go.Proofs.Ytpganpiidgkofaa
/- Layers 12, 24: all that is known, one by one, and as entries (Space.All, audit.Dump). -/
namespace Go.Proofs.Ytpganpiidgkofaa
open Go.RowKit Go.Shelf
set_option linter.unusedVariables false
set_option maxRecDepth 20000
attribute [local go_sem] Oper.semAt_some
attribute [local go_sem] row_alloc row_drew row_drewN row_ext row_setCell row_setRow size_ext setRow_alloc setRow_drew loadOf storeOf piece_lit loadVal_at storeVal_at allOne_lit buildOf buildRes_some
attribute [local go_sem high] cell_alloc frozen_alloc setCell_alloc cell_ext frozen_ext cell_setRow frozen_setRow
attribute [local go_sem ↓] TDeed_ld0 TDeed_st0 TDeed_fd0 TDeed_bd0
attribute [local go_sem] TDeed_size TDeed_one TDeed_piece TDeed_c0 TDeed_c1 TDeed_c2 TDeed_c3 TDeed_c4 TDeed_c5 TDeed_set_kind TDeed_set_key TDeed_set_val TDeed_set_ver TDeed_set_ses TDeed_set_num TDeed_ld TDeed_st TDeed_f_kind TDeed_f_key TDeed_f_val TDeed_f_ver TDeed_f_ses TDeed_f_num TDeed_bd TDeed_fl TDeed_fl_kind TDeed_fl_key TDeed_fl_val TDeed_fl_ver TDeed_fl_ses TDeed_fl_num
attribute [local go_sem high] TDeed_eql TDeed_neq
attribute [local go_sem ↓] index_deps0 load_deps0 store_deps0
attribute [local go_sem] DV_piece DV_size DV_one index_deps load_deps store_deps
attribute [local go_sem high] TDeps_eql TDeps_neq
attribute [local go_sem ↓] TCall_ld0 TCall_st0 TCall_fd0 TCall_bd0
attribute [local go_sem] TCall_size TCall_one TCall_piece TCall_c0 TCall_c1 TCall_c2 TCall_c3 TCall_c4 TCall_c5 TCall_c6 TCall_c7 TCall_c8 TCall_c9 TCall_c10 TCall_c11 TCall_c12 TCall_c13 TCall_p_deed TCall_put_deed TCall_p_deps TCall_put_deps TCall_set_seq TCall_ld TCall_st TCall_f_deed TCall_f_deps TCall_f_seq TCall_bd TCall_fl TCall_fl_deed TCall_fl_deps TCall_fl_seq
attribute [local go_sem high] TCall_eql TCall_neq
attribute [local go_sem ↓] TItem_ld0 TItem_st0 TItem_fd0 TItem_bd0
attribute [local go_sem] TItem_size TItem_one TItem_piece TItem_c0 TItem_c1 TItem_set_rep TItem_set_num TItem_ld TItem_st TItem_f_rep TItem_f_num TItem_bd TItem_fl TItem_fl_rep TItem_fl_num
attribute [local go_sem high] TItem_eql TItem_neq
attribute [local go_sem ↓] TBallot_ld0 TBallot_st0 TBallot_fd0 TBallot_bd0
attribute [local go_sem] TBallot_size TBallot_one TBallot_piece TBallot_c0 TBallot_c1 TBallot_set_round TBallot_set_rep TBallot_ld TBallot_st TBallot_f_round TBallot_f_rep TBallot_bd TBallot_fl TBallot_fl_round TBallot_fl_rep
attribute [local go_sem high] TBallot_eql TBallot_neq
attribute [local go_sem ↓] TInst_ld0 TInst_st0 TInst_fd0 TInst_bd0
attribute [local go_sem] TInst_size TInst_one TInst_piece TInst_c0 TInst_c1 TInst_c2 TInst_c3 TInst_c4 TInst_c5 TInst_c6 TInst_c7 TInst_c8 TInst_c9 TInst_c10 TInst_c11 TInst_c12 TInst_c13 TInst_c14 TInst_c15 TInst_c16 TInst_c17 TInst_c18 TInst_c19 TInst_p_prom TInst_put_prom TInst_p_vote TInst_put_vote TInst_set_status TInst_p_call TInst_put_call TInst_set_same TInst_ld TInst_st TInst_f_prom TInst_f_vote TInst_f_status TInst_f_call TInst_f_same TInst_bd TInst_fl TInst_fl_prom TInst_fl_vote TInst_fl_status TInst_fl_call TInst_fl_same
attribute [local go_sem high] TInst_eql TInst_neq
attribute [local go_sem ↓] TEntry_ld0 TEntry_st0 TEntry_fd0 TEntry_bd0
attribute [local go_sem] TEntry_size TEntry_one TEntry_piece TEntry_c0 TEntry_c1 TEntry_c2 TEntry_c3 TEntry_c4 TEntry_c5 TEntry_c6 TEntry_c7 TEntry_c8 TEntry_c9 TEntry_c10 TEntry_c11 TEntry_c12 TEntry_c13 TEntry_c14 TEntry_c15 TEntry_c16 TEntry_c17 TEntry_c18 TEntry_c19 TEntry_c20 TEntry_c21 TEntry_p_item TEntry_put_item TEntry_p_inst TEntry_put_inst TEntry_ld TEntry_st TEntry_f_item TEntry_f_inst TEntry_bd TEntry_fl TEntry_fl_item TEntry_fl_inst
attribute [local go_sem high] TEntry_eql TEntry_neq
attribute [local go_sem ↓] entry_slice0
attribute [local go_sem] entry_slice1
section
variable {P : Program} {w W : World} {F : Nat → Prop} {R : List Res} {Fe : Fence} {nF : Nat}
theorem wpListIn_append_vec {ops : Array Oper} {rest : List Oper} {o : Oper} {a : Act} {Q : Exit → Act → World → Prop} (hgd : o.guard = none) (s x : Operand) (t : TypeId)
    (ho : o.op = .call { callee := .builtin .append, args := #[s, x], argTypes := #[t, t] })
    (e : TypeId) (i : TypeInfo) (z : Value) (size bytes : Nat) (ht : P.underlying t = some (.slice e)) (hi : P.info? e = some i) (hz : i.zero = some z)
    (hsize : i.size = size) (hby : i.bytes = bytes) (hzs : z.cells.size = size) (hsz : 0 < size)
    (v : Value) (n : Nat) (xs : List Value) (hs : a.eval s = v) (T : Sts w F W (vecR e size v n xs :: R))
    (ad : Addr) (m c : Nat) (news : List Value) (hx : a.eval x = .slice (some ad) m c) (hl : news.length = m * size) (hnews : ∀ j u, news[j]? = some u → W.cell? (ad.add j) = some u) (h1 : ∀ u ∈ news, u.oneCell' = true)
    (h63 : n + m ≤ maxLen) (hbytes : (n + m) * bytes ≤ 140737488355328)
    (h : ∀ v' w', Sts w F w' (vecR e size v' (n + m) (xs ++ news) :: R) → wpListIn Fe nF P ops Q rest (a.put o.dst v') w') :
    wpListIn Fe nF P ops Q (o :: rest) a W :=
  wpListIn_append_own_at (P := P) (w := W) hgd s x t ho 0 e i z size bytes ht hi hz hsize hby hzs hsz v n xs hs T.vec ad m c news hx hl hnews h1 h63 hbytes (Nat.zero_le _)
    fun v' w' ho' hg' _ hf' => h v' w' (T.grown ho' hg' hf')
end
def noRows : RowsM := ⟨0, fun _ => []⟩
abbrev allF (c : Nat) : Value := .func (.func 116) #[] #[.pointer (some ⟨c, 0, none⟩)]
section
variable {w W : World} {F : Nat → Prop} {R : List Res} {s lg p g bk bs : Nat} {I : Idx} {D : List UInt8} {safe : Nat} {m : RowsM}
theorem ledAllNil (T : Sts w F W R) : Calls Try.prog 67 #[.pointer none] W fun e W' => ∃ c g, e = .returned (allF c) ∧ Sts w F W' (iterIR c g noRows ++ R) := by
  have HN := Lib.hid (irNewT 0 (by omega) T); clear T
  go_enter Try.func67, Try.ntmps67
  go_wp2_with fail
  refine HN.out.mono ?_
  clear HN
  rintro e w1 ⟨rfl, T⟩
  have HA := Lib.hid (irAllS T W.heap.size); clear T
  go_wp2_with fail
  refine HA.out.mono ?_
  clear HA
  rintro e w2 ⟨rfl, T⟩
  have HT := Lib.hid T; clear T
  go_wp2
  go_ret
  exact ⟨_, _, rfl, HT.out⟩
theorem spAllNil (T : Sts w F W R) : Calls Try.prog 42 #[.pointer none] W fun e W' => ∃ c g, e = .returned (allF c) ∧ Sts w F W' (iterIR c g noRows ++ R) := by
  have HN := Lib.hid (ledAllNil T); clear T
  go_enter Try.func42, Try.ntmps42
  go_wp2_with fail
  refine HN.out.mono ?_
  clear HN
  rintro e w1 ⟨c, g, rfl, T⟩
  have HT := Lib.hid T; clear T
  go_wp2
  go_ret
  exact ⟨_, _, rfl, HT.out⟩
theorem spAllT (T : Sts w F W (spL s lg p g bk bs I D safe m ++ R)) : Calls Try.prog 42 #[.pointer (some ⟨s, 0, none⟩)] W fun e W' => ∃ c, e = .returned (allF c) ∧ Sts w F W' (iterIR c g m ++ (idxR s lg bk bs I :: rowR lg (ledCells p g m.n) :: plR p D safe :: R)) := by
  have T : Sts w F W (idxR s lg bk bs I :: rowR lg (ledCells p g m.n) :: plR p D safe :: rowsIR g m :: R) := T
  obtain ⟨v, T⟩ := T.idxOpen
  have hc : W.cell? ⟨s, 0, none⟩ = some (.pointer (some ⟨lg, 0, none⟩)) := row_cell T.row 0
  have hl := row_lt T.row
  have HA := Lib.hid (ledAllT (T.ord [4, 0, 1, 2, 3, 5, 6])); clear T
  go_enter Try.func42, Try.ntmps42
  go_wp2_with fail
  refine HA.out.mono ?_
  clear HA
  rintro e w1 ⟨rfl, T⟩
  have T2 := (T.ord [2, 3, 4, 5, 0, 1, 6, 7]).idxShut
  have T3 := T2.ord [1, 4, 0, 2, 3]
  have HT := Lib.hid T3; clear T T2 T3 hc hl
  go_wp2
  go_ret
  exact ⟨_, rfl, HT.out⟩
end
def EnV (e : Ent) : Array Value := AV ⟨e.1, e.2⟩
theorem entry_i : ∃ i, Try.prog.info? 85 = some i ∧ i.zero = some (.agg (AV noEntry)) ∧ i.size = 22 ∧ i.bytes = 192 := by
  have h : (Try.prog.info? 85).map (fun i => (i.zero, i.size, i.bytes)) = some (some (.agg (AV noEntry)), 22, 192) := by kernel_rfl
  cases hi : Try.prog.info? 85 with
  | none => rw [hi] at h; simp at h
  | some i => rw [hi] at h; simp at h; exact ⟨i, rfl, h.1, h.2.1, h.2.2⟩
theorem entry_honk (x : Entry) : ∀ u ∈ (AV x).toList, u.oneCell' = true := by
  have := TEntry_one x
  simp only [allOne, Array.all_eq_true_iff_forall_mem] at this
  intro u hu
  exact this u (by simpa using hu)
/-- What is dumped so far. -/
def outR (b : Nat) (L : List Ent) : Res := exR fun u : Value => packR [rowR b #[u], vecR 85 22 u L.length (vl EnV L)]
section
variable {w W : World} {F : Nat → Prop} {R L M : List Res} {m : RowsM}
theorem Sts.front2 {a b : Res} {X : List Res} (T : Sts w F W (X ++ (a :: b :: R))) : Sts w F W (a :: b :: (X ++ R)) := by
  have hp : ((X ++ [a, b]) ++ R).Perm (([a, b] ++ X) ++ R) := List.Perm.append_right R List.perm_append_comm
  rw [List.append_assoc] at hp
  exact T.perm hp
theorem Sts.outOpen {b : Nat} {L : List Ent} (T : Sts w F W (outR b L :: R)) : ∃ u, Sts w F W (rowR b #[u] :: vecR 85 22 u L.length (vl EnV L) :: R) := by
  obtain ⟨u, T⟩ := T.open
  exact ⟨u, T.unpack⟩
theorem Sts.outShut {b : Nat} {u : Value} {L : List Ent} (T : Sts w F W (rowR b #[u] :: vecR 85 22 u L.length (vl EnV L) :: R)) : Sts w F W (outR b L :: R) := (Sts.pack (L := [_, _]) T).close u
def DumpPost (w : World) (F : Nat → Prop) (M R : List Res) (m : RowsM) (e : Ending) (W' : World) : Prop := ∃ v g, e = .returned v ∧ Sts w F W' (vecR 85 22 v (ents m).length (vl EnV (ents m)) :: rowsIR g m :: (M ++ R))
set_option maxHeartbeats 4000000 in
theorem dumpEntT (hm : RowsOk m) (sv : Value) (hall : ∀ {W : World} {R : List Res}, Sts w F W (L ++ R) → Calls Try.prog 42 #[sv] W fun e W' => ∃ c g, e = .returned (allF c) ∧ Sts w F W' (iterIR c g m ++ (M ++ R))) (T : Sts w F W (L ++ R)) :
    Calls Try.prog 38 #[sv] W (DumpPost w F M R m) := by
  refine (callsIn_wide (n := 4)).1 ?_
  refine callsIn_of_wp_marks Try.func38 rfl trivial ?_ rfl
  simp only [Try.ntmps38, List.size_toArray, List.length_cons, List.length_nil, Nat.reduceAdd, Nat.reduceSub, Array.replicate_succ, Array.replicate_zero, List.push_toArray, List.append_toArray, List.nil_append, List.cons_append]
  refine wpIn_wide.2 ?_
  have T1 := (T.vecNil 85 22).new #[.slice none 0 0] 80
  have T2 : Sts w F (W.alloc (.cells #[.slice none 0 0] 80)) (L ++ (rowR W.heap.size #[.slice none 0 0] :: vecR 85 22 (.slice none 0 0) 0 [] :: R)) := by
    have hp : (([rowR W.heap.size #[.slice none 0 0], vecR 85 22 (.slice none 0 0) 0 []] ++ L) ++ R).Perm ((L ++ [rowR W.heap.size #[.slice none 0 0], vecR 85 22 (.slice none 0 0) 0 []]) ++ R) := List.Perm.append_right R List.perm_append_comm
    rw [List.append_assoc L] at hp
    exact T1.perm hp
  have HA := Lib.hid (hall T2)
  clear T T1 T2
  go_wp2_with fail
  refine HA.out.mono ?_
  clear HA
  rintro e w1 ⟨c, g, rfl, T⟩
  have HT := Lib.hid T; clear T
  go_wp2_with fail
  have lc := row_lt HT.out.row
  generalize hb : W.heap.size = b at *
  clear hb
  have T0 : Sts w F w1 ([outR b ((ents m).take 0)] ++ (iterIR c g m ++ (M ++ R))) := by
    have T1 := HT.out
    rw [← List.append_assoc] at T1
    have T2 := Sts.front2 T1
    rw [List.append_assoc] at T2
    exact (Sts.pack (L := [_, _]) T2).close (.slice none 0 0)
  clear HT lc
  refine (wpIn_wide (n := 4)).1 ?_
  refine wp_rangeSts (gf := 116) (lb := #[.pointer (some ⟨c, 0, none⟩)]) (enc := fun x : Item × Inst => #[.agg (IV x.1), .agg (NV x.2)]) (xs := ents m)
    (fun k => [outR b ((ents m).take k)]) (fun _ _ => [noR]) (iterIR c g m ++ (M ++ R))
    (fun k x a' own' => ∃ b1 b2, own' = [rowR b2 (NV x.2), rowR b1 (IV x.1), outR b ((ents m).take k)] ∧ a' = { tmps := #[sv, undef, .slice none 0 0, .pointer (some ⟨b, 0, none⟩), .pointer (some ⟨b1, 0, none⟩), .pointer (some ⟨b2, 0, none⟩), sv, allF c, .agg (IV x.1), .agg (NV x.2), undef, undef, undef, undef, undef, undef, undef], defers := [] })
    rfl (enters_of Try.func116 (by kernel_rfl) rfl) (fun _ => rfl) (Gives.part fun H hS => irAllG c g m hm _ H hS) T0 ?calm ?calmX ?assign ?body ?done ?stop
  case calm => exact fun k => calmL_cons (exR_calm fun u => packR_calm (calmL_cons (rowR_calm _ _ _) (calmL_cons (vecR_calm _ _ _ _ _ _) (calmL_nil _)))) (calmL_nil _)
  case calmX => exact fun _ _ => calmL_cons (noR_calm _) (calmL_nil _)
  case assign =>
    intro lr k x W1 G1 K hx T1 hK
    have T2 := ((T1.new (IV x.1) 42).new (NV x.2) 39)
    rw [World.size_alloc] at T2
    have HT2 := Lib.hid T2
    clear T0 T1 T2
    gi_wp2
    exact hK _ _ _ ⟨_, _, rfl, rfl⟩ HT2.out
  case body =>
    rintro lr k x _ _ W1 G1 hx ⟨b1, b2, rfl, rfl⟩ T1 hread
    clear T0 hread
    have T3 := T1.ord [2, 0, 1]
    obtain ⟨u, T2⟩ := T3.outOpen
    clear T1 T3
    have r1 := T2.row2; have r2 := T2.row3; have l1 := row_lt r1; have l2 := row_lt r2
    have r0 := T2.row; have l0 := row_lt r0; have c0 : W1.cell? ⟨b, 0, none⟩ = some u := row_cell r0 0; have f0 := row_frozen r0 0
    obtain ⟨i0, hi, hz0, hz1, hz2⟩ := entry_i
    have hlen := ents_len hm
    have hlk : ((ents m).take k).length ≤ (ents m).length := List.length_take_le' _ _
    have TA := T2.new (AV ⟨x.1, x.2⟩) 85
    have hnw := Lib.hid (news_row TA.row)
    have TA := Lib.hid (TA.ord [2, 0, 1, 3, 4])
    have h63 : ((ents m).take k).length + 1 ≤ maxLen := by unfold maxLen; omega
    have hby : (((ents m).take k).length + 1) * 192 ≤ 140737488355328 := by omega
    have HOK := Lib.hid (entry_honk ⟨x.1, x.2⟩)
    have HX := Lib.hid hx
    have hnx : (ents m).take (k + 1) = (ents m).take k ++ [x] := by rw [List.take_add_one, hx]; rfl
    have HNX := Lib.hid hnx
    clear T2 hlen hlk hx hnx
    generalize (ents m).take k = LT at *
    gi_wp2_with (gi_at_builtin; refine wpListIn_append_vec rfl _ _ 80 rfl 85 i0 (.agg (AV noEntry)) 22 192 Try.underlying80 hi hz0 hz1 hz2 rfl (by decide) _ _ _ rfl TA.out ⟨W1.heap.size, 0, none⟩ 1 1 (AV ⟨x.1, x.2⟩).toList rfl rfl hnw.out HOK.out ?c3 ?c4 ?_)
    case c3 => exact h63
    case c4 => exact hby
    intro v9 w9 T9
    obtain ⟨A9, c9, rfl⟩ := vec_shape2 T9
    clear TA hnw r0 r1 r2 l0 l1 l2 c0 f0 h63 hby
    have r0 := T9.row2; have l0 := row_lt r0; have c0 : w9.cell? ⟨b, 0, none⟩ = some u := row_cell r0 0; have f0 := row_frozen r0 0
    have T10 := (T9.ord [2, 0, 1, 3, 4]).setCell 0 (.slice A9 (LT.length + 1) c9)
    have HT := Lib.hid T10; clear T9 T10
    gi_wp2
    show Sts W1 G1 _ [outR b ((ents m).take (k + 1))]
    rw [HNX.out]
    have T11 := HT.out.ord [2, 3, 4, 0, 1]
    refine Sts.outShut (u := .slice A9 (LT.length + 1) c9) ?_
    rw [List.length_append, show vl EnV (LT ++ [x]) = vl EnV LT ++ (AV ⟨x.1, x.2⟩).toList from vl_snoc EnV LT x]
    exact T11.drop.drop.drop
  case done =>
    intro D2 W1 T1
    clear T0
    rw [List.take_length] at T1
    have T1 : Sts w F W1 (objR D2 (.deferred (some [])) :: outR b (ents m) :: rowR c #[.pointer (some ⟨g, 0, none⟩)] :: rowsIR g m :: (M ++ R)) := T1
    obtain ⟨u, T2⟩ := (T1.swap).outOpen
    have rb := T2.row
    have lb := row_lt rb
    have cb : W1.cell? ⟨b, 0, none⟩ = some u := row_cell rb 0
    have T3 := T2.ord [2, 0, 1, 3, 4]
    have hD := T3.obj
    have T4 := (T3.putObj (.deferred none)).drop
    have T5 := T4.ord [0, 2, 1, 3]
    have HT := Lib.hid T5.drop.drop; have HD := Lib.hid hD; clear T1 T2 T3 T4 T5 hD
    go_wp2
    exact retM1 HD.out (results_tmp rfl _ _ _) ⟨u, g, rfl, HT.out⟩ rfl
  case stop =>
    intro D2 c1 k W1 _ _ T1
    exact (Sts.no T1.drop).elim
end
end Go.Proofs.Ytpganpiidgkofaa
/- Layer 9, plain: what is read of a record is what was written, or it is none. No walk stands here. -/
namespace Go.Proofs.Ytpganpiidgkofaa
open Go.RowKit
set_option linter.unusedVariables false
/-- So much was read, or the source ran dry. -/
def OrDry {β : Type} (p : β × Src) (v : β) (r : List UInt8) : Prop := p = (v, ⟨r, false⟩) ∨ p.2.dry = true
theorem natOr {a : Int} (h0 : 0 ≤ a) (h1 : a < 9223372036854775808) (r : List UInt8) (most : Nat) : OrDry (natS ⟨enc a.toNat ++ r, false⟩ most) a.toNat r := by
  unfold OrDry
  rw [natS_enc (by rw [p128]; omega)]
  split
  · exact .inl rfl
  · exact .inr rfl
theorem natDry {s : Src} (h : s.dry = true) (most : Nat) : (natS s most).2.dry = true := by rw [natS_stay h]; rfl
theorem textOr {t : ByteArray} (ht : t.size < 9223372036854775808) (r : List UInt8) (most : Nat) : OrDry (textS ⟨txt t ++ r, false⟩ most) t.data.toList r := by
  unfold OrDry
  have e : txt t ++ r = enc t.data.toList.length ++ t.data.toList ++ r := by unfold txt; rw [Array.length_toList]; rfl
  rw [e, textS_enc (by rw [p128, Array.length_toList]; exact ht)]
  split
  · exact .inl rfl
  · exact .inr rfl
theorem textDry {s : Src} (h : s.dry = true) (most : Nat) : (textS s most).2.dry = true := by
  unfold textS rawS
  rw [natS_stay h]
  simp [dryS]
def P64 (a : Int) : Prop := 0 ≤ a ∧ a < 9223372036854775808
theorem itemOr {x : Item} (h1 : P64 x.rep) (h2 : P64 x.num) (r : List UInt8) : OrDry (getI ⟨encs [x.rep, x.num] ++ r, false⟩) x r := by
  have e : encs [x.rep, x.num] ++ r = enc x.rep.toNat ++ (enc x.num.toNat ++ r) := by simp [encs]
  unfold OrDry getI
  rw [e]
  rcases natOr h1.1 h1.2 (enc x.num.toNat ++ r) 6 with h | h
  · rw [h]
    simp only
    rcases natOr h2.1 h2.2 r 64 with k | k
    · left
      rw [k]
      simp only
      rw [show ((x.rep.toNat : Nat) : Int) = x.rep by have := h1.1; omega, show ((x.num.toNat : Nat) : Int) = x.num by have := h2.1; omega]
    · exact .inr k
  · exact .inr (natDry h _)
theorem balOr {x : Ballot} (h1 : P64 x.round) (h2 : P64 x.rep) (r : List UInt8) : OrDry (getBal ⟨encs [x.round, x.rep] ++ r, false⟩) x r := by
  have e : encs [x.round, x.rep] ++ r = enc x.round.toNat ++ (enc x.rep.toNat ++ r) := by simp [encs]
  unfold OrDry getBal
  rw [e]
  rcases natOr h1.1 h1.2 (enc x.rep.toNat ++ r) 1099511627776 with h | h
  · rw [h]
    simp only
    rcases natOr h2.1 h2.2 r 6 with k | k
    · left
      rw [k]
      simp only
      rw [show ((x.round.toNat : Nat) : Int) = x.round by have := h1.1; omega, show ((x.rep.toNat : Nat) : Int) = x.rep by have := h2.1; omega]
    · exact .inr k
  · exact .inr (natDry h _)
theorem itemDry {s : Src} (h : s.dry = true) : (getI s).2.dry = true := natDry (natDry h _) _
theorem balDry {s : Src} (h : s.dry = true) : (getBal s).2.dry = true := natDry (natDry h _) _
structure DeedP (d : Deed) : Prop where
  kind : P64 d.kind
  ver : P64 d.ver
  ses : P64 d.ses
  num : P64 d.num
  key : d.key.size < 9223372036854775808
  val : d.val.size < 9223372036854775808
theorem rawDeedOr {d : Deed} (h : DeedP d) (r : List UInt8) : OrDry (rawDeed ⟨deedB d ++ r, false⟩) d r := by
  have e : deedB d ++ r = enc d.kind.toNat ++ (txt d.key ++ (txt d.val ++ (enc d.ver.toNat ++ (enc d.ses.toNat ++ (enc d.num.toNat ++ r))))) := by simp [deedB, encs]
  unfold OrDry rawDeed
  rw [e]
  dsimp only
  rcases natOr h.kind.1 h.kind.2 (txt d.key ++ (txt d.val ++ (enc d.ver.toNat ++ (enc d.ses.toNat ++ (enc d.num.toNat ++ r))))) 5 with q | q
  · rw [q]
    dsimp only
    rcases textOr h.key (txt d.val ++ (enc d.ver.toNat ++ (enc d.ses.toNat ++ (enc d.num.toNat ++ r)))) 16 with q | q
    · rw [q]
      dsimp only
      rcases textOr h.val (enc d.ver.toNat ++ (enc d.ses.toNat ++ (enc d.num.toNat ++ r))) 32 with q | q
      · rw [q]
        dsimp only
        rcases natOr h.ver.1 h.ver.2 (enc d.ses.toNat ++ (enc d.num.toNat ++ r)) 1099511627776 with q | q
        · rw [q]
          dsimp only
          rcases natOr h.ses.1 h.ses.2 (enc d.num.toNat ++ r) 1099511627776 with q | q
          · rw [q]
            dsimp only
            rcases natOr h.num.1 h.num.2 r 1099511627776 with q | q
            · left
              rw [q]
              dsimp only
              have g1 := h.kind.1; have g2 := h.ver.1; have g3 := h.ses.1; have g4 := h.num.1
              rw [show ((d.kind.toNat : Nat) : Int) = d.kind by omega, show ((d.ver.toNat : Nat) : Int) = d.ver by omega, show ((d.ses.toNat : Nat) : Int) = d.ses by omega, show ((d.num.toNat : Nat) : Int) = d.num by omega]
              rfl
            · exact .inr q
          · exact .inr (natDry q _)
        · exact .inr (natDry (natDry q _) _)
      · exact .inr (natDry (natDry (natDry q _) _) _)
    · exact .inr (natDry (natDry (natDry (textDry q _) _) _) _)
  · exact .inr (natDry (natDry (natDry (textDry (textDry q _) _) _) _) _)
theorem deedOr {d : Deed} (h : DeedP d) (r : List UInt8) : OrDry (getD ⟨deedB d ++ r, false⟩) d r := by
  unfold OrDry getD
  rcases rawDeedOr h r with q | q
  · rw [q]
    by_cases hg : goodB d = false
    · right; rw [if_pos (.inr hg)]; rfl
    · left; rw [if_neg (by simp; simpa using hg)]
  · right; rw [if_pos (.inl q)]; rfl
theorem deedDry {s : Src} (h : s.dry = true) : (getD s).2.dry = true := by
  unfold getD
  rw [if_pos (.inl (natDry (natDry (natDry (textDry (textDry (natDry h _) _) _) _) _) _))]
  rfl
theorem natsDry {s : Src} (h : s.dry = true) (m : Nat) : ∀ k, (natsS k s m).2.dry = true
  | 0 => h
  | k + 1 => natDry (natsDry h m k) _
theorem natsOr (m : Nat) (ns : List Int) (rest : List UInt8) (h : ∀ n ∈ ns, P64 n) : ∀ k, k ≤ ns.length → OrDry (natsS k ⟨encs ns ++ rest, false⟩ m) ((ns.take k).map Int.toNat) (encs (ns.drop k) ++ rest)
  | 0, _ => .inl (by simp [natsS])
  | k + 1, hk => by
    have h2 := h ns[k] (List.getElem_mem (by omega))
    rcases natsOr m ns rest h k (by omega) with q | q
    · unfold OrDry
      rw [natsS, q]
      simp only
      rw [List.drop_eq_getElem_cons (i := k) (by omega), encs_cons, List.append_assoc]
      rcases natOr h2.1 h2.2 (encs (ns.drop (k + 1)) ++ rest) m with u | u
      · left
        rw [u, List.take_succ_eq_append_getElem (show k < ns.length by omega)]
        simp only [List.map_append, List.map_cons, List.map_nil]
      · exact .inr u
    · exact .inr (natDry q _)
structure CallP (c : Call) : Prop where
  deed : DeedP c.deed
  deps : ∀ i, i < 7 → P64 (c.deps i)
  seq : P64 c.seq
theorem callOr {c : Call} (h : CallP c) (r : List UInt8) : ∃ c', CV c' = CV c ∧ OrDry (getC ⟨callB c ++ r, false⟩) c' r := by
  refine ⟨⟨c.deed, ofL ((depsL c.deps).map Int.toNat), c.seq.toNat⟩, CV_eq rfl ?_ (by have := h.seq.1; simp; omega), ?_⟩
  · intro i hi
    have := (h.deps i hi).1
    match i, hi with
    | 0, _ => simp [ofL, depsL]; omega
    | 1, _ => simp [ofL, depsL]; omega
    | 2, _ => simp [ofL, depsL]; omega
    | 3, _ => simp [ofL, depsL]; omega
    | 4, _ => simp [ofL, depsL]; omega
    | 5, _ => simp [ofL, depsL]; omega
    | 6, _ => simp [ofL, depsL]; omega
  · have hn : ∀ n ∈ depsL c.deps, P64 n := by
      intro n hn
      simp only [depsL, List.mem_cons, List.not_mem_nil, or_false] at hn
      rcases hn with rfl | rfl | rfl | rfl | rfl | rfl | rfl
      all_goals exact h.deps _ (by omega)
    have e : callB c ++ r = deedB c.deed ++ (encs (depsL c.deps) ++ (enc c.seq.toNat ++ r)) := by simp [callB]
    have hraw : OrDry (rawCall ⟨callB c ++ r, false⟩) ⟨c.deed, ofL ((depsL c.deps).map Int.toNat), c.seq.toNat⟩ r := by
      unfold OrDry rawCall
      rw [e]
      dsimp only
      rcases deedOr h.deed (encs (depsL c.deps) ++ (enc c.seq.toNat ++ r)) with q | q
      · rw [q]
        dsimp only
        rcases natsOr 64 (depsL c.deps) (enc c.seq.toNat ++ r) hn 7 (Nat.le_refl 7) with u | u
        · rw [show (depsL c.deps).take 7 = depsL c.deps from rfl, show (depsL c.deps).drop 7 = [] from rfl] at u
          rw [u]
          dsimp only
          rw [show encs [] ++ (enc c.seq.toNat ++ r) = enc c.seq.toNat ++ r from rfl]
          rcases natOr h.seq.1 h.seq.2 r 1099511627776 with v | v
          · left; rw [v]
          · exact .inr v
        · exact .inr (natDry u _)
      · exact .inr (natDry (natsDry q _ _) _)
    unfold OrDry getC
    rcases hraw with q | q
    · left; rw [q, if_neg (by simp)]
    · right; rw [if_pos q]; exact q
theorem callDry {s : Src} (h : s.dry = true) : (getC s).2.dry = true := by
  unfold getC
  rw [if_pos ?_]
  all_goals exact natDry (natsDry (deedDry h) _ _) _
structure InstP (i : Inst) : Prop where
  p1 : P64 i.prom.round
  p2 : P64 i.prom.rep
  v1 : P64 i.vote.round
  v2 : P64 i.vote.rep
  status : P64 i.status
  call : CallP i.call
theorem readOr {x : Item} {i : Inst} (h1 : P64 x.rep) (h2 : P64 x.num) (h : InstP i) : ∃ i', NV i' = NV i ∧ (readS ⟨recB x i, false⟩ = (x, i', ⟨[], false⟩) ∨ (readS ⟨recB x i, false⟩).2.2.dry = true) := by
  obtain ⟨c', hc, hcv⟩ := callOr h.call []
  rw [List.append_nil] at hcv
  refine ⟨⟨i.prom, i.vote, i.status.toNat, c', i.same⟩, (TInst_ext _ _).2 ⟨rfl, rfl, by have := h.status.1; simp only; omega, hc, rfl⟩, ?_⟩
  unfold readS recB
  simp only [List.append_assoc]
  rcases itemOr h1 h2 (encs [i.prom.round, i.prom.rep] ++ (encs [i.vote.round, i.vote.rep] ++ (encs [i.status] ++ (bitB i.same ++ callB i.call)))) with q | q
  · rw [q]
    dsimp only
    rcases balOr h.p1 h.p2 (encs [i.vote.round, i.vote.rep] ++ (encs [i.status] ++ (bitB i.same ++ callB i.call))) with q | q
    · rw [q]
      dsimp only
      rcases balOr h.v1 h.v2 (encs [i.status] ++ (bitB i.same ++ callB i.call)) with q | q
      · rw [q]
        dsimp only
        rw [show encs [i.status] ++ (bitB i.same ++ callB i.call) = enc i.status.toNat ++ (bitB i.same ++ callB i.call) by simp [encs]]
        rcases natOr h.status.1 h.status.2 (bitB i.same ++ callB i.call) 3 with q | q
        · rw [q]
          dsimp only
          rw [getBit_enc]
          dsimp only
          rcases hcv with q | q
          · left
            rw [q]
            cases i.same <;> rfl
          · exact .inr q
        · exact .inr (callDry (natDry q _))
      · exact .inr (callDry (natDry (natDry q _) _))
    · exact .inr (callDry (natDry (natDry (balDry q) _) _))
  · exact .inr (callDry (natDry (natDry (balDry (balDry q)) _) _))
/-- A record of what can't be is none. -/
theorem okT_any {x : Item} {i : Inst} {n : Int} (h1 : P64 x.rep) (h2 : P64 x.num) (h : InstP i) (hn : (goodI x n && goodN i n) = false) : okT n (recB x i) = false := by
  obtain ⟨i', hi, q | q⟩ := readOr h1 h2 h
  · unfold okT
    rw [q]
    dsimp only
    rw [goodN_congr hi n]
    rw [Bool.and_assoc, hn, Bool.and_false]
  · unfold okT
    rw [q]
    rfl
theorem read_nil : (readS ⟨[], false⟩).2.2.dry = true := by
  have h : (natS ⟨[], false⟩ 6).2.dry = true := by unfold natS; rw [if_neg (by simp)]; rfl
  have hI : (getI ⟨[], false⟩).2.dry = true := natDry h 64
  unfold readS
  exact callDry (natDry (natDry (balDry (balDry hI)) 3) 1)
theorem rawS_zero (s : Src) : (rawS s ((0 : Nat) : Int)).1 = [] := by
  unfold rawS
  split
  · rfl
  · simp
theorem okT_nil (n : Int) : okT n [] = false := by
  unfold okT
  rw [read_nil]
  rfl
theorem noRec_nil (n : Int) : NoRec n [] := by
  right
  have h : (openS []).1 = [] := by
    by_cases h : (openS []).2 = 0
    · unfold openS at h ⊢
      simp only at h ⊢
      split
      · rfl
      · unfold rawS
        split
        · rfl
        · rename_i h1 h2
          have : (natS ⟨[], false⟩ 16384) = (0, dryS) := by unfold natS; rw [if_neg (by simp)]; rfl
          rw [this]; rfl
    · obtain ⟨_, r, hb, _⟩ := open_inv h
      have h2 := sealS_pos (t := (openS []).1) (open_inv h).1
      have h3 := congrArg List.length hb
      rw [List.length_append] at h3
      simp only [List.length_nil] at h3
      omega
  rw [h]
  exact okT_nil n
/-- Behind a byte 0 no record stands. -/
theorem noRec_zero (n : Int) (r : List UInt8) : NoRec n (0 :: r) := by
  right
  have h : (openS (0 :: r)).1 = [] := by
    have e : natS ⟨0 :: r, false⟩ 16384 = (0, ⟨r, false⟩) := by
      have := natS_enc (v := 0) (by rw [p128]; omega) r 16384
      rw [enc_small (by omega), if_pos (by omega)] at this
      exact this
    unfold openS
    simp only [e]
    split
    · rfl
    · exact rawS_zero _
  rw [h]
  exact okT_nil n
/-- A record of what can't be, and whatever stands behind it. -/
theorem noRec_bad {x : Item} {i : Inst} {n : Int} (h1 : P64 x.rep) (h2 : P64 x.num) (h : InstP i) (hl : (recB x i).length ≤ 16384) (hn : (goodI x n && goodN i n) = false) (r : List UInt8) : NoRec n (recOf (x, i) ++ r) := by
  right
  have e : recOf (x, i) ++ r = sealS (recB x i) ++ r := rfl
  rw [e, open_seal hl]
  exact okT_any h1 h2 h hn
end Go.Proofs.Ytpganpiidgkofaa
