/- Several texts in one. -/
import Derived.Test.YtahajjfbkdocaaaZ17
import Derived.Test.YtahajjfbkdocaaaZ2
import Derived.Test.YtahajjfbkdocaaaZ9
/- Layer 24: Look. -/
namespace Go.Proofs.Ytahajjfbkdocaaa
open Go.RowKit
set_option linter.unusedVariables false
attribute [local go_sem] row_alloc row_drew row_drewN row_ext row_setCell row_setRow size_ext setRow_alloc setRow_drew loadOf storeOf piece_lit loadVal_at storeVal_at allOne_lit buildOf buildRes_some
attribute [local go_sem high] cell_alloc frozen_alloc setCell_alloc cell_ext frozen_ext cell_setRow frozen_setRow
attribute [local go_sem ↓] TDeed_ld0 TDeed_st0 TDeed_fd0 TDeed_bd0
attribute [local go_sem] TDeed_size TDeed_one TDeed_piece TDeed_c0 TDeed_c1 TDeed_c2 TDeed_c3 TDeed_c4 TDeed_c5 TDeed_set_kind TDeed_set_key TDeed_set_val TDeed_set_ver TDeed_set_ses TDeed_set_num TDeed_ld TDeed_st TDeed_f_kind TDeed_f_key TDeed_f_val TDeed_f_ver TDeed_f_ses TDeed_f_num TDeed_bd TDeed_fl TDeed_fl_kind TDeed_fl_key TDeed_fl_val TDeed_fl_ver TDeed_fl_ses TDeed_fl_num
attribute [local go_sem high] TDeed_eql TDeed_neq
attribute [local go_sem ↓] index_deps0 load_deps0 store_deps0
attribute [local go_sem] DV_piece DV_size DV_one index_deps load_deps store_deps
attribute [local go_sem high] TDeps_eql TDeps_neq
attribute [local go_sem ↓] TCall_ld0 TCall_st0 TCall_fd0 TCall_bd0
attribute [local go_sem] TCall_size TCall_one TCall_piece TCall_c0 TCall_c1 TCall_c2 TCall_c3 TCall_c4 TCall_c5 TCall_c6 TCall_c7 TCall_c8 TCall_c9 TCall_c10 TCall_c11 TCall_c12 TCall_c13 TCall_p_deed TCall_put_deed TCall_p_deps TCall_put_deps TCall_set_seq TCall_ld TCall_st TCall_f_deed TCall_f_deps TCall_f_seq TCall_bd TCall_fl TCall_fl_deed TCall_fl_deps TCall_fl_seq
attribute [local go_sem high] TCall_eql TCall_neq
attribute [local go_sem ↓] TItem_ld0 TItem_st0 TItem_fd0 TItem_bd0
attribute [local go_sem] TItem_size TItem_one TItem_piece TItem_c0 TItem_c1 TItem_set_rep TItem_set_num TItem_ld TItem_st TItem_f_rep TItem_f_num TItem_bd TItem_fl TItem_fl_rep TItem_fl_num
attribute [local go_sem high] TItem_eql TItem_neq
attribute [local go_sem ↓] TFinding_ld0 TFinding_st0 TFinding_fd0 TFinding_bd0
attribute [local go_sem] TFinding_size TFinding_one TFinding_piece TFinding_c0 TFinding_c1 TFinding_c2 TFinding_c3 TFinding_set_kind TFinding_set_rep TFinding_p_item TFinding_put_item TFinding_ld TFinding_st TFinding_f_kind TFinding_f_rep TFinding_f_item TFinding_bd TFinding_fl TFinding_fl_kind TFinding_fl_rep TFinding_fl_item
attribute [local go_sem high] TFinding_eql TFinding_neq
attribute [local go_sem] cellsR_0 cellsR_1 cellsR_2 cellsR_3 mkMap
/-- A dump: a slice of entries that came in. -/
structure Dump where
  A : Option Addr
  c : Nat
  l : List Entry
def PV (d : Dump) : Array Value := #[.slice d.A d.l.length d.c]
def rep0 (n : Int) : Rep := ⟨n, [], [], fun _ => none, 0⟩
noncomputable def lookS (ds : List Dump) (s : Rep) (i : Nat) : Rep := match ds[i]? with | none => s | some d => dumpM s i d.l
noncomputable def lookM (n : Int) (ds : List Dump) : Rep := tiesM ((List.range ds.length).foldl (lookS ds) (rep0 n))
def Clean (e : Entry) : Prop := InI e.item ∧ e.inst.call.deed.key.size ≤ 1000
structure InvR (s : Rep) : Prop where
  order : ∀ x ∈ s.order, InI x
  key : ∀ x c, s.calls x = some c → c.deed.key.size ≤ 1000
theorem InvR.tell {s : Rep} (h : InvR s) (k rep : Int) (x : Item) : InvR (tellM s k rep x) := ⟨h.order, h.key⟩
theorem InvR.add {s : Rep} (h : InvR s) {x : Item} {c : Call} (hx : InI x) (hc : c.deed.key.size ≤ 1000) : InvR (addM s x c) := by
  refine ⟨fun y hy => ?_, fun y d hd => ?_⟩
  · rcases List.mem_append.1 (show y ∈ s.order ++ [x] from hy) with h1 | h1
    · exact h.order y h1
    · rw [List.mem_singleton.1 h1]; exact hx
  · have hd : putF s.calls x c y = some d := hd
    by_cases hyx : y = x
    · subst hyx; rw [putF_same] at hd; injection hd with hd; subst hd; exact hc
    · rw [putF_other _ _ hyx] at hd; exact h.key y d hd
theorem InvR.mark {s : Rep} (h : InvR s) (rep : Int) {e : Entry} (he : Clean e) : InvR (markM s rep e) := by
  unfold markM
  split
  · exact h.add he.1 he.2
  · split
    · exact h
    · exact h.tell _ _ _
theorem InvR.entry {s : Rep} (h : InvR s) (rep : Int) {e : Entry} (he : Clean e) : InvR (entryM s rep e) := by
  have key : ∀ s1, InvR s1 → InvR (if (e.inst.status == 3) = true then markM s1 rep e else s1) := by
    intro s1 h1
    split
    · exact h1.mark rep he
    · exact h1
  unfold entryM
  split
  · exact h.tell _ _ _
  · refine key (if lessBal e.inst.prom e.inst.vote = true then tellM s 3 rep e.item else s) ?_
    split
    · exact h.tell _ _ _
    · exact h
theorem dumpQ_inv (rep : Int) : ∀ (l : List Entry) (q : Rep × Seen), (∀ e ∈ l, Clean e) → InvR q.1 → InvR (l.foldl (dstep rep) q).1
  | [], q, _, h => h
  | e :: l, q, hl, h => by
    rw [List.foldl_cons]
    refine dumpQ_inv rep l _ (fun x hx => hl x (List.mem_cons_of_mem _ hx)) ?_
    unfold dstep
    split
    · exact h.tell _ _ _
    · exact h.entry rep (hl e (List.mem_cons_self ..))
theorem dumpQ_room (rep : Int) : ∀ (l : List Entry) (q : Rep × Seen) (m : Nat), RoomR q.1 (m + l.length) → RoomR (l.foldl (dstep rep) q).1 m
  | [], q, m, h => h
  | e :: l, q, m, h => by
    rw [List.foldl_cons]
    exact dumpQ_room rep l _ m (RoomR.step (by rw [show m + l.length + 1 = m + (l.length + 1) from rfl]; exact h) rep e)
structure Small (s : Rep) (m : Nat) : Prop where
  list : s.list.length ≤ 2 * m
  order : s.order.length ≤ m
  cnt : s.cnt ≤ m
theorem Small.tell {s : Rep} {m : Nat} (h : Small s m) (k rep : Int) (x : Item) : Small (tellM s k rep x) (m + 1) := by
  obtain ⟨a, b, c⟩ := h
  exact ⟨by show (s.list ++ _).length ≤ _; rw [List.length_append]; simp; omega, by show s.order.length ≤ _; omega, by show s.cnt ≤ _; omega⟩
theorem Small.entry {s : Rep} {m : Nat} (h : Small s m) (rep : Int) (e : Entry) : Small (entryM s rep e) (m + 1) := by
  obtain ⟨a, b, c⟩ := h
  obtain ⟨x, y, z⟩ := entryM_len s rep e
  exact ⟨by omega, by omega, by omega⟩
theorem dumpQ_small (rep : Int) : ∀ (l : List Entry) (q : Rep × Seen) (m : Nat), Small q.1 m → Small (l.foldl (dstep rep) q).1 (m + l.length)
  | [], q, m, h => h
  | e :: l, q, m, h => by
    rw [List.foldl_cons, List.length_cons, show m + (l.length + 1) = (m + 1) + l.length from by omega]
    refine dumpQ_small rep l _ (m + 1) ?_
    unfold dstep
    split
    · exact h.tell _ _ _
    · exact h.entry _ _
set_option maxHeartbeats 4000000 in
theorem lookT (n : Int) (A : Option Addr) (c : Nat) (ds : List Dump) (w W : World) (R : List Res) (hx : RowsIn w A 1 PV ds) (hd : ∀ d ∈ ds, RowsIn w d.A 22 AV d.l ∧ (∀ e ∈ d.l, Clean e) ∧ d.l.length ≤ 20) (h14 : ds.length ≤ 14)
    (T : Sts w (fun _ => False) W R) :
    Calls Try.prog 8 #[.int .i64 n, .slice A ds.length c] W fun e W' => ∃ v, e = .returned v ∧ Sts w (fun _ => False) W' (listR (lookM n ds) v :: R) := by
  have T := T.mapNew (P := Try.prog) (k := 28) (kv := fun x : Item => Value.agg (IV x)) (ev := fun c : Call => Value.agg (CV c)) (ok := InI)
  have T := ((T.vecNil 28 2).vecNil 49 4).new (cellsR (rep0 n) (.slice none 0 0) (.slice none 0 0) W.heap.size) 59
  go_enter Try.func8, Try.ntmps8
  go_wp2_with fail
  have T := Sts.repShut (s := rep0 n) (v1 := .slice none 0 0) (v2 := .slice none 0 0) (m := W.heap.size) T
  simp only [World.size_alloc] at T
  generalize W.heap.size + 1 = r at *
  go_loopw [14] (fun i wr => ∃ (k m : Nat) (s0 : Rep), k ≤ ds.length ∧ i = .int .i64 k ∧ s0 = (List.range k).foldl (lookS ds) (rep0 n) ∧ m ≤ 20 * k ∧ Small s0 m ∧ InvR s0 ∧ Sts w (fun _ => False) wr (repR r s0 :: R)) (fun i _ => ds.length - (intOf i).toNat)
  case atStart => exact ⟨0, 0, rep0 n, by omega, rfl, rfl, by omega, ⟨Nat.le_refl _, Nat.le_refl _, Nat.le_refl _⟩, ⟨fun x hx => (by cases hx), fun x c hc => (by cases hc)⟩, T⟩
  case round =>
    clear T
    obtain ⟨k, m, s0, hk0, rfl, hq, hm, hsm, hinv, T⟩ := hrel
    by_cases hkl : k < ds.length
    · cases A with
      | none => have := hx.nil rfl; subst this; simp at hkl
      | some a =>
        have hld : wr.cell? (a.add k) = some (.slice ds[k].A ds[k].l.length ds[k].c) := by
          have hc := hx.cell a rfl k hkl 0 _ rfl
          rw [Nat.mul_one] at hc
          have e0 : ∀ b : Addr, b.add 0 = b := fun b => by unfold Addr.add; simp
          rw [e0] at hc
          exact (T.below.cell (World.block_lt_of_cell? w _ hc)).trans hc
        obtain ⟨hdx, hcl, h20⟩ := hd ds[k] (List.getElem_mem hkl)
        have hox : ds[k]? = some ds[k] := List.getElem?_eq_getElem hkl
        generalize ds[k] = d at *
        have hq3 : dumpM s0 k d.l = (List.range (k + 1)).foldl (lookS ds) (rep0 n) := by
          rw [List.range_succ, List.foldl_append, ← hq]
          show _ = lookS ds s0 k
          unfold lookS
          rw [hox]
        have hroom : RoomR s0 d.l.length := ⟨by have := hsm.list; omega, by have := hsm.order; omega, by have := hsm.cnt; omega⟩
        have hinv2 : InvR (dumpM s0 k d.l) := dumpQ_inv k d.l (s0, fun _ => none) hcl hinv
        have hsm2 : Small (dumpM s0 k d.l) (m + d.l.length) := dumpQ_small k d.l (s0, fun _ => none) m hsm
        have HQ := Lib.hid hq3; clear hq3 hq hox
        have CD := Lib.hid (dumpT r s0 k d.A d.c d.l w wr R hdx (fun e he => (hcl e he).1) hroom T)
        clear T hinv hsm hdx hcl
        go_wp2_with fail
        with_reducible refine CD.out.mono ?_
        clear CD hld; rintro e w2 ⟨rfl, T⟩
        go_wp2
        go_roundw
        case rel => exact ⟨k + 1, m + d.l.length, _, by omega, by go_num, HQ.out, by omega, hsm2, hinv2, T⟩
        case measure => simp [intOf]; omega
    · obtain rfl : k = ds.length := by omega
      have hqq : lookM n ds = tiesM s0 := by unfold lookM; rw [← hq]
      have HQ := Lib.hid hqq; clear hqq hq
      have CT := Lib.hid (tiesT r s0 w wr R hinv.order hinv.key (by have := hsm.list; omega) (by have := hsm.order; omega) T)
      clear T hinv hsm
      go_wp2_with fail
      with_reducible refine CT.out.mono ?_
      clear CT; rintro e w2 ⟨rfl, T⟩
      obtain ⟨v1, v2, mm, T⟩ := T.repOpen
      have hcr := row_cell T.row; have hlr := row_lt T.row
      go_wp2
      go_ret
      exact ⟨_, rfl, by rw [HQ.out]; exact T.drop.swap.drop.swap.drop⟩
end Go.Proofs.Ytahajjfbkdocaaa
/- Layer 24, the laws: what is more than is played. -/
namespace Go.Proofs.Ytahajjfbkdocaaa
open Go.RowKit
set_option linter.unusedVariables false
attribute [local go_sem] row_alloc row_drew row_drewN row_ext row_setCell row_setRow size_ext setRow_alloc setRow_drew loadOf storeOf piece_lit loadVal_at storeVal_at allOne_lit buildOf buildRes_some
attribute [local go_sem high] cell_alloc frozen_alloc setCell_alloc cell_ext frozen_ext cell_setRow frozen_setRow
attribute [local go_sem ↓] TDeed_ld0 TDeed_st0 TDeed_fd0 TDeed_bd0
attribute [local go_sem] TDeed_size TDeed_one TDeed_piece TDeed_c0 TDeed_c1 TDeed_c2 TDeed_c3 TDeed_c4 TDeed_c5 TDeed_set_kind TDeed_set_key TDeed_set_val TDeed_set_ver TDeed_set_ses TDeed_set_num TDeed_ld TDeed_st TDeed_f_kind TDeed_f_key TDeed_f_val TDeed_f_ver TDeed_f_ses TDeed_f_num TDeed_bd TDeed_fl TDeed_fl_kind TDeed_fl_key TDeed_fl_val TDeed_fl_ver TDeed_fl_ses TDeed_fl_num
attribute [local go_sem high] TDeed_eql TDeed_neq
attribute [local go_sem ↓] index_deps0 load_deps0 store_deps0
attribute [local go_sem] DV_piece DV_size DV_one index_deps load_deps store_deps
attribute [local go_sem high] TDeps_eql TDeps_neq
attribute [local go_sem ↓] TCall_ld0 TCall_st0 TCall_fd0 TCall_bd0
attribute [local go_sem] TCall_size TCall_one TCall_piece TCall_c0 TCall_c1 TCall_c2 TCall_c3 TCall_c4 TCall_c5 TCall_c6 TCall_c7 TCall_c8 TCall_c9 TCall_c10 TCall_c11 TCall_c12 TCall_c13 TCall_p_deed TCall_put_deed TCall_p_deps TCall_put_deps TCall_set_seq TCall_ld TCall_st TCall_f_deed TCall_f_deps TCall_f_seq TCall_bd TCall_fl TCall_fl_deed TCall_fl_deps TCall_fl_seq
attribute [local go_sem high] TCall_eql TCall_neq
attribute [local go_sem ↓] TItem_ld0 TItem_st0 TItem_fd0 TItem_bd0
attribute [local go_sem] TItem_size TItem_one TItem_piece TItem_c0 TItem_c1 TItem_set_rep TItem_set_num TItem_ld TItem_st TItem_f_rep TItem_f_num TItem_bd TItem_fl TItem_fl_rep TItem_fl_num
attribute [local go_sem high] TItem_eql TItem_neq
attribute [local go_sem ↓] TBallot_ld0 TBallot_st0 TBallot_fd0 TBallot_bd0
attribute [local go_sem] TBallot_size TBallot_one TBallot_piece TBallot_c0 TBallot_c1 TBallot_set_round TBallot_set_rep TBallot_ld TBallot_st TBallot_f_round TBallot_f_rep TBallot_bd TBallot_fl TBallot_fl_round TBallot_fl_rep
attribute [local go_sem high] TBallot_eql TBallot_neq
attribute [local go_sem ↓] TInst_ld0 TInst_st0 TInst_fd0 TInst_bd0
attribute [local go_sem] TInst_size TInst_one TInst_piece TInst_c0 TInst_c1 TInst_c2 TInst_c3 TInst_c4 TInst_c5 TInst_c6 TInst_c7 TInst_c8 TInst_c9 TInst_c10 TInst_c11 TInst_c12 TInst_c13 TInst_c14 TInst_c15 TInst_c16 TInst_c17 TInst_c18 TInst_c19 TInst_p_prom TInst_put_prom TInst_p_vote TInst_put_vote TInst_set_status TInst_p_call TInst_put_call TInst_set_same TInst_ld TInst_st TInst_f_prom TInst_f_vote TInst_f_status TInst_f_call TInst_f_same TInst_bd TInst_fl TInst_fl_prom TInst_fl_vote TInst_fl_status TInst_fl_call TInst_fl_same
attribute [local go_sem high] TInst_eql TInst_neq
attribute [local go_sem ↓] TEntry_ld0 TEntry_st0 TEntry_fd0 TEntry_bd0
attribute [local go_sem] TEntry_size TEntry_one TEntry_piece TEntry_c0 TEntry_c1 TEntry_c2 TEntry_c3 TEntry_c4 TEntry_c5 TEntry_c6 TEntry_c7 TEntry_c8 TEntry_c9 TEntry_c10 TEntry_c11 TEntry_c12 TEntry_c13 TEntry_c14 TEntry_c15 TEntry_c16 TEntry_c17 TEntry_c18 TEntry_c19 TEntry_c20 TEntry_c21 TEntry_p_item TEntry_put_item TEntry_p_inst TEntry_put_inst TEntry_ld TEntry_st TEntry_f_item TEntry_f_inst TEntry_bd TEntry_fl TEntry_fl_item TEntry_fl_inst
attribute [local go_sem high] TEntry_eql TEntry_neq
noncomputable def overE (e : Entry) : Bool := decide ((100 : Int) < (e.inst.call.deed.key.size : Int) + (e.inst.call.deed.val.size : Int))
noncomputable def overD (d : Dump) : Bool := d.l.any overE || decide ((20 : Int) < (d.l.length : Int))
noncomputable def greatB (ds : List Dump) : Bool := ds.any overD || decide ((7 : Int) < (ds.length : Int))
/-- The dumps lie here. -/
structure DumpsIn (w : World) (A : Option Addr) (ds : List Dump) : Prop where
  rows : RowsIn w A 1 PV ds
  each : ∀ d ∈ ds, RowsIn w d.A 22 AV d.l
/-- Texts of such entries fit. -/
def TextsFit (ds : List Dump) : Prop := ∀ d ∈ ds, ∀ e ∈ d.l, e.inst.call.deed.key.size ≤ 140737488351232 ∧ e.inst.call.deed.val.size ≤ 140737488351232
theorem DumpsIn.load {w W : World} {a : Addr} {ds : List Dump} (hx : DumpsIn w (some a) ds) (hb : Below w.heap.size w W) {k : Nat} (hkl : k < ds.length) : W.cell? (a.add k) = some (.slice ds[k].A ds[k].l.length ds[k].c) := by
  have hc := hx.rows.cell a rfl k hkl 0 _ rfl
  rw [Nat.mul_one] at hc
  have e0 : ∀ b : Addr, b.add 0 = b := fun b => by unfold Addr.add; simp
  rw [e0] at hc
  exact (hb.cell (World.block_lt_of_cell? w _ hc)).trans hc
set_option maxHeartbeats 4000000 in
theorem great_any (A : Option Addr) (c : Nat) (ds : List Dump) (w W : World) (R : List Res) (hx : DumpsIn w A ds) (hf : TextsFit ds) (T : Sts w (fun _ => False) W R) :
    Calls Try.prog 7 #[.slice A ds.length c] W fun e W' => e = .returned (.bool (greatB ds)) ∧ Sts w (fun _ => False) W' R := by
  have hll := hx.rows.len
  go_enter Try.func7, Try.ntmps7
  go_wp2_with fail
  go_loopw [9] (fun i wr => ∃ k : Nat, k ≤ ds.length ∧ i = .int .i64 k ∧ (ds.take k).any overD = false ∧ Sts w (fun _ => False) wr R) (fun i _ => ds.length - (intOf i).toNat)
  case atStart => exact ⟨0, by omega, rfl, rfl, T⟩
  case round =>
    clear T
    obtain ⟨k, hk0, rfl, hno, T⟩ := hrel
    by_cases hkl : k < ds.length
    · cases A with
      | none => have := hx.rows.nil rfl; subst this; simp at hkl
      | some a =>
        have hld := hx.load T.below hkl
        have hdx := hx.each ds[k] (List.getElem_mem hkl)
        have hdf := hf ds[k] (List.getElem_mem hkl)
        have hox : ds[k]? = some ds[k] := List.getElem?_eq_getElem hkl
        have hmem : ds[k] ∈ ds := List.getElem_mem hkl
        generalize ds[k] = d at *
        have hdl := hdx.len
        go_wp2_with fail
        clear hld
        go_loopw [15] (fun i wi => ∃ j : Nat, j ≤ d.l.length ∧ i = .int .i64 j ∧ (d.l.take j).any overE = false ∧ Sts w (fun _ => False) wi R) (fun i _ => d.l.length - (intOf i).toNat)
        case atStart => exact ⟨0, by omega, rfl, rfl, T⟩
        case round =>
          clear T
          obtain ⟨j, hj0, rfl, hno1, T⟩ := hrel
          by_cases hjl : j < d.l.length
          · obtain ⟨dA, dc, dl⟩ := d
            cases dA with
            | none => have := hdx.nil rfl; dsimp only at *; subst this; simp at hjl
            | some b =>
              dsimp only at *
              have hld := hdx.load (P := Try.prog) (T := 40) TEntry_size TEntry_und rfl (by kernel_rfl) T.below rfl hjl
              obtain ⟨hk1, hk2⟩ := hdf dl[j] (List.getElem_mem hjl)
              have hoj : dl[j]? = some dl[j] := List.getElem?_eq_getElem hjl
              have hme : dl[j] ∈ dl := List.getElem_mem hjl
              generalize dl[j] = x at *
              have T := T.new (AV x) 40
              have hr := T.row; have hlt := row_lt hr; have hc := row_cell hr
              cases hov : overE x
              case false =>
                have hg : decide ((100 : Int) < (x.inst.call.deed.key.size : Int) + (x.inst.call.deed.val.size : Int)) = false := hov
                go_wp2
                go_roundw
                case rel => exact ⟨j + 1, by omega, by go_num, by rw [List.take_add_one, hoj, List.any_append, hno1]; simp [hov], T.drop⟩
                case measure => simp [intOf]; omega
              case true =>
                have hg : decide ((100 : Int) < (x.inst.call.deed.key.size : Int) + (x.inst.call.deed.val.size : Int)) = true := hov
                have hm : greatB ds = true := by
                  unfold greatB
                  rw [Bool.or_eq_true]; left
                  rw [List.any_eq_true]
                  refine ⟨_, hmem, ?_⟩
                  unfold overD
                  rw [Bool.or_eq_true]; left
                  rw [List.any_eq_true]
                  exact ⟨x, hme, hov⟩
                have HM := Lib.hid hm; clear hm
                go_wp2
                go_ret
                exact ⟨by rw [HM.out]; rfl, T.drop⟩
          · obtain rfl : j = d.l.length := by omega
            rw [List.take_length] at hno1
            cases hov : decide ((20 : Int) < (d.l.length : Int))
            case false =>
              have ho : overD d = false := by unfold overD; rw [hno1, hov]; rfl
              go_wp2
              go_roundw
              case rel => exact ⟨k + 1, by omega, by go_num, by rw [List.take_add_one, hox, List.any_append, hno]; simp [ho], T⟩
              case measure => simp [intOf]; omega
            case true =>
              have hm : greatB ds = true := by
                unfold greatB
                rw [Bool.or_eq_true]; left
                rw [List.any_eq_true]
                refine ⟨_, hmem, ?_⟩
                unfold overD
                rw [hov, Bool.or_true]
              have HM := Lib.hid hm; clear hm
              go_wp2
              go_ret
              exact ⟨by rw [HM.out]; rfl, T⟩
    · obtain rfl : k = ds.length := by omega
      rw [List.take_length] at hno
      have hm : greatB ds = decide ((7 : Int) < (ds.length : Int)) := by unfold greatB; rw [hno]; rfl
      have HM := Lib.hid hm; clear hm
      go_wp2
      go_ret
      exact ⟨by rw [HM.out]; rfl, T⟩
end Go.Proofs.Ytahajjfbkdocaaa
/- What comes in as dumps: slices of slices of entries. -/
namespace Go.Proofs.Ytahajjfbkdocaaa
open Go.ChangeShapes Go.WideShapes Go.ChangeAt Go.RowKit Go.WideMaps Go.WideElems Go.Joins Go.Deep
open Go.ChangeMaps (open_string)
set_option linter.unusedVariables false
theorem trod_rowsIn {α : Type} {V : α → Array Value} {Fit : α → Prop} {H : Type} {enc : TypeId × Value → H} {P : Program} {w : World} {base : Nat} {sp : Nat → Bool} {held : Bool} {fuel : Nat} {cs : List Value} {x : DataW H × List MemPlace} {t e : TypeId} {n : Nat}
    (ht : P.underlying t = some (.slice e)) (hn : P.cellsOf e = n)
    (each : ∀ (fuel : Nat) (cs : List Value) (x : DataW H × List MemPlace), DataW.trod enc P w base sp held fuel e cs = some x → (∀ m ∈ x.1.weights P e, m ≤ reachBytes) → ∃ X : α, cs = (V X).toList ∧ Fit X)
    (hf : DataW.trod enc P w base sp held fuel t cs = some x) (hw : ∀ m ∈ x.1.weights P t, m ≤ reachBytes) :
    ∃ A l c, cs = [.slice A (List.length l) c] ∧ RowsIn w A n V l ∧ ∀ x ∈ l, Fit x := by
  rcases open_slice ht hf with ⟨hcs, hx⟩ | ⟨a, len, cap, m, k, D, Pl, hcs, _, hlc, hcm, hm, hx, hel⟩
  · exact ⟨none, [], 0, hcs, ⟨fun _ => rfl, fun a ha => (by cases ha), by simp⟩, fun s hs => (by cases hs)⟩
  · have hle : len ≤ m := by rw [hm]; split <;> omega
    subst hx
    obtain ⟨l, hl, hp⟩ := choose_list (p := fun i X => Fit X ∧ ∀ q v, (V X)[q]? = some v → w.cell? ((a.add (i * n)).add q) = some v) len fun i hi => by
      obtain ⟨cs', h1, h2⟩ := hel i (by omega)
      obtain ⟨X, e1, e2⟩ := each k cs' _ h2 fun q hq => hw q (by
        simp only [DataW.weights, ht]
        exact List.mem_cons_of_mem _ (List.mem_append_left _ (weigh_mem (List.mem_map_of_mem (List.mem_range.2 hi)) hq)))
      refine ⟨X, e2, fun q v hq => ?_⟩
      rw [hn] at h1
      obtain ⟨_, hlen, hcell⟩ := World.cells?_some h1
      have hq2 : q < (V X).size := (Array.getElem?_eq_some_iff.1 hq).1
      have hlen2 : cs'.length = (V X).size := by rw [e1]; simp
      rw [hcell q (by omega), e1]
      simpa using hq
    refine ⟨some a, l, cap, by rw [hl]; exact hcs, ⟨fun ha => (by cases ha), fun a' ha j hj i v hi => ?_, ?_⟩, fun x hx => ?_⟩
    · injection ha with ha; subst ha
      exact (hp j hj).2 i v hi
    · have : maxLen = 9223372036854775807 := rfl
      omega
    · obtain ⟨i, hi, rfl⟩ := List.mem_iff_getElem.1 hx
      exact (hp i hi).1
/-- Dumps that came in. -/
theorem open_dumps {H : Type} {enc : TypeId × Value → H} {w : World} {base : Nat} {sp : Nat → Bool} {held : Bool} {r : Reach} {b0 : Nat} {v : Value} {d : DataW H} {p : List MemPlace}
    (hv : Value.okWide Try.prog w r b0 22 v) (h : DataW.Trod enc Try.prog w base sp held 22 v d p) (hw : ∀ m ∈ d.weights Try.prog 22, m ≤ reachBytes) :
    ∃ A ds c, v = .slice A (List.length ds) c ∧ DumpsIn w A ds ∧ TextsFit ds ∧ ∀ d ∈ ds, ∀ e ∈ d.l, InI e.item := by
  obtain ⟨A, ds, c, rfl, hr, hf⟩ := open_rowsIn (V := PV) (Fit := fun d : Dump => RowsIn w d.A 22 AV d.l ∧ ∀ e ∈ d.l, EntryFits e) Try.underlying22 (by kernel_rfl)
    (fun fuel cs x h hw => by
      obtain ⟨A, l, c, rfl, hr, hf⟩ := trod_rowsIn (V := AV) (Fit := EntryFits) (n := 22) Try.underlying26 (by kernel_rfl) (fun fuel cs x h hw => trod_Entry h hw) h hw
      exact ⟨⟨A, c, l⟩, rfl, hr, hf⟩) hv h hw
  refine ⟨A, ds, c, rfl, ⟨hr, fun d hd => (hf d hd).1⟩, fun d hd e he => ?_, fun d hd e he => ?_⟩
  · have := (hf d hd).2 e he
    exact ⟨this.inst.call.deed.key, this.inst.call.deed.val⟩
  · have := (hf d hd).2 e he
    exact ⟨this.item.rep, this.item.num⟩
end Go.Proofs.Ytahajjfbkdocaaa
