/- Layer 24: Look. -/
import Derived.Test.YtahajjfbkdocaaaAudW
namespace Go.Proofs.Ytahajjfbkdocaaa
open Go.RowKit
set_option linter.unusedVariables false
attribute [local go_sem] row_alloc row_drew row_drewN row_ext row_setCell row_setRow size_ext setRow_alloc setRow_drew loadOf storeOf piece_lit loadVal_at storeVal_at allOne_lit buildOf buildRes_some
attribute [local go_sem high] cell_alloc frozen_alloc setCell_alloc cell_ext frozen_ext cell_setRow frozen_setRow
attribute [local go_sem ↓] TDeed_ld0 TDeed_st0 TDeed_fd0 TDeed_bd0
attribute [local go_sem] TDeed_size TDeed_one TDeed_piece TDeed_c0 TDeed_c1 TDeed_c2 TDeed_c3 TDeed_c4 TDeed_c5 TDeed_set_kind TDeed_set_key TDeed_set_val TDeed_set_ver TDeed_set_ses TDeed_set_num TDeed_ld TDeed_st TDeed_f_kind TDeed_f_key TDeed_f_val TDeed_f_ver TDeed_f_ses TDeed_f_num TDeed_bd TDeed_fl TDeed_fl_kind TDeed_fl_key TDeed_fl_val TDeed_fl_ver TDeed_fl_ses TDeed_fl_num
attribute [local go_sem high] TDeed_eql TDeed_neq
attribute [local go_sem ↓] index_deps0 load_deps0 store_deps0
attribute [local go_sem] DV_piece DV_size DV_one index_deps load_deps store_deps
attribute [local go_sem high] TDeps_eql TDeps_neq
attribute [local go_sem ↓] TCall_ld0 TCall_st0 TCall_fd0 TCall_bd0
attribute [local go_sem] TCall_size TCall_one TCall_piece TCall_c0 TCall_c1 TCall_c2 TCall_c3 TCall_c4 TCall_c5 TCall_c6 TCall_c7 TCall_c8 TCall_c9 TCall_c10 TCall_c11 TCall_c12 TCall_c13 TCall_p_deed TCall_put_deed TCall_p_deps TCall_put_deps TCall_set_seq TCall_ld TCall_st TCall_f_deed TCall_f_deps TCall_f_seq TCall_bd TCall_fl TCall_fl_deed TCall_fl_deps TCall_fl_seq
attribute [local go_sem high] TCall_eql TCall_neq
attribute [local go_sem ↓] TItem_ld0 TItem_st0 TItem_fd0 TItem_bd0
attribute [local go_sem] TItem_size TItem_one TItem_piece TItem_c0 TItem_c1 TItem_set_rep TItem_set_num TItem_ld TItem_st TItem_f_rep TItem_f_num TItem_bd TItem_fl TItem_fl_rep TItem_fl_num
attribute [local go_sem high] TItem_eql TItem_neq
attribute [local go_sem ↓] TFinding_ld0 TFinding_st0 TFinding_fd0 TFinding_bd0
attribute [local go_sem] TFinding_size TFinding_one TFinding_piece TFinding_c0 TFinding_c1 TFinding_c2 TFinding_c3 TFinding_set_kind TFinding_set_rep TFinding_p_item TFinding_put_item TFinding_ld TFinding_st TFinding_f_kind TFinding_f_rep TFinding_f_item TFinding_bd TFinding_fl TFinding_fl_kind TFinding_fl_rep TFinding_fl_item
attribute [local go_sem high] TFinding_eql TFinding_neq
attribute [local go_sem] cellsR_0 cellsR_1 cellsR_2 cellsR_3 mkMap
/-- A dump: a slice of entries that came in. -/
structure Dump where
  A : Option Addr
  c : Nat
  l : List Entry
def PV (d : Dump) : Array Value := #[.slice d.A d.l.length d.c]
def rep0 (n : Int) : Rep := ⟨n, [], [], fun _ => none, 0⟩
noncomputable def lookS (ds : List Dump) (s : Rep) (i : Nat) : Rep := match ds[i]? with | none => s | some d => dumpM s i d.l
noncomputable def lookM (n : Int) (ds : List Dump) : Rep := tiesM ((List.range ds.length).foldl (lookS ds) (rep0 n))
def Clean (e : Entry) : Prop := InI e.item ∧ e.inst.call.deed.key.size ≤ 1000
structure InvR (s : Rep) : Prop where
  order : ∀ x ∈ s.order, InI x
  key : ∀ x c, s.calls x = some c → c.deed.key.size ≤ 1000
theorem InvR.tell {s : Rep} (h : InvR s) (k rep : Int) (x : Item) : InvR (tellM s k rep x) := ⟨h.order, h.key⟩
theorem InvR.add {s : Rep} (h : InvR s) {x : Item} {c : Call} (hx : InI x) (hc : c.deed.key.size ≤ 1000) : InvR (addM s x c) := by
  refine ⟨fun y hy => ?_, fun y d hd => ?_⟩
  · rcases List.mem_append.1 (show y ∈ s.order ++ [x] from hy) with h1 | h1
    · exact h.order y h1
    · rw [List.mem_singleton.1 h1]; exact hx
  · have hd : putF s.calls x c y = some d := hd
    by_cases hyx : y = x
    · subst hyx; rw [putF_same] at hd; injection hd with hd; subst hd; exact hc
    · rw [putF_other _ _ hyx] at hd; exact h.key y d hd
theorem InvR.mark {s : Rep} (h : InvR s) (rep : Int) {e : Entry} (he : Clean e) : InvR (markM s rep e) := by
  unfold markM
  split
  · exact h.add he.1 he.2
  · split
    · exact h
    · exact h.tell _ _ _
theorem InvR.entry {s : Rep} (h : InvR s) (rep : Int) {e : Entry} (he : Clean e) : InvR (entryM s rep e) := by
  have key : ∀ s1, InvR s1 → InvR (if (e.inst.status == 3) = true then markM s1 rep e else s1) := by
    intro s1 h1
    split
    · exact h1.mark rep he
    · exact h1
  unfold entryM
  split
  · exact h.tell _ _ _
  · refine key (if lessBal e.inst.prom e.inst.vote = true then tellM s 3 rep e.item else s) ?_
    split
    · exact h.tell _ _ _
    · exact h
theorem dumpQ_inv (rep : Int) : ∀ (l : List Entry) (q : Rep × Seen), (∀ e ∈ l, Clean e) → InvR q.1 → InvR (l.foldl (dstep rep) q).1
  | [], q, _, h => h
  | e :: l, q, hl, h => by
    rw [List.foldl_cons]
    refine dumpQ_inv rep l _ (fun x hx => hl x (List.mem_cons_of_mem _ hx)) ?_
    unfold dstep
    split
    · exact h.tell _ _ _
    · exact h.entry rep (hl e (List.mem_cons_self ..))
theorem dumpQ_room (rep : Int) : ∀ (l : List Entry) (q : Rep × Seen) (m : Nat), RoomR q.1 (m + l.length) → RoomR (l.foldl (dstep rep) q).1 m
  | [], q, m, h => h
  | e :: l, q, m, h => by
    rw [List.foldl_cons]
    exact dumpQ_room rep l _ m (RoomR.step (by rw [show m + l.length + 1 = m + (l.length + 1) from rfl]; exact h) rep e)
structure Small (s : Rep) (m : Nat) : Prop where
  list : s.list.length ≤ 2 * m
  order : s.order.length ≤ m
  cnt : s.cnt ≤ m
theorem Small.tell {s : Rep} {m : Nat} (h : Small s m) (k rep : Int) (x : Item) : Small (tellM s k rep x) (m + 1) := by
  obtain ⟨a, b, c⟩ := h
  exact ⟨by show (s.list ++ _).length ≤ _; rw [List.length_append]; simp; omega, by show s.order.length ≤ _; omega, by show s.cnt ≤ _; omega⟩
theorem Small.entry {s : Rep} {m : Nat} (h : Small s m) (rep : Int) (e : Entry) : Small (entryM s rep e) (m + 1) := by
  obtain ⟨a, b, c⟩ := h
  obtain ⟨x, y, z⟩ := entryM_len s rep e
  exact ⟨by omega, by omega, by omega⟩
theorem dumpQ_small (rep : Int) : ∀ (l : List Entry) (q : Rep × Seen) (m : Nat), Small q.1 m → Small (l.foldl (dstep rep) q).1 (m + l.length)
  | [], q, m, h => h
  | e :: l, q, m, h => by
    rw [List.foldl_cons, List.length_cons, show m + (l.length + 1) = (m + 1) + l.length from by omega]
    refine dumpQ_small rep l _ (m + 1) ?_
    unfold dstep
    split
    · exact h.tell _ _ _
    · exact h.entry _ _
set_option maxHeartbeats 4000000 in
theorem lookT (n : Int) (A : Option Addr) (c : Nat) (ds : List Dump) (w W : World) (R : List Res) (hx : RowsIn w A 1 PV ds) (hd : ∀ d ∈ ds, RowsIn w d.A 22 AV d.l ∧ (∀ e ∈ d.l, Clean e) ∧ d.l.length ≤ 20) (h14 : ds.length ≤ 14)
    (T : Sts w (fun _ => False) W R) :
    Calls Try.prog 8 #[.int .i64 n, .slice A ds.length c] W fun e W' => ∃ v, e = .returned v ∧ Sts w (fun _ => False) W' (listR (lookM n ds) v :: R) := by
  have T := T.mapNew (P := Try.prog) (k := 28) (kv := fun x : Item => Value.agg (IV x)) (ev := fun c : Call => Value.agg (CV c)) (ok := InI)
  have T := ((T.vecNil 28 2).vecNil 49 4).new (cellsR (rep0 n) (.slice none 0 0) (.slice none 0 0) W.heap.size) 59
  go_enter Try.func8, Try.ntmps8
  go_wp2_with fail
  have T := Sts.repShut (s := rep0 n) (v1 := .slice none 0 0) (v2 := .slice none 0 0) (m := W.heap.size) T
  simp only [World.size_alloc] at T
  generalize W.heap.size + 1 = r at *
  go_loopw [14] (fun i wr => ∃ (k m : Nat) (s0 : Rep), k ≤ ds.length ∧ i = .int .i64 k ∧ s0 = (List.range k).foldl (lookS ds) (rep0 n) ∧ m ≤ 20 * k ∧ Small s0 m ∧ InvR s0 ∧ Sts w (fun _ => False) wr (repR r s0 :: R)) (fun i _ => ds.length - (intOf i).toNat)
  case atStart => exact ⟨0, 0, rep0 n, by omega, rfl, rfl, by omega, ⟨Nat.le_refl _, Nat.le_refl _, Nat.le_refl _⟩, ⟨fun x hx => (by cases hx), fun x c hc => (by cases hc)⟩, T⟩
  case round =>
    clear T
    obtain ⟨k, m, s0, hk0, rfl, hq, hm, hsm, hinv, T⟩ := hrel
    by_cases hkl : k < ds.length
    · cases A with
      | none => have := hx.nil rfl; subst this; simp at hkl
      | some a =>
        have hld : wr.cell? (a.add k) = some (.slice ds[k].A ds[k].l.length ds[k].c) := by
          have hc := hx.cell a rfl k hkl 0 _ rfl
          rw [Nat.mul_one] at hc
          have e0 : ∀ b : Addr, b.add 0 = b := fun b => by unfold Addr.add; simp
          rw [e0] at hc
          exact (T.below.cell (World.block_lt_of_cell? w _ hc)).trans hc
        obtain ⟨hdx, hcl, h20⟩ := hd ds[k] (List.getElem_mem hkl)
        have hox : ds[k]? = some ds[k] := List.getElem?_eq_getElem hkl
        generalize ds[k] = d at *
        have hq3 : dumpM s0 k d.l = (List.range (k + 1)).foldl (lookS ds) (rep0 n) := by
          rw [List.range_succ, List.foldl_append, ← hq]
          show _ = lookS ds s0 k
          unfold lookS
          rw [hox]
        have hroom : RoomR s0 d.l.length := ⟨by have := hsm.list; omega, by have := hsm.order; omega, by have := hsm.cnt; omega⟩
        have hinv2 : InvR (dumpM s0 k d.l) := dumpQ_inv k d.l (s0, fun _ => none) hcl hinv
        have hsm2 : Small (dumpM s0 k d.l) (m + d.l.length) := dumpQ_small k d.l (s0, fun _ => none) m hsm
        have HQ := Lib.hid hq3; clear hq3 hq hox
        have CD := Lib.hid (dumpT r s0 k d.A d.c d.l w wr R hdx (fun e he => (hcl e he).1) hroom T)
        clear T hinv hsm hdx hcl
        go_wp2_with fail
        with_reducible refine CD.out.mono ?_
        clear CD hld; rintro e w2 ⟨rfl, T⟩
        go_wp2
        go_roundw
        case rel => exact ⟨k + 1, m + d.l.length, _, by omega, by go_num, HQ.out, by omega, hsm2, hinv2, T⟩
        case measure => simp [intOf]; omega
    · obtain rfl : k = ds.length := by omega
      have hqq : lookM n ds = tiesM s0 := by unfold lookM; rw [← hq]
      have HQ := Lib.hid hqq; clear hqq hq
      have CT := Lib.hid (tiesT r s0 w wr R hinv.order hinv.key (by have := hsm.list; omega) (by have := hsm.order; omega) T)
      clear T hinv hsm
      go_wp2_with fail
      with_reducible refine CT.out.mono ?_
      clear CT; rintro e w2 ⟨rfl, T⟩
      obtain ⟨v1, v2, mm, T⟩ := T.repOpen
      have hcr := row_cell T.row; have hlr := row_lt T.row
      go_wp2
      go_ret
      exact ⟨_, rfl, by rw [HQ.out]; exact T.drop.swap.drop.swap.drop⟩
end Go.Proofs.Ytahajjfbkdocaaa
