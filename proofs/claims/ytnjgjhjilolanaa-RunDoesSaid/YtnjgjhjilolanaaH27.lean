/- Several texts in one. -/
import Derived.Test.YtnjgjhjilolanaaH13
import Derived.Test.YtnjgjhjilolanaaH2
import Derived.Test.YtnjgjhjilolanaaH3
import Derived.Test.YtnjgjhjilolanaaH18
import Derived.Test.YtnjgjhjilolanaaH4
import Derived.Test.YtnjgjhjilolanaaH19
import Derived.Test.YtnjgjhjilolanaaH26
/- Layer 18: the document's graph: items, calls, what is done. -/
namespace Go.Proofs.Ytnjgjhjilolanaa
open Go.RowKit Go.Shelf
set_option linter.unusedVariables false
set_option maxRecDepth 20000
attribute [local go_sem] row_alloc row_drew row_drewN row_ext row_setCell row_setRow size_ext setRow_alloc setRow_drew loadOf storeOf piece_lit loadVal_at storeVal_at allOne_lit buildOf buildRes_some
attribute [local go_sem high] cell_alloc frozen_alloc setCell_alloc cell_ext frozen_ext cell_setRow frozen_setRow
attribute [local go_sem ↓] TDeed_ld0 TDeed_st0 TDeed_fd0 TDeed_bd0
attribute [local go_sem] TDeed_size TDeed_one TDeed_piece TDeed_c0 TDeed_c1 TDeed_c2 TDeed_c3 TDeed_c4 TDeed_c5 TDeed_set_kind TDeed_set_key TDeed_set_val TDeed_set_ver TDeed_set_ses TDeed_set_num TDeed_ld TDeed_st TDeed_f_kind TDeed_f_key TDeed_f_val TDeed_f_ver TDeed_f_ses TDeed_f_num TDeed_bd TDeed_fl TDeed_fl_kind TDeed_fl_key TDeed_fl_val TDeed_fl_ver TDeed_fl_ses TDeed_fl_num
attribute [local go_sem high] TDeed_eql TDeed_neq
attribute [local go_sem ↓] index_deps0 load_deps0 store_deps0
attribute [local go_sem] DV_piece DV_size DV_one index_deps load_deps store_deps
attribute [local go_sem high] TDeps_eql TDeps_neq
attribute [local go_sem ↓] TCall_ld0 TCall_st0 TCall_fd0 TCall_bd0
attribute [local go_sem] TCall_size TCall_one TCall_piece TCall_c0 TCall_c1 TCall_c2 TCall_c3 TCall_c4 TCall_c5 TCall_c6 TCall_c7 TCall_c8 TCall_c9 TCall_c10 TCall_c11 TCall_c12 TCall_c13 TCall_p_deed TCall_put_deed TCall_p_deps TCall_put_deps TCall_set_seq TCall_ld TCall_st TCall_f_deed TCall_f_deps TCall_f_seq TCall_bd TCall_fl TCall_fl_deed TCall_fl_deps TCall_fl_seq
attribute [local go_sem high] TCall_eql TCall_neq
attribute [local go_sem ↓] TItem_ld0 TItem_st0 TItem_fd0 TItem_bd0
attribute [local go_sem] TItem_size TItem_one TItem_piece TItem_c0 TItem_c1 TItem_set_rep TItem_set_num TItem_ld TItem_st TItem_f_rep TItem_f_num TItem_bd TItem_fl TItem_fl_rep TItem_fl_num
attribute [local go_sem high] TItem_eql TItem_neq
def docC (vi vc vd : Value) : Array Value := #[vi, vc, vd]
def docL (g : Nat) (vi vc vd : Value) (items : List Item) (calls : List Call) (dn : List Item) : List Res :=
  [rowR g (docC vi vc vd), vecR 35 2 vi items.length (vl IV items), vecR 47 14 vc calls.length (vl CV calls), vecR 35 2 vd dn.length (vl IV dn)]
section
variable {w W : World} {F : Nat → Prop} {R : List Res}
theorem idx_hit {x y : Item} {l : List Item} {k : Nat} (hy : l[k]? = some y) (he : eqA (IV x) (IV y) = true) (hno : ∀ j z, j < k → l[j]? = some z → eqA (IV x) (IV z) = false) : idxN x l = k ∧ k < l.length := by
  obtain ⟨hkl, rfl⟩ := List.getElem?_eq_some_iff.1 hy
  refine ⟨?_, hkl⟩
  unfold idxN
  rw [List.findIdx_eq hkl]
  exact ⟨he, fun j hj => hno j _ hj (List.getElem?_eq_getElem _)⟩
theorem idx_miss {x : Item} {l : List Item} {k : Nat} (hk : l.length ≤ k) (hno : ∀ j z, j < k → l[j]? = some z → eqA (IV x) (IV z) = false) : idxN x l = l.length := by
  unfold idxN
  rw [List.findIdx_eq_length]
  intro z hz
  obtain ⟨j, hj, rfl⟩ := List.getElem_of_mem hz
  exact hno j _ (by omega) (List.getElem?_eq_getElem hj)
set_option maxHeartbeats 4000000 in
theorem docAtR (g : Nat) (vi vc vd : Value) (items : List Item) (calls : List Call) (dn : List Item) (hlen : items.length ≤ 1000000) (x : Item) : Reads Try.prog 16 #[.pointer (some ⟨g, 0, none⟩), .agg (IV x)] (docL g vi vc vd items calls dn) (.int .i64 (idxI x items)) := by
  intro W G hS
  have T := (Sts.start0 W).new (IV x) 35
  have TS : Sts W G W [rowR g (docC vi vc vd), vecR 35 2 vi items.length (vl IV items), vecR 47 14 vc calls.length (vl CV calls), vecR 35 2 vd dn.length (vl IV dn)] := Sts.start hS
  have hbW := row_lt TS.row
  have hrow := TS.row
  obtain ⟨A, c, rfl, hA, hlc, hA0⟩ := vec_rows TItem_size (TS.ord [1, 0]) (by omega) (by omega)
  have FR : ∀ W' R', Sts W (fun _ => False) W' R' → (W'.cell? ⟨g, 0, none⟩ = some (.slice A items.length c) ∧ g < W'.heap.size) := fun W' R' T => by
    have r := (row_below T.below hbW).trans hrow
    exact ⟨by rw [row_cell r 0]; rfl, row_lt r⟩
  have FL : ∀ W' R', Sts W (fun _ => False) W' R' → ∀ (k : Nat) (y : Item), items[k]? = some y → ∃ gi, A = some ⟨gi, 0, none⟩ ∧ loadVal Try.prog 35 2 W' (.pointer (some ⟨gi, k * 2, none⟩)) = .ok (.agg (IV y)) W' := fun W' R' T k y hk => by
    obtain ⟨hk1, rfl⟩ := List.getElem?_eq_some_iff.1 hk
    cases hh : A with
    | none => have := hA.nil hh; rw [this] at hk1; simp at hk1
    | some a =>
      obtain ⟨gi, rfl⟩ := hA0 a hh
      have h := hA.load (P := Try.prog) (T := 35) TItem_size TItem_und rfl (by kernel_rfl) T.below hh hk1
      rw [add_none, Nat.zero_add] at h
      exact ⟨gi, rfl, h⟩
  have HFL := Lib.hid FL; have HFR := Lib.hid FR; have HT := Lib.hid T
  clear FL FR T TS hS hA hA0 hrow hbW
  obtain ⟨n, hn⟩ : ∃ n, n = items.length := ⟨_, rfl⟩
  rw [← hn] at hlen hlc HFR
  have HN := Lib.hid hn
  clear hn
  have c0 := (HFR.out _ _ HT.out).1; have g0 := (HFR.out _ _ HT.out).2
  obtain ⟨vr, hvr⟩ : ∃ vr, vr = idxI x items := ⟨_, rfl⟩
  rw [← hvr]
  have HV := Lib.hid hvr; clear hvr
  go_enter Try.func16, Try.ntmps16
  go_wp2_with fail
  generalize hgx : W.heap.size = gx at *
  go_loopw [12] (fun u12 wr => ∃ k : Nat, u12 = .int .i64 k ∧ k ≤ n ∧ (∀ j y, j < k → items[j]? = some y → eqA (IV x) (IV y) = false) ∧ Sts W (fun _ => False) wr [rowR gx (IV x)]) (fun u12 _ => n - (intOf u12).toNat)
  case atStart => exact ⟨0, rfl, by omega, fun j y hj => by omega, HT.out⟩
  case round =>
    clear HT c0 g0
    obtain ⟨k, rfl, hk, hno, T1⟩ := hrel
    have HNO := Lib.hid hno; clear hno
    by_cases hkn : k < n
    · have hk1 : (k : Int) < (n : Int) := by omega
      have hk0 : (0 : Int) ≤ (k : Int) := by omega
      obtain ⟨y, hy⟩ : ∃ y, items[k]? = some y := ⟨items[k]'(by rw [← HN.out]; exact hkn), List.getElem?_eq_getElem _⟩
      have HY := Lib.hid hy
      obtain ⟨gi, rfl, hld⟩ := HFL.out _ _ T1 k y hy
      have T2 := T1.new (IV y) 35
      have rx := T2.row1; have lx := row_lt rx
      have HT2 := Lib.hid T2
      clear hy T1 T2
      cases he : eqA (IV x) (IV y)
      case true =>
        have hv := (show vr = (k : Int) by have h := idx_hit HY.out he HNO.out; rw [HV.out, idxI, if_pos (by rw [h.1]; exact h.2), h.1])
        have HVV := Lib.hid hv; clear hv
        go_wp2
        go_ret
        exact ⟨by rw [HVV.out]; rfl, by first | exact HT2.out.below | (rw [← hgx]; exact HT2.out.below)⟩
      case false =>
        go_wp2
        go_roundw
        case rel => exact ⟨k + 1, by go_num, by omega, fun j z hj hz => by
          rcases Nat.lt_succ_iff_lt_or_eq.1 hj with h | h
          · exact HNO.out j z h hz
          · subst h; rw [HY.out] at hz; injection hz with hz; subst hz; exact he, HT2.out.drop⟩
        case measure => simp [intOf]; omega
    · have hk1 : ¬ (k : Int) < (n : Int) := by omega
      have HT1 := Lib.hid T1; clear T1
      have hv := (show vr = -1 by have h := idx_miss (by have := HN.out; omega) HNO.out; rw [HV.out, idxI, if_neg (by rw [h]; omega)])
      have HVV := Lib.hid hv; clear hv
      go_wp2
      go_ret
      exact ⟨by rw [HVV.out]; rfl, by first | exact HT1.out.below | (rw [← hgx]; exact HT1.out.below)⟩
set_option maxHeartbeats 4000000 in
theorem docOverR (g : Nat) (vi vc vd : Value) (items : List Item) (calls : List Call) (dn : List Item) (hlen : dn.length ≤ 1000000) (x : Item) : Reads Try.prog 19 #[.pointer (some ⟨g, 0, none⟩), .agg (IV x)] (docL g vi vc vd items calls dn) (.bool (decide (idxN x dn < dn.length))) := by
  intro W G hS
  have T := (Sts.start0 W).new (IV x) 35
  have TS : Sts W G W [rowR g (docC vi vc vd), vecR 35 2 vi items.length (vl IV items), vecR 47 14 vc calls.length (vl CV calls), vecR 35 2 vd dn.length (vl IV dn)] := Sts.start hS
  have hbW := row_lt TS.row
  have hrow := TS.row
  obtain ⟨A, c, rfl, hA, hlc, hA0⟩ := vec_rows TItem_size (TS.ord [3, 0, 1, 2]) (by omega) (by omega)
  have FR : ∀ W' R', Sts W (fun _ => False) W' R' → (W'.cell? ⟨g, 2, none⟩ = some (.slice A dn.length c) ∧ g < W'.heap.size) := fun W' R' T => by
    have r := (row_below T.below hbW).trans hrow
    exact ⟨by rw [row_cell r 2]; rfl, row_lt r⟩
  have FL : ∀ W' R', Sts W (fun _ => False) W' R' → ∀ (k : Nat) (y : Item), dn[k]? = some y → ∃ gi, A = some ⟨gi, 0, none⟩ ∧ loadVal Try.prog 35 2 W' (.pointer (some ⟨gi, k * 2, none⟩)) = .ok (.agg (IV y)) W' := fun W' R' T k y hk => by
    obtain ⟨hk1, rfl⟩ := List.getElem?_eq_some_iff.1 hk
    cases hh : A with
    | none => have := hA.nil hh; rw [this] at hk1; simp at hk1
    | some a =>
      obtain ⟨gi, rfl⟩ := hA0 a hh
      have h := hA.load (P := Try.prog) (T := 35) TItem_size TItem_und rfl (by kernel_rfl) T.below hh hk1
      rw [add_none, Nat.zero_add] at h
      exact ⟨gi, rfl, h⟩
  have HFL := Lib.hid FL; have HFR := Lib.hid FR; have HT := Lib.hid T
  clear FL FR T TS hS hA hA0 hrow hbW
  obtain ⟨n, hn⟩ : ∃ n, n = dn.length := ⟨_, rfl⟩
  rw [← hn] at hlen hlc HFR
  have HN := Lib.hid hn
  clear hn
  have c0 := (HFR.out _ _ HT.out).1; have g0 := (HFR.out _ _ HT.out).2
  obtain ⟨vr, hvr⟩ : ∃ vr, vr = decide (idxN x dn < dn.length) := ⟨_, rfl⟩
  rw [← hvr]
  have HV := Lib.hid hvr; clear hvr
  go_enter Try.func19, Try.ntmps19
  go_wp2_with fail
  generalize hgx : W.heap.size = gx at *
  go_loopw [12] (fun u12 wr => ∃ k : Nat, u12 = .int .i64 k ∧ k ≤ n ∧ (∀ j y, j < k → dn[j]? = some y → eqA (IV x) (IV y) = false) ∧ Sts W (fun _ => False) wr [rowR gx (IV x)]) (fun u12 _ => n - (intOf u12).toNat)
  case atStart => exact ⟨0, rfl, by omega, fun j y hj => by omega, HT.out⟩
  case round =>
    clear HT c0 g0
    obtain ⟨k, rfl, hk, hno, T1⟩ := hrel
    have HNO := Lib.hid hno; clear hno
    by_cases hkn : k < n
    · have hk1 : (k : Int) < (n : Int) := by omega
      have hk0 : (0 : Int) ≤ (k : Int) := by omega
      obtain ⟨y, hy⟩ : ∃ y, dn[k]? = some y := ⟨dn[k]'(by rw [← HN.out]; exact hkn), List.getElem?_eq_getElem _⟩
      have HY := Lib.hid hy
      obtain ⟨gi, rfl, hld⟩ := HFL.out _ _ T1 k y hy
      have T2 := T1.new (IV y) 35
      have rx := T2.row1; have lx := row_lt rx
      have HT2 := Lib.hid T2
      clear hy T1 T2
      cases he : eqA (IV x) (IV y)
      case true =>
        have hv := (show vr = true by have h := idx_hit HY.out he HNO.out; rw [HV.out]; exact decide_eq_true (by rw [h.1]; exact h.2))
        have HVV := Lib.hid hv; clear hv
        go_wp2
        go_ret
        exact ⟨by rw [HVV.out]; rfl, by first | exact HT2.out.below | (rw [← hgx]; exact HT2.out.below)⟩
      case false =>
        go_wp2
        go_roundw
        case rel => exact ⟨k + 1, by go_num, by omega, fun j z hj hz => by
          rcases Nat.lt_succ_iff_lt_or_eq.1 hj with h | h
          · exact HNO.out j z h hz
          · subst h; rw [HY.out] at hz; injection hz with hz; subst hz; exact he, HT2.out.drop⟩
        case measure => simp [intOf]; omega
    · have hk1 : ¬ (k : Int) < (n : Int) := by omega
      have HT1 := Lib.hid T1; clear T1
      have hv := (show vr = false by have h := idx_miss (by have := HN.out; omega) HNO.out; rw [HV.out]; exact decide_eq_false (by rw [h]; omega))
      have HVV := Lib.hid hv; clear hv
      go_wp2
      go_ret
      exact ⟨by rw [HVV.out]; rfl, by first | exact HT1.out.below | (rw [← hgx]; exact HT1.out.below)⟩
end
end Go.Proofs.Ytnjgjhjilolanaa
/- GStep as a value, as cells: its parts, equality, loads, stores, building. Printed by types.py. -/
namespace Go.Proofs.Ytnjgjhjilolanaa
open Go.RowKit
set_option linter.unusedVariables false
structure GStep where
  kind : Int
  item : Item
  call : Call
def GSV (x : GStep) : Array Value := #[.int .i64 x.kind, .int .i64 x.item.rep, .int .i64 x.item.num, .int .i64 x.call.deed.kind, .string x.call.deed.key, .string x.call.deed.val, .int .i64 x.call.deed.ver, .int .i64 x.call.deed.ses, .int .i64 x.call.deed.num, .int .i64 (x.call.deps 0), .int .i64 (x.call.deps 1), .int .i64 (x.call.deps 2), .int .i64 (x.call.deps 3), .int .i64 (x.call.deps 4), .int .i64 (x.call.deps 5), .int .i64 (x.call.deps 6), .int .i64 x.call.seq]
def noGStep : GStep := ⟨0, noItem, noCall⟩
section
variable (x y : GStep)
theorem TGStep_size : (GSV x).size = 17 := rfl
theorem TGStep_one : allOne (GSV x) = true := by simp [allOne, GSV, Value.oneCell']
theorem TGStep_piece : piece (GSV x) 0 17 = GSV x := piece_all _ _ rfl
theorem TGStep_c0 : (GSV x)[0]? = some (.int .i64 x.kind) := rfl
theorem TGStep_c1 : (GSV x)[1]? = some (.int .i64 x.item.rep) := rfl
theorem TGStep_c2 : (GSV x)[2]? = some (.int .i64 x.item.num) := rfl
theorem TGStep_c3 : (GSV x)[3]? = some (.int .i64 x.call.deed.kind) := rfl
theorem TGStep_c4 : (GSV x)[4]? = some (.string x.call.deed.key) := rfl
theorem TGStep_c5 : (GSV x)[5]? = some (.string x.call.deed.val) := rfl
theorem TGStep_c6 : (GSV x)[6]? = some (.int .i64 x.call.deed.ver) := rfl
theorem TGStep_c7 : (GSV x)[7]? = some (.int .i64 x.call.deed.ses) := rfl
theorem TGStep_c8 : (GSV x)[8]? = some (.int .i64 x.call.deed.num) := rfl
theorem TGStep_c9 : (GSV x)[9]? = some (.int .i64 (x.call.deps 0)) := rfl
theorem TGStep_c10 : (GSV x)[10]? = some (.int .i64 (x.call.deps 1)) := rfl
theorem TGStep_c11 : (GSV x)[11]? = some (.int .i64 (x.call.deps 2)) := rfl
theorem TGStep_c12 : (GSV x)[12]? = some (.int .i64 (x.call.deps 3)) := rfl
theorem TGStep_c13 : (GSV x)[13]? = some (.int .i64 (x.call.deps 4)) := rfl
theorem TGStep_c14 : (GSV x)[14]? = some (.int .i64 (x.call.deps 5)) := rfl
theorem TGStep_c15 : (GSV x)[15]? = some (.int .i64 (x.call.deps 6)) := rfl
theorem TGStep_c16 : (GSV x)[16]? = some (.int .i64 x.call.seq) := rfl
theorem TGStep_set_kind (v : Int) : (GSV x).setIfInBounds 0 (.int .i64 v) = GSV { x with kind := v } := rfl
theorem TGStep_p_item : piece (GSV x) 1 2 = IV x.item := by kernel_rfl
theorem TGStep_put_item (v : Item) : splice (GSV x) 1 (IV v) = GSV { x with item := v } := by kernel_rfl
theorem TGStep_p_call : piece (GSV x) 3 14 = CV x.call := by kernel_rfl
theorem TGStep_put_call (v : Call) : splice (GSV x) 3 (CV v) = GSV { x with call := v } := by kernel_rfl
theorem TGStep_cat : GSV x = #[.int .i64 x.kind] ++ IV x.item ++ CV x.call := by kernel_rfl
theorem TGStep_ext : GSV x = GSV y ↔ x.kind = y.kind ∧ IV x.item = IV y.item ∧ CV x.call = CV y.call := by
  constructor
  · intro h
    refine ⟨?_, ?_, ?_⟩
    · have := congrArg (·[0]?) h; simpa [TGStep_c0, TGStep_size] using this
    · have := congrArg (fun c => piece c 1 2) h; simpa only [TGStep_p_item] using this
    · have := congrArg (fun c => piece c 3 14) h; simpa only [TGStep_p_call] using this
  · rintro ⟨h0, h1, h2⟩
    rw [TGStep_cat x, TGStep_cat y, h0, h1, h2]
end
theorem TGStep_und : Try.prog.underlying 78 = some (.struct (Try.prog.fieldsOf 78)) := by kernel_rfl
theorem TGStep_eq (d : Nat) (x y : GStep) (w : World) : (Op.equalIn (d + 4) 78 (.agg (GSV x)) (.agg (GSV y))).run Try.prog w = .ok (eqA (GSV x) (GSV y)) w := by
  refine eq_struct (d := d + 3) (L := [(3, 0, x.kind == y.kind), (35, 1, eqA (IV x.item) (IV y.item)), (47, 3, eqA (CV x.call) (CV y.call))]) TGStep_und (by kernel_rfl) (by kernel_rfl) ?_ ?_ w
  · simp only [List.forall_mem_cons]
    exact ⟨⟨_, _, part_cell Try.underlying3 rfl (by kernel_rfl) (TGStep_c0 x), part_cell Try.underlying3 rfl (by kernel_rfl) (TGStep_c0 y), fun w => run_equalIn_int w (d + 2) _ _ _ _ _ Try.underlying3⟩, ⟨_, _, fun w => by rw [part_row TItem_und rfl (by kernel_rfl) (n := 2), TGStep_p_item], fun w => by rw [part_row TItem_und rfl (by kernel_rfl) (n := 2), TGStep_p_item], fun w => TItem_eq (d + 1) x.item y.item w⟩, ⟨_, _, fun w => by rw [part_row TCall_und rfl (by kernel_rfl) (n := 14), TGStep_p_call], fun w => by rw [part_row TCall_und rfl (by kernel_rfl) (n := 14), TGStep_p_call], fun w => TCall_eq (d + 0) x.call y.call w⟩, by simp⟩
  · refine eqA_of ?_
    rw [TGStep_ext]
    simp [eqA_iff]
theorem TGStep_eql (x y : GStep) (w : World) : (binOp .eql 78 (.agg (GSV x)) (.agg (GSV y))).run Try.prog w = .ok (.bool (eqA (GSV x) (GSV y))) w := eql_of (TGStep_eq 9996 x y) w
theorem TGStep_neq (x y : GStep) (w : World) : (binOp .neq 78 (.agg (GSV x)) (.agg (GSV y))).run Try.prog w = .ok (.bool (!eqA (GSV x) (GSV y))) w := neq_of (TGStep_eq 9996 x y) w
theorem TGStep_ld0 (v : Value) : Instr.loadAt 78 v = loadSem 78 v := rfl
theorem TGStep_st0 (v u : Value) : Instr.storeAt 78 v u = storeSem 78 v u := rfl
theorem TGStep_fd0 (x : Value) (i : Nat) : Instr.field 78 x i = fieldSem 78 x i := rfl
theorem TGStep_bd0 (p : Array (Nat × Value)) : Instr.build 78 p = buildS 78 p := rfl
theorem TGStep_ld (w : World) (v : Value) : (loadSem 78 v).run Try.prog w = loadVal Try.prog 78 17 w v := load_val TGStep_und rfl (by kernel_rfl) w v
theorem TGStep_st (w : World) (v u : Value) : (storeSem 78 v u).run Try.prog w = storeVal Try.prog 78 17 w v u := store_val (by kernel_rfl) w v u
theorem TGStep_f_kind (x : GStep) (w : World) : (fieldSem 78 (.agg (GSV x)) 0).run Try.prog w = .ok (.int .i64 x.kind) w := field_of TGStep_und (by kernel_rfl) (part_cell Try.underlying3 rfl (by kernel_rfl) (TGStep_c0 x)) w
theorem TGStep_f_item (x : GStep) (w : World) : (fieldSem 78 (.agg (GSV x)) 1).run Try.prog w = .ok (.agg (IV x.item)) w := field_of TGStep_und (by kernel_rfl) (fun w => by rw [part_row TItem_und rfl (by kernel_rfl) (n := 2), TGStep_p_item]) w
theorem TGStep_f_call (x : GStep) (w : World) : (fieldSem 78 (.agg (GSV x)) 2).run Try.prog w = .ok (.agg (CV x.call)) w := field_of TGStep_und (by kernel_rfl) (fun w => by rw [part_row TCall_und rfl (by kernel_rfl) (n := 14), TGStep_p_call]) w
def TGStep_pl : Nat → Option (Nat × Nat) := fun i => (#[(0, 1), (1, 2), (3, 14)] : Array (Nat × Nat))[i]?
theorem TGStep_bd (w : World) (p : Array (Nat × Value)) : (buildS 78 p).run Try.prog w = buildOf Try.prog 78 TGStep_pl (GSV noGStep) p w := build_struct TGStep_und (by kernel_rfl) (fun w => by kernel_rfl) w p
theorem TGStep_fl (X : Array Value) : fillS TGStep_pl X [] = some X := rfl
theorem TGStep_fl_kind (x : GStep) (v : Int) (r : List (Nat × Value)) : fillS TGStep_pl (GSV x) ((0, .int .i64 v) :: r) = fillS TGStep_pl (GSV { x with kind := v }) r := rfl
theorem TGStep_fl_item (x : GStep) (v : Item) (r : List (Nat × Value)) : fillS TGStep_pl (GSV x) ((1, .agg (IV v)) :: r) = fillS TGStep_pl (GSV { x with item := v }) r := by
  show Instr.fill _ _ _ = Instr.fill _ _ _
  rw [fill_cons TGStep_pl (GSV x) (IV v) 1 1 2 r rfl rfl (by show _ ≤ 17; omega), TGStep_put_item]
theorem TGStep_fl_call (x : GStep) (v : Call) (r : List (Nat × Value)) : fillS TGStep_pl (GSV x) ((2, .agg (CV v)) :: r) = fillS TGStep_pl (GSV { x with call := v }) r := by
  show Instr.fill _ _ _ = Instr.fill _ _ _
  rw [fill_cons TGStep_pl (GSV x) (CV v) 2 3 14 r rfl rfl (by show _ ≤ 17; omega), TGStep_put_call]
end Go.Proofs.Ytnjgjhjilolanaa
/- Layer 18: a graph, and the document's, step by step. -/
namespace Go.Proofs.Ytnjgjhjilolanaa
open Go.RowKit Go.Shelf
set_option linter.unusedVariables false
set_option maxRecDepth 20000
attribute [local go_sem] Oper.semAt_some
attribute [local go_sem] row_alloc row_drew row_drewN row_ext row_setCell row_setRow size_ext setRow_alloc setRow_drew loadOf storeOf piece_lit loadVal_at storeVal_at allOne_lit buildOf buildRes_some
attribute [local go_sem high] cell_alloc frozen_alloc setCell_alloc cell_ext frozen_ext cell_setRow frozen_setRow
attribute [local go_sem ↓] TDeed_ld0 TDeed_st0 TDeed_fd0 TDeed_bd0
attribute [local go_sem] TDeed_size TDeed_one TDeed_piece TDeed_c0 TDeed_c1 TDeed_c2 TDeed_c3 TDeed_c4 TDeed_c5 TDeed_set_kind TDeed_set_key TDeed_set_val TDeed_set_ver TDeed_set_ses TDeed_set_num TDeed_ld TDeed_st TDeed_f_kind TDeed_f_key TDeed_f_val TDeed_f_ver TDeed_f_ses TDeed_f_num TDeed_bd TDeed_fl TDeed_fl_kind TDeed_fl_key TDeed_fl_val TDeed_fl_ver TDeed_fl_ses TDeed_fl_num
attribute [local go_sem high] TDeed_eql TDeed_neq
attribute [local go_sem ↓] index_deps0 load_deps0 store_deps0
attribute [local go_sem] DV_piece DV_size DV_one index_deps load_deps store_deps
attribute [local go_sem high] TDeps_eql TDeps_neq
attribute [local go_sem ↓] TCall_ld0 TCall_st0 TCall_fd0 TCall_bd0
attribute [local go_sem] TCall_size TCall_one TCall_piece TCall_c0 TCall_c1 TCall_c2 TCall_c3 TCall_c4 TCall_c5 TCall_c6 TCall_c7 TCall_c8 TCall_c9 TCall_c10 TCall_c11 TCall_c12 TCall_c13 TCall_p_deed TCall_put_deed TCall_p_deps TCall_put_deps TCall_set_seq TCall_ld TCall_st TCall_f_deed TCall_f_deps TCall_f_seq TCall_bd TCall_fl TCall_fl_deed TCall_fl_deps TCall_fl_seq
attribute [local go_sem high] TCall_eql TCall_neq
attribute [local go_sem ↓] TItem_ld0 TItem_st0 TItem_fd0 TItem_bd0
attribute [local go_sem] TItem_size TItem_one TItem_piece TItem_c0 TItem_c1 TItem_set_rep TItem_set_num TItem_ld TItem_st TItem_f_rep TItem_f_num TItem_bd TItem_fl TItem_fl_rep TItem_fl_num
attribute [local go_sem high] TItem_eql TItem_neq
attribute [local go_sem ↓] TGStep_ld0 TGStep_st0 TGStep_fd0 TGStep_bd0
attribute [local go_sem] TGStep_size TGStep_one TGStep_piece TGStep_c0 TGStep_c1 TGStep_c2 TGStep_c3 TGStep_c4 TGStep_c5 TGStep_c6 TGStep_c7 TGStep_c8 TGStep_c9 TGStep_c10 TGStep_c11 TGStep_c12 TGStep_c13 TGStep_c14 TGStep_c15 TGStep_c16 TGStep_set_kind TGStep_p_item TGStep_put_item TGStep_p_call TGStep_put_call TGStep_ld TGStep_st TGStep_f_kind TGStep_f_item TGStep_f_call TGStep_bd TGStep_fl TGStep_fl_kind TGStep_fl_item TGStep_fl_call
attribute [local go_sem high] TGStep_eql TGStep_neq
attribute [local go_sem ↓] itm_slice0
attribute [local go_sem] itm_slice1
theorem cll_slice0 (len : Nat) (parts : Array (Nat × Value)) : Instr.buildSlice 31 len parts = buildSem 31 len parts := rfl
theorem cll_slice1 (w : World) (x : Call) : (buildSem 31 1 #[(0, .agg (CV x))]).run Try.prog w = .ok (.slice (some ⟨w.heap.size, 0, none⟩) 1 1) (w.alloc (.cells (CV x) 47)) :=
  build_slice1 Try.underlying31 (z := .agg (CV noCall)) (n := 14) (by kernel_rfl) (by omega) w rfl (by omega)
theorem itm_sliceB (w : World) (x y : Item) : (buildSem 30 2 #[(0, .agg (IV x)), (1, .agg (IV y))]).run Try.prog w = .ok (.slice (some ⟨w.heap.size, 0, none⟩) 2 2) (w.alloc (.cells (IV x ++ IV y) 35)) :=
  build_slice2 Try.underlying30 (z := .agg (IV noItem)) (n := 2) (by kernel_rfl) (by omega) w rfl rfl (by omega)
theorem cll_i : ∃ i, Try.prog.info? 47 = some i ∧ i.zero = some (.agg (CV noCall)) ∧ i.size = 14 ∧ i.bytes = 128 := by
  have h : (Try.prog.info? 47).map (fun i => (i.zero, i.size, i.bytes)) = some (some (.agg (CV noCall)), 14, 128) := by kernel_rfl
  cases hi : Try.prog.info? 47 with
  | none => rw [hi] at h; simp at h
  | some i => rw [hi] at h; simp at h; exact ⟨i, rfl, h.1, h.2.1, h.2.2⟩
theorem cll_one (x : Call) : ∀ u ∈ (CV x).toList, u.oneCell' = true := by simp [CV, Value.oneCell']
theorem doc_build0 (p : Array (Nat × Value)) : Instr.build 33 p = buildS 33 p := rfl
theorem doc_build (w : World) : (buildS 33 #[]).run Try.prog w = .ok (.agg (docC (.slice none 0 0) (.slice none 0 0) (.slice none 0 0))) w := by kernel_rfl
attribute [local go_sem ↓] cll_slice0 doc_build0
attribute [local go_sem] cll_slice1 itm_sliceB doc_build
section
variable {w W : World} {R : List Res}
end
end Go.Proofs.Ytnjgjhjilolanaa
/- Layer 19: a run in memory; a new one; a call is committed. -/
namespace Go.Proofs.Ytnjgjhjilolanaa
open Go.RowKit Go.Shelf
open Go.Sort (pdq bitsLen PermIn SortedIn pdq_sorts)
set_option linter.unusedVariables false
set_option maxRecDepth 20000
attribute [local go_sem] row_alloc row_drew row_drewN row_ext row_setCell row_setRow size_ext setRow_alloc setRow_drew loadOf storeOf piece_lit loadVal_at storeVal_at allOne_lit buildOf buildRes_some
attribute [local go_sem high] cell_alloc frozen_alloc setCell_alloc cell_ext frozen_ext cell_setRow frozen_setRow
attribute [local go_sem ↓] TDeed_ld0 TDeed_st0 TDeed_fd0 TDeed_bd0
attribute [local go_sem] TDeed_size TDeed_one TDeed_piece TDeed_c0 TDeed_c1 TDeed_c2 TDeed_c3 TDeed_c4 TDeed_c5 TDeed_set_kind TDeed_set_key TDeed_set_val TDeed_set_ver TDeed_set_ses TDeed_set_num TDeed_ld TDeed_st TDeed_f_kind TDeed_f_key TDeed_f_val TDeed_f_ver TDeed_f_ses TDeed_f_num TDeed_bd TDeed_fl TDeed_fl_kind TDeed_fl_key TDeed_fl_val TDeed_fl_ver TDeed_fl_ses TDeed_fl_num
attribute [local go_sem high] TDeed_eql TDeed_neq
attribute [local go_sem ↓] index_deps0 load_deps0 store_deps0
attribute [local go_sem] DV_piece DV_size DV_one index_deps load_deps store_deps
attribute [local go_sem high] TDeps_eql TDeps_neq
attribute [local go_sem ↓] TCall_ld0 TCall_st0 TCall_fd0 TCall_bd0
attribute [local go_sem] TCall_size TCall_one TCall_piece TCall_c0 TCall_c1 TCall_c2 TCall_c3 TCall_c4 TCall_c5 TCall_c6 TCall_c7 TCall_c8 TCall_c9 TCall_c10 TCall_c11 TCall_c12 TCall_c13 TCall_p_deed TCall_put_deed TCall_p_deps TCall_put_deps TCall_set_seq TCall_ld TCall_st TCall_f_deed TCall_f_deps TCall_f_seq TCall_bd TCall_fl TCall_fl_deed TCall_fl_deps TCall_fl_seq
attribute [local go_sem high] TCall_eql TCall_neq
attribute [local go_sem ↓] TItem_ld0 TItem_st0 TItem_fd0 TItem_bd0
attribute [local go_sem] TItem_size TItem_one TItem_piece TItem_c0 TItem_c1 TItem_set_rep TItem_set_num TItem_ld TItem_st TItem_f_rep TItem_f_num TItem_bd TItem_fl TItem_fl_rep TItem_fl_num
attribute [local go_sem high] TItem_eql TItem_neq
attribute [local go_sem ↓] itm_slice0
attribute [local go_sem] itm_slice1
abbrev runC (b : Nat) (vd vo : Value) : Array Value := #[.pointer (some ⟨b, 0, none⟩), vd, vo]
/-- A run's things: its block, its graph's three, what was done, what is open. -/
def runL (r b gc gd : Nat) (vd vo : Value) (m : RowsMK) (q : RowsML) (D O : List Item) : List Res := [rowR r (runC b vd vo), rowR b #[.pointer (some ⟨gc, 0, none⟩), .pointer (some ⟨gd, 0, none⟩)], rowsIRK gc m, rowsIRL gd q, vecR 35 2 vd D.length (vl IV D), vecR 35 2 vo O.length (vl IV O)]
def runR (r : Nat) (m : RowsMK) (q : RowsML) (D O : List Item) : Res := exR fun (a : Nat × Nat × Nat × Value × Value) => packR (runL r a.1 a.2.1 a.2.2.1 a.2.2.2.1 a.2.2.2.2 m q D O)
/-- Items in order. -/
noncomputable def sortO (l : List Item) : List Item := (pdq cmpC.lt l.toArray 0 l.length (bitsLen l.length) true true).toList
theorem sortO_facts (l : List Item) : PermIn 0 l.length l.toArray (pdq cmpC.lt l.toArray 0 l.length (bitsLen l.length) true true) ∧ SortedIn cmpC.lt 0 l.length (pdq cmpC.lt l.toArray 0 l.length (bitsLen l.length) true true) :=
  pdq_sorts cmpC.lt cmpC_ok.swo l.toArray 0 l.length _ true true (Nat.zero_le _) (by simp) (.inl rfl)
theorem sortO_length (l : List Item) : (sortO l).length = l.length := by
  have := (sortO_facts l).1.1
  unfold sortO
  rw [Array.length_toList]
  simpa using this
theorem sortO_perm (l : List Item) : (sortO l).Perm l := by
  have h := (sortO_facts l).1.2.2
  have hs := (sortO_facts l).1.1
  unfold sortO
  generalize pdq cmpC.lt l.toArray 0 l.length (bitsLen l.length) true true = d at *
  simp at hs
  rw [← hs] at h
  simp at h
  rw [List.take_of_length_le (by omega)] at h
  exact h
section
variable {w W : World} {F : Nat → Prop} {R : List Res} {r b gc gd : Nat} {vd vo : Value} {m : RowsMK} {q : RowsML} {D O : List Item}
theorem Sts.runOpen (T : Sts w F W (runR r m q D O :: R)) : ∃ b gc gd vd vo, Sts w F W (rowR r (runC b vd vo) :: rowR b #[.pointer (some ⟨gc, 0, none⟩), .pointer (some ⟨gd, 0, none⟩)] :: rowsIRK gc m :: rowsIRL gd q :: vecR 35 2 vd D.length (vl IV D) :: vecR 35 2 vo O.length (vl IV O) :: R) := by
  obtain ⟨⟨b, gc, gd, vd, vo⟩, T1⟩ := Sts.open T
  exact ⟨b, gc, gd, vd, vo, T1.unpack⟩
theorem Sts.runShut (T : Sts w F W (rowR r (runC b vd vo) :: rowR b #[.pointer (some ⟨gc, 0, none⟩), .pointer (some ⟨gd, 0, none⟩)] :: rowsIRK gc m :: rowsIRL gd q :: vecR 35 2 vd D.length (vl IV D) :: vecR 35 2 vo O.length (vl IV O) :: R)) : Sts w F W (runR r m q D O :: R) :=
  Sts.close (b, gc, gd, vd, vo) (Sts.pack (L := runL r b gc gd vd vo m q D O) T)
set_option maxHeartbeats 4000000 in
theorem runNewT (n : Int) (hn : -9223372036854775808 ≤ n ∧ n ≤ 9223372036854775807) (T : Sts w F W R) :
    Calls Try.prog 27 #[.int .i64 n] W fun e W' => ∃ r, e = .returned (.pointer (some ⟨r, 0, none⟩)) ∧ Sts w F W' (runR r ⟨newN n, fun _ => []⟩ ⟨newN n, fun _ => []⟩ [] [] :: R) := by
  have HN := Lib.hid (grNewT n hn T)
  clear T
  go_enter Try.func27, Try.ntmps27
  go_wp2_with fail
  refine HN.out.mono ?_
  clear HN
  rintro e w1 ⟨b, gc, gd, rfl, T⟩
  have T : Sts w F w1 (rowR b #[.pointer (some ⟨gc, 0, none⟩), .pointer (some ⟨gd, 0, none⟩)] :: rowsIRK gc ⟨newN n, fun _ => []⟩ :: rowsIRL gd ⟨newN n, fun _ => []⟩ :: R) := T
  have T1 := (T.vecNil 35 2).vecNil 35 2
  have T2 := T1.new (runC b (.slice none 0 0) (.slice none 0 0)) 96
  have T3 := T2.ord [0, 3, 4, 5, 1, 2]
  have HT := Lib.hid (Sts.runShut (D := []) (O := []) T3)
  clear T T1 T2 T3
  go_wp2
  go_ret
  exact ⟨_, rfl, HT.out⟩
set_option maxHeartbeats 16000000 in
theorem runCommitT (hm : 0 ≤ m.n ∧ m.n ≤ 7) (hO : O.length < 511) (x : Item) (c : Call) (T : Sts w F W (runR r m q D O :: R)) :
    Calls Try.prog 28 #[.pointer (some ⟨r, 0, none⟩), .agg (IV x), .agg (CV c)] W fun e W' => e = .returned (.bool (canC m x c)) ∧ Sts w F W' (runR r (comC m x c) q D (if canC m x c = true then sortO (O ++ [x]) else O) :: R) := by
  obtain ⟨b, gc, gd, vd, vo, T⟩ := T.runOpen
  have T1 := ((T.new (IV x) 35).new (CV c) 47)
  simp only [World.size_alloc] at T1
  have HT := Lib.hid (T1.ord [2, 1, 0])
  have HCM := Lib.hid (grCommitD b gc gd m q hm x c)
  clear T T1
  obtain ⟨can, hcan⟩ : ∃ v, v = canC m x c := ⟨_, rfl⟩
  rw [← hcan] at HCM ⊢
  clear hcan
  go_enter Try.func28, Try.ntmps28
  go_upto_region 1 with fail
  generalize hw3 : World.alloc _ _ = w3 at *
  generalize W.heap.size + 1 = gk at *
  generalize W.heap.size = gx at *
  clear hw3
  have FS : ∀ W' R', Sts w F W' (rowR r (runC b vd vo) :: rowR gx (IV x) :: rowR gk (CV c) :: R') → (W'.cell? ⟨r, 0, none⟩ = some (.pointer (some ⟨b, 0, none⟩)) ∧ row? W' gx = some (IV x) ∧ row? W' gk = some (CV c)) := fun W' R' T => ⟨row_cell T.row 0, T.row1, T.row2⟩
  have HFS := Lib.hid FS
  have HT0 := Lib.hid HT.out.drew
  have S0 := HFS.out _ _ HT0.out
  clear HT FS
  refine wp_region_held_drew (S := fun W' => (W'.cell? ⟨r, 0, none⟩ = some (.pointer (some ⟨b, 0, none⟩)) ∧ row? W' gx = some (IV x) ∧ row? W' gk = some (CV c))) (by kernel_rfl) S0 (fun hHeld => ?_)
  clear S0
  refine tkH 0 rfl ?_
  simp only [Act.put, List.setIfInBounds_toArray, List.set_cons_zero, List.set_cons_succ]
  refine tkH 1 rfl ?_
  go_frame
  refine tkH 2 rfl ?_
  go_frame
  refine tkH 3 rfl ?_
  go_frame
  refine tkH 4 rfl ?_
  go_frame
  refine tkH 5 rfl ?_
  go_frame
  refine tkH 6 rfl ?_
  go_frame
  refine tkH 7 rfl ?_
  go_frame
  refine tkH 8 rfl ?_
  go_frame
  refine wpAnyH_ready (rs := [9]) (by kernel_rfl) (by simp) ?_
  refine AllReadyH.cons (o := _) rfl (fun K hK => ?_) AllReadyH.nil
  go_simp
  refine (Does.at (L := grL b gc gd m q) (R := rowR r (runC b vd vo) :: rowR gx (IV x) :: rowR gk (CV c) :: _) HCM.out (by have T0 := HT0.out.ord [3, 4, 5, 0, 1, 2]; exact T0)).mono ?_
  clear HCM
  rintro e5 w5 ⟨rfl, T⟩
  have T : Sts w F w5 (rowR b #[.pointer (some ⟨gc, 0, none⟩), .pointer (some ⟨gd, 0, none⟩)] :: rowsIRK gc (comC m x c) :: rowsIRL gd q :: rowR r (runC b vd vo) :: rowR gx (IV x) :: rowR gk (CV c) :: vecR 35 2 vd D.length (vl IV D) :: vecR 35 2 vo O.length (vl IV O) :: R) := T
  have HT := Lib.hid (T.ord [3, 4, 5, 0, 1, 2])
  clear T HT0
  refine hK.out _ _ (HFS.out _ _ HT.out) (fun hHeld => ?_)
  clear hK K HFS
  refine tkH 10 rfl ?_
  simp only [Act.put, List.setIfInBounds_toArray, List.set_cons_zero, List.set_cons_succ]
  refine tkH 11 rfl ?_
  go_frame
  refine wpAnyH_done (by kernel_rfl) ?_ _
  try simp only [Exit.then]
  cases can with
  | false =>
    go_wp2
    go_ret
    have T9 := (HT.out.ord [1, 2, 0]).drop.drop
    exact ⟨rfl, T9.runShut⟩
  | true =>
    have FS : ∀ W' X R', Sts w F W' (rowR r X :: rowR gx (IV x) :: R') → X[2]? = some vo → (W'.cell? ⟨r, 2, none⟩ = some vo ∧ row? W' gx = some (IV x)) := fun W' X R' T h1 => ⟨by rw [row_cell T.row 2, h1], T.row1⟩
    have HFS := Lib.hid FS
    have HT0 := Lib.hid HT.out.drew
    have S0 := HFS.out _ _ _ HT0.out rfl
    have HM := Lib.hid (show ∀ W' : World, (W'.cell? ⟨r, 2, none⟩ = some vo ∧ row? W' gx = some (IV x)) → True from fun _ _ => trivial)
    clear HT FS
    go_upto_region 3 with fail
    refine wp_region_stage (fun W' => (W'.cell? ⟨r, 2, none⟩ = some vo ∧ row? W' gx = some (IV x))) (fun _ => True) 10 (by kernel_rfl) S0 (fun hHeld => ?_)
    clear S0
    refine tk0 0 rfl ?_
    simp only [Act.put, List.setIfInBounds_toArray, List.set_cons_zero, List.set_cons_succ]
    refine tk0 1 rfl ?_
    go_frame
    refine tk0 2 rfl ?_
    go_frame
    refine tk0 3 rfl ?_
    go_frame
    refine tk0 4 rfl ?_
    go_frame
    refine tk0 5 rfl ?_
    go_frame
    generalize hw7 : w5.drew = w7 at *
    clear hw7
    refine wpAnyL_ready (rs := [6]) (by kernel_rfl) (by simp) ?_
    refine AllReadyL.cons0 (o := _) rfl (by kernel_rfl) (fun K hK => ?_) AllReadyL.nil
    have Ta := HT0.out.new (IV x) 35
    have HTa := Lib.hid Ta; clear Ta HT0
    go_simp
    refine hK.out _ _ ?_ (fun hHeld => ?_)
    · exact HFS.out _ _ _ HTa.out.drop rfl
    clear hK K
    refine wpAnyL_ready (rs := [7]) (by kernel_rfl) (by simp) ?_
    refine AllReadyL.cons0 (o := _) rfl (by kernel_rfl) (fun K hK => ?_) AllReadyL.nil
    have Tb := HTa.out.ord [8, 0, 1, 2, 3, 4, 5, 6, 7]
    clear HTa
    obtain ⟨i0, hi0', hz0, hz1, hz2⟩ := itm_i
    have HOK := Lib.hid (itm_one x)
    refine step_append_vec (by rfl) _ _ _ (by rfl) 35 i0 _ 2 16 Try.underlying30 hi0' hz0 hz1 hz2 rfl (by omega) vo O.length (vl IV O) (by rfl) Tb ⟨w7.heap.size, 0, none⟩ 1 1 (IV x).toList (by rfl) (by rfl) (news_row Tb.row1) HOK.out (by omega) (by unfold maxLen; omega) (by omega) ?_
    intro gv' cap1 w12 T1
    have T1 := (T1.ord [2, 3, 4, 5, 6, 7, 8, 0, 1])
    refine hK.out _ _ ?_ (fun hHeld => ?_)
    · exact HFS.out _ _ _ T1 rfl
    clear hK K Tb HOK
    refine tk1 8 HM.out rfl ?_
    simp only [Act.put, List.getElem_toArray, List.getElem_cons_succ, List.getElem_cons_zero, List.setIfInBounds_toArray, List.set_cons_zero, List.set_cons_succ]
    refine tk0 9 rfl ?_
    simp only [Act.put, List.setIfInBounds_toArray, List.set_cons_zero, List.set_cons_succ]
    have hf := row_frozen T1.row 2
    have T2 := T1.setCell 2 (.slice (some ⟨gv', 0, none⟩) (O.length + 1) cap1)
    have HT2 := Lib.hid T2; clear T1 T2
    refine wpAnyL_ready (rs := [10]) (by kernel_rfl) (by simp) ?_
    refine AllReadyL.cons1 (o := _) rfl (by kernel_rfl) (fun K hK => ?_) AllReadyL.nil
    go_simp
    refine hK.out _ _ trivial (fun hHeld => ?_)
    clear hK K hf HFS HM hi0' hz0 hz1 hz2
    refine wpAnyL_done (by kernel_rfl) ?_ _
    try simp only [Exit.then]
    generalize w12.setCell _ _ = w13 at *
    have T3 : Sts w F w13 (rowR r (runC b vd (.slice (some ⟨gv', 0, none⟩) (O.length + 1) cap1)) :: rowR gx (IV x) :: rowR gk (CV c) :: rowR b #[.pointer (some ⟨gc, 0, none⟩), .pointer (some ⟨gd, 0, none⟩)] :: rowsIRK gc (comC m x c) :: rowsIRL gd q :: vecR 35 2 vd D.length (vl IV D) :: vecR 35 2 (.slice (some ⟨gv', 0, none⟩) (O.length + 1) cap1) (O.length + 1) (vl IV O ++ (IV x).toList) :: rowR w7.heap.size (IV x) :: R) := HT2.out
    obtain ⟨n, hn⟩ : ∃ n, n = O.length + 1 := ⟨_, rfl⟩
    obtain ⟨d, hd, hds⟩ : ∃ d : Array Item, d.toList = O ++ [x] ∧ d.size = n := ⟨(O ++ [x]).toArray, rfl, by rw [hn]; simp⟩
    rw [← hn, show vl IV O ++ (IV x).toList = vl IV (O ++ [x]) from (vl_snoc IV O x).symm] at T3
    have T4 := (T3.ord [7, 0, 3, 4, 5, 6, 1, 2, 8])
    have T5 : Sts w F w13 (itR gv' cap1 d :: (cmpC.L ++ (rowR r (runC b vd (.slice (some ⟨gv', 0, none⟩) n cap1)) :: rowR b #[.pointer (some ⟨gc, 0, none⟩), .pointer (some ⟨gd, 0, none⟩)] :: rowsIRK gc (comC m x c) :: rowsIRL gd q :: vecR 35 2 vd D.length (vl IV D) :: rowR gx (IV x) :: rowR gk (CV c) :: rowR w7.heap.size (IV x) :: R))) := by
      unfold itR
      rw [hd, hds]
      exact T4
    have HS := Lib.hid (sorts511C w w13 F _ gv' cap1 cmpC d n hds (by omega) cmpC_ok T5)
    have hr := T5.row1; have hlt := row_lt hr; have c2 := row_cell hr 2
    have HD := Lib.hid hd; have HDS := Lib.hid hds; have HNN := Lib.hid hn
    clear HT2 T3 T4 T5 hd hds hn
    go_wp2_with fail
    refine HS.out.mono ?_
    clear HS hr hlt c2
    rintro e8 w8 ⟨rfl, T⟩
    have hpd : pdq cmpC.lt d 0 n (bitsLen n) true true = (sortO (O ++ [x])).toArray := by
      unfold sortO
      rw [← HD.out, ← HDS.out]
      simp
    rw [hpd] at T
    have hlen : (sortO (O ++ [x])).length = n := by rw [sortO_length]; simp [HNN.out]
    have T2 : Sts w F w8 (vecR 35 2 (.slice (some ⟨gv', 0, none⟩) n cap1) (sortO (O ++ [x])).length (vl IV (sortO (O ++ [x]))) :: rowR r (runC b vd (.slice (some ⟨gv', 0, none⟩) n cap1)) :: rowR b #[.pointer (some ⟨gc, 0, none⟩), .pointer (some ⟨gd, 0, none⟩)] :: rowsIRK gc (comC m x c) :: rowsIRL gd q :: vecR 35 2 vd D.length (vl IV D) :: rowR gx (IV x) :: rowR gk (CV c) :: rowR w7.heap.size (IV x) :: R) := by
      have T3 : Sts w F w8 (vecR 35 2 (.slice (some ⟨gv', 0, none⟩) (sortO (O ++ [x])).toArray.size cap1) (sortO (O ++ [x])).toArray.size (vl IV (sortO (O ++ [x]))) :: _) := T
      rw [List.size_toArray, hlen] at T3
      rw [hlen]
      exact T3
    have T3 := (T2.ord [6, 7, 8, 1, 2, 3, 4, 5, 0]).drop.drop.drop
    have HT3 := Lib.hid T3.runShut
    clear T T2 T3 hpd hlen
    go_wp2
    go_ret
    exact ⟨rfl, HT3.out⟩
end
end Go.Proofs.Ytnjgjhjilolanaa
