/- Several texts in one. -/
import Derived.Test.YtpganpiidgkofaaX35
import Derived.Test.YtpganpiidgkofaaX6
import Derived.Test.YtpganpiidgkofaaX29
import Derived.Test.YtpganpiidgkofaaX30
import Derived.Deep.DeepCutAuto
import Derived.Deep.RegionHeld3
/- Layer 24: one finding more, the order and the calls left where they lie; rows of a slice of the call's own. -/
namespace Go.Proofs.Ytpganpiidgkofaa
open Go.RowKit
set_option linter.unusedVariables false
attribute [local go_sem] row_alloc row_drew row_drewN row_ext row_setCell row_setRow size_ext setRow_alloc setRow_drew loadOf storeOf piece_lit loadVal_at storeVal_at allOne_lit buildOf buildRes_some
attribute [local go_sem high] cell_alloc frozen_alloc setCell_alloc cell_ext frozen_ext cell_setRow frozen_setRow
attribute [local go_sem ↓] TDeed_ld0 TDeed_st0 TDeed_fd0 TDeed_bd0
attribute [local go_sem] TDeed_size TDeed_one TDeed_piece TDeed_c0 TDeed_c1 TDeed_c2 TDeed_c3 TDeed_c4 TDeed_c5 TDeed_set_kind TDeed_set_key TDeed_set_val TDeed_set_ver TDeed_set_ses TDeed_set_num TDeed_ld TDeed_st TDeed_f_kind TDeed_f_key TDeed_f_val TDeed_f_ver TDeed_f_ses TDeed_f_num TDeed_bd TDeed_fl TDeed_fl_kind TDeed_fl_key TDeed_fl_val TDeed_fl_ver TDeed_fl_ses TDeed_fl_num
attribute [local go_sem high] TDeed_eql TDeed_neq
attribute [local go_sem ↓] index_deps0 load_deps0 store_deps0
attribute [local go_sem] DV_piece DV_size DV_one index_deps load_deps store_deps
attribute [local go_sem high] TDeps_eql TDeps_neq
attribute [local go_sem ↓] TCall_ld0 TCall_st0 TCall_fd0 TCall_bd0
attribute [local go_sem] TCall_size TCall_one TCall_piece TCall_c0 TCall_c1 TCall_c2 TCall_c3 TCall_c4 TCall_c5 TCall_c6 TCall_c7 TCall_c8 TCall_c9 TCall_c10 TCall_c11 TCall_c12 TCall_c13 TCall_p_deed TCall_put_deed TCall_p_deps TCall_put_deps TCall_set_seq TCall_ld TCall_st TCall_f_deed TCall_f_deps TCall_f_seq TCall_bd TCall_fl TCall_fl_deed TCall_fl_deps TCall_fl_seq
attribute [local go_sem high] TCall_eql TCall_neq
attribute [local go_sem ↓] TItem_ld0 TItem_st0 TItem_fd0 TItem_bd0
attribute [local go_sem] TItem_size TItem_one TItem_piece TItem_c0 TItem_c1 TItem_set_rep TItem_set_num TItem_ld TItem_st TItem_f_rep TItem_f_num TItem_bd TItem_fl TItem_fl_rep TItem_fl_num
attribute [local go_sem high] TItem_eql TItem_neq
attribute [local go_sem ↓] TFinding_ld0 TFinding_st0 TFinding_fd0 TFinding_bd0
attribute [local go_sem] TFinding_size TFinding_one TFinding_piece TFinding_c0 TFinding_c1 TFinding_c2 TFinding_c3 TFinding_set_kind TFinding_set_rep TFinding_p_item TFinding_put_item TFinding_ld TFinding_st TFinding_f_kind TFinding_f_rep TFinding_f_item TFinding_bd TFinding_fl TFinding_fl_kind TFinding_fl_rep TFinding_fl_item
attribute [local go_sem high] TFinding_eql TFinding_neq
attribute [local go_sem] cellsR_0 cellsR_1 cellsR_2 cellsR_3
attribute [local go_sem ↓] find_slice0
attribute [local go_sem] find_slice1
/-- The report's head: its block and its list. -/
def headR (r : Nat) (s : Rep) (v2 : Value) (m : Nat) : Res := exR fun v1 : Value => starR (rowR r (cellsR s v1 v2 m)) (listR s v1)
section
variable {w W : World} {F : Nat → Prop} {R : List Res} {r : Nat} {s : Rep}
theorem Sts.headOpen (T : Sts w F W (repR r s :: R)) : ∃ v2 m, Sts w F W (headR r s v2 m :: orderR s v2 :: callsR s m :: R) := by
  obtain ⟨v1, v2, m, T⟩ := T.repOpen
  exact ⟨v2, m, Sts.close v1 T.join⟩
theorem Sts.headShut {v2 : Value} {m : Nat} (T : Sts w F W (headR r s v2 m :: orderR s v2 :: callsR s m :: R)) : Sts w F W (repR r s :: R) := by
  obtain ⟨v1, T⟩ := T.open
  exact T.split.repShut
end
set_option maxHeartbeats 4000000 in
theorem tellH (r : Nat) (s : Rep) (v2 : Value) (m : Nat) (k rep : Int) (x : Item) (hn : s.list.length < 1000000) :
    Does Try.prog 120 #[.pointer (some ⟨r, 0, none⟩), .int .i64 k, .int .i64 rep, .agg (IV x)] [headR r s v2 m] (.tuple #[]) [headR r (tellM s k rep x) v2 m] := by
  intro W G hS
  obtain ⟨v1, T⟩ := (Sts.start hS).open
  have T := T.split.swap
  have T := T.swap
  clear hS
  have T := (T.new (IV x) 42).swap
  -- rows: report, item, list, order, calls
  obtain ⟨i0, hi, hz0, hz1, hz2⟩ := find_i
  have hS0 : SR W.heap.size (IV x) (W.alloc (.cells (IV x) 42)) := T.row1
  have hq2 : ∀ W0, SR W.heap.size (IV x) W0 → row? W0 W.heap.size = some (IV x) := fun W0 h => h
  have hcr := row_cell T.row
  have hlr := row_lt T.row
  have hlr0 : r < W.heap.size + 1 := by have := hlr; rw [World.size_alloc] at this; exact this
  have hlr2 : ¬ r = W.heap.size + 1 := by omega
  have hner : W.heap.size ≠ r := fun e => T.ne e.symm
  have hT1 : Sts W G ((W.alloc (.cells (IV x) 42)).alloc (.cells (FV ⟨k, rep, x⟩) 137)).drew [vecR 137 4 v1 s.list.length (vl FV s.list), rowR (W.heap.size + 1) (FV ⟨k, rep, x⟩), rowR r (cellsR s v1 v2 m), rowR W.heap.size (IV x)] := by
    have := (T.new (FV ⟨k, rep, x⟩) 137).rot3.drew
    simp only [World.size_alloc] at this
    exact this
  have hnews : ∀ j u, (FV ⟨k, rep, x⟩).toList[j]? = some u → ((W.alloc (.cells (IV x) 42)).alloc (.cells (FV ⟨k, rep, x⟩) 137)).drew.cell? ((⟨W.heap.size + 1, 0, none⟩ : Addr).add j) = some u := by
    intro j u hu
    have hadd : (⟨W.heap.size + 1, 0, none⟩ : Addr).add j = ⟨W.heap.size + 1, j, none⟩ := by unfold Addr.add; split <;> simp_all
    rw [hadd, row_cell hT1.row1]; simpa using hu
  have h1 : ∀ u ∈ (FV ⟨k, rep, x⟩).toList, u.oneCell' = true := by simp [FV, Value.oneCell']
  have h63 : s.list.length + 1 ≤ maxLen := by unfold maxLen; omega
  have hby : (s.list.length + 1) * 32 ≤ 140737488355328 := by omega
  have HT := Lib.hid hT1; clear hT1 T
  go_enter Try.func120, Try.ntmps120
  go_wp2_with fail
  go_region_law
    ((refine step_append_vec (by rfl) _ _ _ (by rfl) 137 i0 _ 4 32 Try.underlying133 hi hz0 hz1 hz2 rfl (by omega) v1 s.list.length (vl FV s.list) (by rfl) HT.out ⟨W.heap.size + 1, 0, none⟩ 1 1 (FV ⟨k, rep, x⟩).toList (by rfl) (by rfl) hnews h1 (by omega) h63 hby ?_; intro g cap w1 T1; have hc1 := row_cell T1.row2; have hf1 := row_frozen T1.row2; have hl1 := row_lt T1.row2))
  all_goals
    have T2 := (T1.swap.drop.swap).setCell 1 (.slice (some ⟨g, 0, none⟩) (s.list.length + 1) cap)
    rw [cellsR_set1] at T2
    have T3 := T2.rot2.drop
    have HT3 := Lib.hid T3; clear T1 T2 T3
    go_end0
    refine ⟨rfl, Sts.close (.slice (some ⟨g, 0, none⟩) (s.list.length + 1) cap) (Sts.join ?_)⟩
    unfold listR
    have e1 : (tellM s k rep x).list = s.list ++ [⟨k, rep, x⟩] := rfl
    rw [e1, vl_snoc, List.length_append]
    exact HT3.out
end Go.Proofs.Ytpganpiidgkofaa
/- Layer 24: of all that clash one waits for the other one. -/
namespace Go.Proofs.Ytpganpiidgkofaa
open Go.RowKit
set_option linter.unusedVariables false
attribute [local go_sem] row_alloc row_drew row_drewN row_ext row_setCell row_setRow size_ext setRow_alloc setRow_drew loadOf storeOf piece_lit loadVal_at storeVal_at allOne_lit buildOf buildRes_some
attribute [local go_sem high] cell_alloc frozen_alloc setCell_alloc cell_ext frozen_ext cell_setRow frozen_setRow
attribute [local go_sem ↓] TDeed_ld0 TDeed_st0 TDeed_fd0 TDeed_bd0
attribute [local go_sem] TDeed_size TDeed_one TDeed_piece TDeed_c0 TDeed_c1 TDeed_c2 TDeed_c3 TDeed_c4 TDeed_c5 TDeed_set_kind TDeed_set_key TDeed_set_val TDeed_set_ver TDeed_set_ses TDeed_set_num TDeed_ld TDeed_st TDeed_f_kind TDeed_f_key TDeed_f_val TDeed_f_ver TDeed_f_ses TDeed_f_num TDeed_bd TDeed_fl TDeed_fl_kind TDeed_fl_key TDeed_fl_val TDeed_fl_ver TDeed_fl_ses TDeed_fl_num
attribute [local go_sem high] TDeed_eql TDeed_neq
attribute [local go_sem ↓] index_deps0 load_deps0 store_deps0
attribute [local go_sem] DV_piece DV_size DV_one index_deps load_deps store_deps
attribute [local go_sem high] TDeps_eql TDeps_neq
attribute [local go_sem ↓] TCall_ld0 TCall_st0 TCall_fd0 TCall_bd0
attribute [local go_sem] TCall_size TCall_one TCall_piece TCall_c0 TCall_c1 TCall_c2 TCall_c3 TCall_c4 TCall_c5 TCall_c6 TCall_c7 TCall_c8 TCall_c9 TCall_c10 TCall_c11 TCall_c12 TCall_c13 TCall_p_deed TCall_put_deed TCall_p_deps TCall_put_deps TCall_set_seq TCall_ld TCall_st TCall_f_deed TCall_f_deps TCall_f_seq TCall_bd TCall_fl TCall_fl_deed TCall_fl_deps TCall_fl_seq
attribute [local go_sem high] TCall_eql TCall_neq
attribute [local go_sem ↓] TItem_ld0 TItem_st0 TItem_fd0 TItem_bd0
attribute [local go_sem] TItem_size TItem_one TItem_piece TItem_c0 TItem_c1 TItem_set_rep TItem_set_num TItem_ld TItem_st TItem_f_rep TItem_f_num TItem_bd TItem_fl TItem_fl_rep TItem_fl_num
attribute [local go_sem high] TItem_eql TItem_neq
attribute [local go_sem ↓] TFinding_ld0 TFinding_st0 TFinding_fd0 TFinding_bd0
attribute [local go_sem] TFinding_size TFinding_one TFinding_piece TFinding_c0 TFinding_c1 TFinding_c2 TFinding_c3 TFinding_set_kind TFinding_set_rep TFinding_p_item TFinding_put_item TFinding_ld TFinding_st TFinding_f_kind TFinding_f_rep TFinding_f_item TFinding_bd TFinding_fl TFinding_fl_kind TFinding_fl_rep TFinding_fl_item
attribute [local go_sem high] TFinding_eql TFinding_neq
attribute [local go_sem] cellsR_0 cellsR_1 cellsR_2 cellsR_3
def callOf (f : Item → Option Call) (x : Item) : Call := match f x with | none => noCall | some c => c
def tieB (f : Item → Option Call) (x y : Item) : Bool := clashB (callOf f x).deed (callOf f y).deed && !hasD (callOf f x).deps y.rep y.num && !hasD (callOf f y).deps x.rep x.num
def tieS (f : Item → Option Call) (x : Item) (s : Rep) (y : Item) : Rep := if tieB f x y = true then tellM s 5 y.rep y else s
def tieRow (f : Item → Option Call) (o : List Item) (s : Rep) (k : Nat) : Rep := match o[k]? with | none => s | some x => (o.take k).foldl (tieS f x) s
def sameRr (a b : Rep) : Prop := a.n = b.n ∧ a.order = b.order ∧ a.calls = b.calls ∧ a.cnt = b.cnt
def tiesM (s : Rep) : Rep := (List.range s.order.length).foldl (tieRow s.calls s.order) s
theorem lookCall (s : Rep) (m : Nat) {w W : World} {F : Nat → Prop} {R : List Res} (T : Sts w F W (callsR s m :: R)) (x : Item) (hx : InI x) :
    (Instr.lookup 170 (.map (some m)) (.agg (IV x)) false).run Try.prog W = .ok (.agg (CV (callOf s.calls x))) W := by
  have h := T.map.look1 itemOk Try.underlying170 zeroC x hx
  rw [h]
  unfold callOf
  cases s.calls x <;> rfl
theorem tie_len (f : Item → Option Call) (x : Item) : ∀ (l : List Item) (s : Rep), (l.foldl (tieS f x) s).list.length ≤ s.list.length + l.length
  | [], s => by simp
  | y :: l, s => by
    rw [List.foldl_cons]
    refine Nat.le_trans (tie_len f x l _) ?_
    unfold tieS
    split
    · show (s.list ++ _).length + _ ≤ _
      rw [List.length_append]; simp; omega
    · simp
theorem call_key {f : Item → Option Call} (hk : ∀ x c, f x = some c → c.deed.key.size ≤ 1000) (x : Item) : (callOf f x).deed.key.size ≤ maxLen := by
  unfold callOf
  split
  · unfold maxLen; decide
  · rename_i c hc
    have := hk x c hc
    unfold maxLen; omega
set_option maxHeartbeats 8000000 in
set_option maxRecDepth 10000 in
theorem tiesT (r : Nat) (s : Rep) (w W : World) (R : List Res) (hs : ∀ x ∈ s.order, InI x) (hk : ∀ x c, s.calls x = some c → c.deed.key.size ≤ 1000) (hm : s.list.length ≤ 1000) (ho : s.order.length ≤ 400)
    (T : Sts w (fun _ => False) W (repR r s :: R)) :
    Calls Try.prog 104 #[.pointer (some ⟨r, 0, none⟩)] W fun e W' => e = .returned (.tuple #[]) ∧ Sts w (fun _ => False) W' (repR r (tiesM s) :: R) := by
  obtain ⟨v2, m, T⟩ := T.headOpen
  obtain ⟨A, c, rfl, -, hlc, hA⟩ := vec_rows TItem_size T.drop (by omega) (by omega)
  obtain ⟨v1, TO⟩ := T.open
  have TO := TO.split
  have hcr := row_cell TO.row; have hlr := row_lt TO.row
  go_enter Try.func104, Try.ntmps104
  go_wp2_with fail
  clear TO hcr hlr
  go_loopw [13] (fun i wr => ∃ (k : Nat) (s0 : Rep), k ≤ s.order.length ∧ i = .int .i64 k ∧ s0 = (List.range k).foldl (tieRow s.calls s.order) s ∧ sameRr s0 s ∧ s0.list.length ≤ 1000 + k * 400 ∧ Sts w (fun _ => False) wr (headR r s0 (.slice A s.order.length c) m :: orderR s (.slice A s.order.length c) :: callsR s m :: R)) (fun i _ => s.order.length - (intOf i).toNat)
  case atStart => exact ⟨0, s, by omega, rfl, rfl, ⟨rfl, rfl, rfl, rfl⟩, by omega, T⟩
  case round =>
    clear T
    obtain ⟨k, s0, hk0, rfl, hq, hsn, hm0, T⟩ := hrel
    by_cases hkl : k < s.order.length
    · obtain ⟨A', c', hv, hrow, -, -⟩ := vec_rows TItem_size T.drop (by omega) (by omega)
      obtain ⟨rfl, -, rfl⟩ := Value.slice.inj hv
      cases A with
      | none => have := hrow.nil rfl; rw [this] at hkl; simp at hkl
      | some a =>
        obtain ⟨g, rfl⟩ := hA a rfl
        have hld := hrow.load (P := Try.prog) (T := 42) TItem_size TItem_und rfl (by kernel_rfl) (Below.refl _ _) rfl hkl
        have hi := hs s.order[k] (List.getElem_mem hkl)
        rw [add_none, Nat.zero_add] at hld
        have hox : s.order[k]? = some s.order[k] := List.getElem?_eq_getElem hkl
        generalize s.order[k] = x at *
        have T := (T.new (IV x) 42).swap
        obtain ⟨v1', TO⟩ := T.open
        have TO := TO.split
        have hcr := row_cell TO.row; have hlr := row_lt TO.row
        generalize hp : wr.heap.size = p at *
        go_upto_region 4 with fail
        clear TO hcr hlr hld
        go_loopw [25] (fun i wi => ∃ (j : Nat) (s1 : Rep), j ≤ k ∧ i = .int .i64 j ∧ s1 = (s.order.take j).foldl (tieS s.calls x) s0 ∧ sameRr s1 s ∧ s1.list.length ≤ 1000 + k * 400 + j ∧ Sts w (fun _ => False) wi (headR r s1 (.slice (some ⟨g, 0, none⟩) s.order.length c) m :: rowR p (IV x) :: orderR s (.slice (some ⟨g, 0, none⟩) s.order.length c) :: callsR s m :: R)) (fun i _ => k - (intOf i).toNat)
        case atStart => exact ⟨0, s0, by omega, rfl, rfl, hsn, by omega, T⟩
        case round =>
          clear T
          obtain ⟨j, s1, hj0, rfl, hq1, hsn1, hm1, T⟩ := hrel
          by_cases hjk : j < k
          · have hjl : j < s.order.length := by omega
            obtain ⟨A', c', hv, hrow, -, -⟩ := vec_rows TItem_size T.rot2 (by omega) (by omega)
            obtain ⟨rfl, -, rfl⟩ := Value.slice.inj hv
            have hld := hrow.load (P := Try.prog) (T := 42) TItem_size TItem_und rfl (by kernel_rfl) (Below.refl _ _) rfl hjl
            have hiy := hs s.order[j] (List.getElem_mem hjl)
            rw [add_none, Nat.zero_add] at hld
            have hoy : s.order[j]? = some s.order[j] := List.getElem?_eq_getElem hjl
            generalize s.order[j] = y at *
            have T := (T.new (IV y) 42).swap
            -- rows: head, y, x, order, calls
            generalize hpy : wr.heap.size = py at *
            go_upto_region 6 with fail
            have HQ1 := Lib.hid hq1
            clear hrow hld hq1 hq
            generalize wr.alloc _ = w5 at *
            obtain ⟨v1', TO⟩ := T.open
            have TO := TO.split
            have hcr := row_cell TO.row; have hlr := row_lt TO.row
            have hrx := T.row2; have hry := T.row1; have hlx := row_lt hrx; have hly := row_lt hry
            have hka : (callOf s.calls x).deed.key.size ≤ maxLen := call_key hk x
            have hkb : (callOf s.calls y).deed.key.size ≤ maxLen := call_key hk y
            have ht : tieB s.calls x y = (clashB (callOf s.calls x).deed (callOf s.calls y).deed && !hasD (callOf s.calls x).deps y.rep y.num && !hasD (callOf s.calls y).deps x.rep x.num) := rfl
            have cc := clash_any _ _ hka hkb
            have c1 := has_any (callOf s.calls x).deps y.rep y.num
            have c2 := has_any (callOf s.calls y).deps x.rep x.num
            have TA := ((T.new (CV (callOf s.calls x)) 37).new (CV (callOf s.calls y)) 37).swap.drew
            have TB := ((T.new (CV (callOf s.calls y)) 37).new (CV (callOf s.calls x)) 37).drew
            simp only [World.size_alloc] at TA TB
            have TA := Lib.hid TA; have TB := Lib.hid TB; have HC := Lib.hid cc; have H1 := Lib.hid c1; have H2 := Lib.hid c2; have HT := Lib.hid ht
            clear cc c1 c2 ht hka hkb
            go_cut [5, 6, 7] (fun u5 u6 u7 wx => u5 = .pointer (some ⟨py, 0, none⟩) ∧ ∃ p6 p7, u6 = .pointer (some ⟨p6, 0, none⟩) ∧ u7 = .pointer (some ⟨p7, 0, none⟩) ∧ Sts w (fun _ => False) wx (rowR p6 (CV (callOf s.calls x)) :: rowR p7 (CV (callOf s.calls y)) :: headR r s1 (.slice (some ⟨g, 0, none⟩) s.order.length c) m :: rowR py (IV y) :: rowR p (IV x) :: orderR s (.slice (some ⟨g, 0, none⟩) s.order.length c) :: callsR s m :: R))
            case first =>
              have lk : ∀ W', Sts w (fun _ => False) W' (callsR s m :: R) → ∀ z, InI z → (Instr.lookup 170 (.map (some m)) (.agg (IV z)) false).run Try.prog W' = .ok (.agg (CV (callOf s.calls z))) W' := fun W' T z hz => lookCall s m T z hz
              have TC := T.drop.drop.drop.drop
              obtain ⟨L0, hL0⟩ : ∃ L0 : Array Value, L0 = #[.int .i64 0, .string { data := #[] }, .string { data := #[] }, .int .i64 0, .int .i64 0, .int .i64 0, .int .i64 0, .int .i64 0, .int .i64 0, .int .i64 0, .int .i64 0, .int .i64 0, .int .i64 0, .int .i64 0] := ⟨_, rfl⟩
              have l1 := lk _ TC.drew x hi; have l2 := lk _ TC.drew y hiy
              have lk1 := fun C z hz => lk _ (TC.keep (.cells C 37)).drew z hz
              have lk2 := fun C D z hz => lk _ ((TC.keep (.cells C 37)).keep (.cells D 37)).drew z hz
              have hCa : ∃ Ca, Ca = CV (callOf s.calls x) := ⟨_, rfl⟩
              obtain ⟨Ca, hCa⟩ := hCa
              obtain ⟨Cb, hCb⟩ : ∃ Cb, Cb = CV (callOf s.calls y) := ⟨_, rfl⟩
              have k0 := lk1 L0 x hi
              have k1 := lk1 Cb x hi
              have k2 := lk2 L0 L0 x hi
              have k3 := lk2 L0 Cb x hi
              have k4 := lk2 Cb L0 x hi
              have k5 := lk1 L0 y hiy
              have k6 := lk1 Ca y hiy
              have k7 := lk2 L0 L0 y hiy
              have k8 := lk2 L0 Ca y hiy
              have k9 := lk2 Ca L0 y hiy
              subst hCa; subst hCb
              clear lk1 lk2
              subst hL0
              clear lk TC TO
              generalize callOf s.calls x = a at *
              generalize callOf s.calls y = b at *
              go_region
              all_goals
                simp only [Exit.then]
                go_step
                go_meet
                case rel => first | exact ⟨rfl, _, _, rfl, rfl, TA.out⟩ | exact ⟨rfl, _, _, rfl, rfl, TB.out⟩
            case rest =>
              obtain ⟨rfl, p6, p7, rfl, rfl, TN⟩ := hcut
              generalize callOf s.calls x = a at *
              generalize callOf s.calls y = b at *
              clear TA TB
              have T := TN; clear TN
              have h6 := T.row; have h7 := T.row1; have h8 := T.row3; have h9 := T.row4; have g6 := row_cell h6; have g7 := row_cell h7; have g8 := row_cell h8
              go_wp2_with fail
              refine (Ans.at HC.out T).mono ?_; clear T h6 h7 h8 h9 g6 g7 g8 HC; rintro e2 w7 ⟨rfl, T⟩
              have h6 := T.row; have h7 := T.row1; have h8 := T.row3; have h9 := T.row4; have g6 := row_cell h6; have g7 := row_cell h7; have g8 := row_cell h8
              cases hcb : clashB a.deed b.deed
              case false =>
                have HQ2 : tieS s.calls x s1 y = s1 := by unfold tieS; rw [HT.out]; simp [hcb]
                have HQ3 : (s.order.take (j + 1)).foldl (tieS s.calls x) s0 = s1 := by rw [List.take_add_one, hoy, List.foldl_append]; show tieS s.calls x _ y = _; rw [← HQ1.out]; exact HQ2
                have HQ := Lib.hid HQ3; clear HQ2 HQ3
                go_wp2
                go_roundw
                case rel => exact ⟨j + 1, s1, by omega, by go_num, HQ.out.symm, hsn1, by omega, T.drop.drop.swap.drop⟩
                case measure => simp [intOf]; omega
              case true =>
                go_wp2_with fail
                refine (Ans.at H1.out T).mono ?_; clear T h6 h7 h8 h9 g6 g7 g8 H1; rintro e2 w7 ⟨rfl, T⟩
                have h6 := T.row; have h7 := T.row1; have h8 := T.row3; have h9 := T.row4; have g6 := row_cell h6; have g7 := row_cell h7; have g8 := row_cell h8
                cases hh1 : hasD a.deps y.rep y.num
                case true =>
                  have HQ2 : tieS s.calls x s1 y = s1 := by unfold tieS; rw [HT.out]; simp [hcb, hh1]
                  have HQ3 : (s.order.take (j + 1)).foldl (tieS s.calls x) s0 = s1 := by rw [List.take_add_one, hoy, List.foldl_append]; show tieS s.calls x _ y = _; rw [← HQ1.out]; exact HQ2
                  have HQ := Lib.hid HQ3; clear HQ2 HQ3
                  go_wp2
                  go_roundw
                  case rel => exact ⟨j + 1, s1, by omega, by go_num, HQ.out.symm, hsn1, by omega, T.drop.drop.swap.drop⟩
                  case measure => simp [intOf]; omega
                case false =>
                  go_wp2_with fail
                  refine (Ans.at H2.out T).mono ?_; clear T h6 h7 h8 h9 g6 g7 g8 H2; rintro e2 w7 ⟨rfl, T⟩
                  have h6 := T.row; have h7 := T.row1; have h8 := T.row3; have h9 := T.row4; have g6 := row_cell h6; have g7 := row_cell h7; have g8 := row_cell h8
                  cases hh2 : hasD b.deps x.rep x.num
                  case true =>
                    have HQ2 : tieS s.calls x s1 y = s1 := by unfold tieS; rw [HT.out]; simp [hcb, hh1, hh2]
                    have HQ3 : (s.order.take (j + 1)).foldl (tieS s.calls x) s0 = s1 := by rw [List.take_add_one, hoy, List.foldl_append]; show tieS s.calls x _ y = _; rw [← HQ1.out]; exact HQ2
                    have HQ := Lib.hid HQ3; clear HQ2 HQ3
                    go_wp2
                    go_roundw
                    case rel => exact ⟨j + 1, s1, by omega, by go_num, HQ.out.symm, hsn1, by omega, T.drop.drop.swap.drop⟩
                    case measure => simp [intOf]; omega
                  case false =>
                    have HQ2 : tieS s.calls x s1 y = tellM s1 5 y.rep y := by unfold tieS; rw [HT.out]; simp [hcb, hh1, hh2]
                    have HQ3 : (s.order.take (j + 1)).foldl (tieS s.calls x) s0 = tellM s1 5 y.rep y := by rw [List.take_add_one, hoy, List.foldl_append]; show tieS s.calls x _ y = _; rw [← HQ1.out]; exact HQ2
                    have HQ := Lib.hid HQ3; clear HQ2 HQ3
                    go_wp2_with fail
                    refine (Does.at1 (tellH r s1 (.slice (some ⟨g, 0, none⟩) s.order.length c) m 5 y.rep y (by omega)) T.rot2).mono ?_; clear T h6 h7 h8 h9 g6 g7 g8; rintro e3 w8 ⟨rfl, T⟩
                    go_wp2
                    go_roundw
                    case rel => exact ⟨j + 1, tellM s1 5 y.rep y, by omega, by go_num, HQ.out.symm, hsn1, by show (s1.list ++ _).length ≤ _; rw [List.length_append]; simp; omega, T.swap.drop.swap.drop.swap.drop⟩
                    case measure => simp [intOf]; omega
          · obtain rfl : j = k := by omega
            have hq3 : s1 = (List.range (j + 1)).foldl (tieRow s.calls s.order) s := by
              rw [List.range_succ, List.foldl_append, ← hq]
              show s1 = tieRow s.calls s.order s0 j
              unfold tieRow
              rw [hox]
              exact hq1
            have HQ := Lib.hid hq3; clear hq3 hq1 hq hox
            go_wp2
            go_roundw
            case rel => exact ⟨j + 1, s1, by omega, by go_num, HQ.out, hsn1, by omega, T.swap.drop⟩
            case measure => simp [intOf]; omega
    · obtain rfl : k = s.order.length := by omega
      have hqq : tiesM s = s0 := hq.symm
      have HQ := Lib.hid hqq; clear hqq hq
      go_wp2
      try simp only [Exit.inBlock, Exit.then]
      first | refine bodyPost_ret (results_none rfl _ _ _) rfl ?_ | refine bodyPost_end (results_none rfl _ _ _) rfl ?_
      refine ⟨rfl, ?_⟩
      rw [HQ.out]
      refine Sts.headShut (v2 := .slice A s.order.length c) (m := m) ?_
      obtain ⟨e1, e2, e3, e4⟩ := hsn
      unfold orderR callsR
      rw [e2, e3, e4]
      exact T
end Go.Proofs.Ytpganpiidgkofaa
/- Layer 24: Look. -/
namespace Go.Proofs.Ytpganpiidgkofaa
open Go.RowKit
set_option linter.unusedVariables false
attribute [local go_sem] row_alloc row_drew row_drewN row_ext row_setCell row_setRow size_ext setRow_alloc setRow_drew loadOf storeOf piece_lit loadVal_at storeVal_at allOne_lit buildOf buildRes_some
attribute [local go_sem high] cell_alloc frozen_alloc setCell_alloc cell_ext frozen_ext cell_setRow frozen_setRow
attribute [local go_sem ↓] TDeed_ld0 TDeed_st0 TDeed_fd0 TDeed_bd0
attribute [local go_sem] TDeed_size TDeed_one TDeed_piece TDeed_c0 TDeed_c1 TDeed_c2 TDeed_c3 TDeed_c4 TDeed_c5 TDeed_set_kind TDeed_set_key TDeed_set_val TDeed_set_ver TDeed_set_ses TDeed_set_num TDeed_ld TDeed_st TDeed_f_kind TDeed_f_key TDeed_f_val TDeed_f_ver TDeed_f_ses TDeed_f_num TDeed_bd TDeed_fl TDeed_fl_kind TDeed_fl_key TDeed_fl_val TDeed_fl_ver TDeed_fl_ses TDeed_fl_num
attribute [local go_sem high] TDeed_eql TDeed_neq
attribute [local go_sem ↓] index_deps0 load_deps0 store_deps0
attribute [local go_sem] DV_piece DV_size DV_one index_deps load_deps store_deps
attribute [local go_sem high] TDeps_eql TDeps_neq
attribute [local go_sem ↓] TCall_ld0 TCall_st0 TCall_fd0 TCall_bd0
attribute [local go_sem] TCall_size TCall_one TCall_piece TCall_c0 TCall_c1 TCall_c2 TCall_c3 TCall_c4 TCall_c5 TCall_c6 TCall_c7 TCall_c8 TCall_c9 TCall_c10 TCall_c11 TCall_c12 TCall_c13 TCall_p_deed TCall_put_deed TCall_p_deps TCall_put_deps TCall_set_seq TCall_ld TCall_st TCall_f_deed TCall_f_deps TCall_f_seq TCall_bd TCall_fl TCall_fl_deed TCall_fl_deps TCall_fl_seq
attribute [local go_sem high] TCall_eql TCall_neq
attribute [local go_sem ↓] TItem_ld0 TItem_st0 TItem_fd0 TItem_bd0
attribute [local go_sem] TItem_size TItem_one TItem_piece TItem_c0 TItem_c1 TItem_set_rep TItem_set_num TItem_ld TItem_st TItem_f_rep TItem_f_num TItem_bd TItem_fl TItem_fl_rep TItem_fl_num
attribute [local go_sem high] TItem_eql TItem_neq
attribute [local go_sem ↓] TFinding_ld0 TFinding_st0 TFinding_fd0 TFinding_bd0
attribute [local go_sem] TFinding_size TFinding_one TFinding_piece TFinding_c0 TFinding_c1 TFinding_c2 TFinding_c3 TFinding_set_kind TFinding_set_rep TFinding_p_item TFinding_put_item TFinding_ld TFinding_st TFinding_f_kind TFinding_f_rep TFinding_f_item TFinding_bd TFinding_fl TFinding_fl_kind TFinding_fl_rep TFinding_fl_item
attribute [local go_sem high] TFinding_eql TFinding_neq
attribute [local go_sem] cellsR_0 cellsR_1 cellsR_2 cellsR_3 mkMap
/-- A dump: a slice of entries that came in. -/
structure Dump where
  A : Option Addr
  c : Nat
  l : List Entry
def PV (d : Dump) : Array Value := #[.slice d.A d.l.length d.c]
def rep0 (n : Int) : Rep := ⟨n, [], [], fun _ => none, 0⟩
noncomputable def lookS (ds : List Dump) (s : Rep) (i : Nat) : Rep := match ds[i]? with | none => s | some d => dumpM s i d.l
noncomputable def lookM (n : Int) (ds : List Dump) : Rep := tiesM ((List.range ds.length).foldl (lookS ds) (rep0 n))
def Clean (e : Entry) : Prop := InI e.item ∧ e.inst.call.deed.key.size ≤ 1000
structure InvR (s : Rep) : Prop where
  order : ∀ x ∈ s.order, InI x
  key : ∀ x c, s.calls x = some c → c.deed.key.size ≤ 1000
theorem InvR.tell {s : Rep} (h : InvR s) (k rep : Int) (x : Item) : InvR (tellM s k rep x) := ⟨h.order, h.key⟩
theorem InvR.add {s : Rep} (h : InvR s) {x : Item} {c : Call} (hx : InI x) (hc : c.deed.key.size ≤ 1000) : InvR (addMk s x c) := by
  refine ⟨fun y hy => ?_, fun y d hd => ?_⟩
  · rcases List.mem_append.1 (show y ∈ s.order ++ [x] from hy) with h1 | h1
    · exact h.order y h1
    · rw [List.mem_singleton.1 h1]; exact hx
  · have hd : putF s.calls x c y = some d := hd
    by_cases hyx : y = x
    · subst hyx; rw [putF_same] at hd; injection hd with hd; subst hd; exact hc
    · rw [putF_other _ _ hyx] at hd; exact h.key y d hd
theorem InvR.mark {s : Rep} (h : InvR s) (rep : Int) {e : Entry} (he : Clean e) : InvR (markM s rep e) := by
  unfold markM
  split
  · exact h.add he.1 he.2
  · split
    · exact h
    · exact h.tell _ _ _
theorem InvR.entry {s : Rep} (h : InvR s) (rep : Int) {e : Entry} (he : Clean e) : InvR (entryM s rep e) := by
  have key : ∀ s1, InvR s1 → InvR (if (e.inst.status == 3) = true then markM s1 rep e else s1) := by
    intro s1 h1
    split
    · exact h1.mark rep he
    · exact h1
  unfold entryM
  split
  · exact h.tell _ _ _
  · refine key (if lessBal e.inst.prom e.inst.vote = true then tellM s 3 rep e.item else s) ?_
    split
    · exact h.tell _ _ _
    · exact h
theorem dumpQ_inv (rep : Int) : ∀ (l : List Entry) (q : Rep × Seen), (∀ e ∈ l, Clean e) → InvR q.1 → InvR (l.foldl (dstep rep) q).1
  | [], q, _, h => h
  | e :: l, q, hl, h => by
    rw [List.foldl_cons]
    refine dumpQ_inv rep l _ (fun x hx => hl x (List.mem_cons_of_mem _ hx)) ?_
    unfold dstep
    split
    · exact h.tell _ _ _
    · exact h.entry rep (hl e (List.mem_cons_self ..))
theorem dumpQ_room (rep : Int) : ∀ (l : List Entry) (q : Rep × Seen) (m : Nat), RoomR q.1 (m + l.length) → RoomR (l.foldl (dstep rep) q).1 m
  | [], q, m, h => h
  | e :: l, q, m, h => by
    rw [List.foldl_cons]
    exact dumpQ_room rep l _ m (RoomR.step (by rw [show m + l.length + 1 = m + (l.length + 1) from rfl]; exact h) rep e)
structure Small (s : Rep) (m : Nat) : Prop where
  list : s.list.length ≤ 2 * m
  order : s.order.length ≤ m
  cnt : s.cnt ≤ m
theorem Small.tell {s : Rep} {m : Nat} (h : Small s m) (k rep : Int) (x : Item) : Small (tellM s k rep x) (m + 1) := by
  obtain ⟨a, b, c⟩ := h
  exact ⟨by show (s.list ++ _).length ≤ _; rw [List.length_append]; simp; omega, by show s.order.length ≤ _; omega, by show s.cnt ≤ _; omega⟩
theorem Small.entry {s : Rep} {m : Nat} (h : Small s m) (rep : Int) (e : Entry) : Small (entryM s rep e) (m + 1) := by
  obtain ⟨a, b, c⟩ := h
  obtain ⟨x, y, z⟩ := entryM_len s rep e
  exact ⟨by omega, by omega, by omega⟩
theorem dumpQ_small (rep : Int) : ∀ (l : List Entry) (q : Rep × Seen) (m : Nat), Small q.1 m → Small (l.foldl (dstep rep) q).1 (m + l.length)
  | [], q, m, h => h
  | e :: l, q, m, h => by
    rw [List.foldl_cons, List.length_cons, show m + (l.length + 1) = (m + 1) + l.length from by omega]
    refine dumpQ_small rep l _ (m + 1) ?_
    unfold dstep
    split
    · exact h.tell _ _ _
    · exact h.entry _ _
set_option maxHeartbeats 4000000 in
theorem lookT (n : Int) (A : Option Addr) (c : Nat) (ds : List Dump) (w W : World) (R : List Res) (hx : RowsIn w A 1 PV ds) (hd : ∀ d ∈ ds, RowsIn w d.A 22 AV d.l ∧ (∀ e ∈ d.l, Clean e) ∧ d.l.length ≤ 20) (h14 : ds.length ≤ 14)
    (T : Sts w (fun _ => False) W R) :
    Calls Try.prog 73 #[.int .i64 n, .slice A ds.length c] W fun e W' => ∃ v, e = .returned v ∧ Sts w (fun _ => False) W' (listR (lookM n ds) v :: R) := by
  have T := T.mapNew (P := Try.prog) (k := 42) (kv := fun x : Item => Value.agg (IV x)) (ev := fun c : Call => Value.agg (CV c)) (ok := InI)
  have T := ((T.vecNil 42 2).vecNil 137 4).new (cellsR (rep0 n) (.slice none 0 0) (.slice none 0 0) W.heap.size) 172
  go_enter Try.func73, Try.ntmps73
  go_wp2_with fail
  have T := Sts.repShut (s := rep0 n) (v1 := .slice none 0 0) (v2 := .slice none 0 0) (m := W.heap.size) T
  simp only [World.size_alloc] at T
  generalize W.heap.size + 1 = r at *
  go_loopw [14] (fun i wr => ∃ (k m : Nat) (s0 : Rep), k ≤ ds.length ∧ i = .int .i64 k ∧ s0 = (List.range k).foldl (lookS ds) (rep0 n) ∧ m ≤ 20 * k ∧ Small s0 m ∧ InvR s0 ∧ Sts w (fun _ => False) wr (repR r s0 :: R)) (fun i _ => ds.length - (intOf i).toNat)
  case atStart => exact ⟨0, 0, rep0 n, by omega, rfl, rfl, by omega, ⟨Nat.le_refl _, Nat.le_refl _, Nat.le_refl _⟩, ⟨fun x hx => (by cases hx), fun x c hc => (by cases hc)⟩, T⟩
  case round =>
    clear T
    obtain ⟨k, m, s0, hk0, rfl, hq, hm, hsm, hinv, T⟩ := hrel
    by_cases hkl : k < ds.length
    · cases A with
      | none => have := hx.nil rfl; subst this; simp at hkl
      | some a =>
        have hld : wr.cell? (a.add k) = some (.slice ds[k].A ds[k].l.length ds[k].c) := by
          have hc := hx.cell a rfl k hkl 0 _ rfl
          rw [Nat.mul_one] at hc
          have e0 : ∀ b : Addr, b.add 0 = b := fun b => by unfold Addr.add; simp
          rw [e0] at hc
          exact (T.below.cell (World.block_lt_of_cell? w _ hc)).trans hc
        obtain ⟨hdx, hcl, h20⟩ := hd ds[k] (List.getElem_mem hkl)
        have hox : ds[k]? = some ds[k] := List.getElem?_eq_getElem hkl
        generalize ds[k] = d at *
        have hq3 : dumpM s0 k d.l = (List.range (k + 1)).foldl (lookS ds) (rep0 n) := by
          rw [List.range_succ, List.foldl_append, ← hq]
          show _ = lookS ds s0 k
          unfold lookS
          rw [hox]
        have hroom : RoomR s0 d.l.length := ⟨by have := hsm.list; omega, by have := hsm.order; omega, by have := hsm.cnt; omega⟩
        have hinv2 : InvR (dumpM s0 k d.l) := dumpQ_inv k d.l (s0, fun _ => none) hcl hinv
        have hsm2 : Small (dumpM s0 k d.l) (m + d.l.length) := dumpQ_small k d.l (s0, fun _ => none) m hsm
        have HQ := Lib.hid hq3; clear hq3 hq hox
        have CD := Lib.hid (dumpT r s0 k d.A d.c d.l w wr R hdx (fun e he => (hcl e he).1) hroom T)
        clear T hinv hsm hdx hcl
        go_wp2_with fail
        with_reducible refine CD.out.mono ?_
        clear CD hld; rintro e w2 ⟨rfl, T⟩
        go_wp2
        go_roundw
        case rel => exact ⟨k + 1, m + d.l.length, _, by omega, by go_num, HQ.out, by omega, hsm2, hinv2, T⟩
        case measure => simp [intOf]; omega
    · obtain rfl : k = ds.length := by omega
      have hqq : lookM n ds = tiesM s0 := by unfold lookM; rw [← hq]
      have HQ := Lib.hid hqq; clear hqq hq
      have CT := Lib.hid (tiesT r s0 w wr R hinv.order hinv.key (by have := hsm.list; omega) (by have := hsm.order; omega) T)
      clear T hinv hsm
      go_wp2_with fail
      with_reducible refine CT.out.mono ?_
      clear CT; rintro e w2 ⟨rfl, T⟩
      obtain ⟨v1, v2, mm, T⟩ := T.repOpen
      have hcr := row_cell T.row; have hlr := row_lt T.row
      go_wp2
      go_ret
      exact ⟨_, rfl, by rw [HQ.out]; exact T.drop.swap.drop.swap.drop⟩
end Go.Proofs.Ytpganpiidgkofaa
/- Layer 24, the laws: what is more than is played. -/
namespace Go.Proofs.Ytpganpiidgkofaa
open Go.RowKit
set_option linter.unusedVariables false
attribute [local go_sem] row_alloc row_drew row_drewN row_ext row_setCell row_setRow size_ext setRow_alloc setRow_drew loadOf storeOf piece_lit loadVal_at storeVal_at allOne_lit buildOf buildRes_some
attribute [local go_sem high] cell_alloc frozen_alloc setCell_alloc cell_ext frozen_ext cell_setRow frozen_setRow
attribute [local go_sem ↓] TDeed_ld0 TDeed_st0 TDeed_fd0 TDeed_bd0
attribute [local go_sem] TDeed_size TDeed_one TDeed_piece TDeed_c0 TDeed_c1 TDeed_c2 TDeed_c3 TDeed_c4 TDeed_c5 TDeed_set_kind TDeed_set_key TDeed_set_val TDeed_set_ver TDeed_set_ses TDeed_set_num TDeed_ld TDeed_st TDeed_f_kind TDeed_f_key TDeed_f_val TDeed_f_ver TDeed_f_ses TDeed_f_num TDeed_bd TDeed_fl TDeed_fl_kind TDeed_fl_key TDeed_fl_val TDeed_fl_ver TDeed_fl_ses TDeed_fl_num
attribute [local go_sem high] TDeed_eql TDeed_neq
attribute [local go_sem ↓] index_deps0 load_deps0 store_deps0
attribute [local go_sem] DV_piece DV_size DV_one index_deps load_deps store_deps
attribute [local go_sem high] TDeps_eql TDeps_neq
attribute [local go_sem ↓] TCall_ld0 TCall_st0 TCall_fd0 TCall_bd0
attribute [local go_sem] TCall_size TCall_one TCall_piece TCall_c0 TCall_c1 TCall_c2 TCall_c3 TCall_c4 TCall_c5 TCall_c6 TCall_c7 TCall_c8 TCall_c9 TCall_c10 TCall_c11 TCall_c12 TCall_c13 TCall_p_deed TCall_put_deed TCall_p_deps TCall_put_deps TCall_set_seq TCall_ld TCall_st TCall_f_deed TCall_f_deps TCall_f_seq TCall_bd TCall_fl TCall_fl_deed TCall_fl_deps TCall_fl_seq
attribute [local go_sem high] TCall_eql TCall_neq
attribute [local go_sem ↓] TItem_ld0 TItem_st0 TItem_fd0 TItem_bd0
attribute [local go_sem] TItem_size TItem_one TItem_piece TItem_c0 TItem_c1 TItem_set_rep TItem_set_num TItem_ld TItem_st TItem_f_rep TItem_f_num TItem_bd TItem_fl TItem_fl_rep TItem_fl_num
attribute [local go_sem high] TItem_eql TItem_neq
attribute [local go_sem ↓] TBallot_ld0 TBallot_st0 TBallot_fd0 TBallot_bd0
attribute [local go_sem] TBallot_size TBallot_one TBallot_piece TBallot_c0 TBallot_c1 TBallot_set_round TBallot_set_rep TBallot_ld TBallot_st TBallot_f_round TBallot_f_rep TBallot_bd TBallot_fl TBallot_fl_round TBallot_fl_rep
attribute [local go_sem high] TBallot_eql TBallot_neq
attribute [local go_sem ↓] TInst_ld0 TInst_st0 TInst_fd0 TInst_bd0
attribute [local go_sem] TInst_size TInst_one TInst_piece TInst_c0 TInst_c1 TInst_c2 TInst_c3 TInst_c4 TInst_c5 TInst_c6 TInst_c7 TInst_c8 TInst_c9 TInst_c10 TInst_c11 TInst_c12 TInst_c13 TInst_c14 TInst_c15 TInst_c16 TInst_c17 TInst_c18 TInst_c19 TInst_p_prom TInst_put_prom TInst_p_vote TInst_put_vote TInst_set_status TInst_p_call TInst_put_call TInst_set_same TInst_ld TInst_st TInst_f_prom TInst_f_vote TInst_f_status TInst_f_call TInst_f_same TInst_bd TInst_fl TInst_fl_prom TInst_fl_vote TInst_fl_status TInst_fl_call TInst_fl_same
attribute [local go_sem high] TInst_eql TInst_neq
attribute [local go_sem ↓] TEntry_ld0 TEntry_st0 TEntry_fd0 TEntry_bd0
attribute [local go_sem] TEntry_size TEntry_one TEntry_piece TEntry_c0 TEntry_c1 TEntry_c2 TEntry_c3 TEntry_c4 TEntry_c5 TEntry_c6 TEntry_c7 TEntry_c8 TEntry_c9 TEntry_c10 TEntry_c11 TEntry_c12 TEntry_c13 TEntry_c14 TEntry_c15 TEntry_c16 TEntry_c17 TEntry_c18 TEntry_c19 TEntry_c20 TEntry_c21 TEntry_p_item TEntry_put_item TEntry_p_inst TEntry_put_inst TEntry_ld TEntry_st TEntry_f_item TEntry_f_inst TEntry_bd TEntry_fl TEntry_fl_item TEntry_fl_inst
attribute [local go_sem high] TEntry_eql TEntry_neq
noncomputable def overE (e : Entry) : Bool := decide ((100 : Int) < (e.inst.call.deed.key.size : Int) + (e.inst.call.deed.val.size : Int))
noncomputable def overD (d : Dump) : Bool := d.l.any overE || decide ((20 : Int) < (d.l.length : Int))
noncomputable def greatB (ds : List Dump) : Bool := ds.any overD || decide ((7 : Int) < (ds.length : Int))
/-- The dumps lie here. -/
structure DumpsIn (w : World) (A : Option Addr) (ds : List Dump) : Prop where
  rows : RowsIn w A 1 PV ds
  each : ∀ d ∈ ds, RowsIn w d.A 22 AV d.l
/-- Texts of such entries fit. -/
def TextsFit (ds : List Dump) : Prop := ∀ d ∈ ds, ∀ e ∈ d.l, e.inst.call.deed.key.size ≤ 140737488351232 ∧ e.inst.call.deed.val.size ≤ 140737488351232
theorem DumpsIn.load {w W : World} {a : Addr} {ds : List Dump} (hx : DumpsIn w (some a) ds) (hb : Below w.heap.size w W) {k : Nat} (hkl : k < ds.length) : W.cell? (a.add k) = some (.slice ds[k].A ds[k].l.length ds[k].c) := by
  have hc := hx.rows.cell a rfl k hkl 0 _ rfl
  rw [Nat.mul_one] at hc
  have e0 : ∀ b : Addr, b.add 0 = b := fun b => by unfold Addr.add; simp
  rw [e0] at hc
  exact (hb.cell (World.block_lt_of_cell? w _ hc)).trans hc
end Go.Proofs.Ytpganpiidgkofaa
