/- Layer 5: the items to which a row reaches, one by one. -/
import Derived.Test.YtnjnafmonijlnaaSeq
import Derived.Test.YtnjnafmonijlnaaTItem
import Derived.Test.YtnjnafmonijlnaaTDeps
namespace Go.Proofs.Ytnjnafmonijlnaa
open Go.RowKit Go.Shelf
set_option linter.unusedVariables false
attribute [local go_sem] Oper.semAt_some
attribute [local go_sem] row_alloc row_drew row_drewN row_ext row_setCell row_setRow size_ext setRow_alloc setRow_drew loadOf storeOf piece_lit loadVal_at storeVal_at allOne_lit buildOf buildRes_some
attribute [local go_sem high] cell_alloc frozen_alloc setCell_alloc cell_ext frozen_ext cell_setRow frozen_setRow
attribute [local go_sem ↓] TItem_ld0 TItem_st0 TItem_fd0 TItem_bd0
attribute [local go_sem] TItem_size TItem_one TItem_piece TItem_c0 TItem_c1 TItem_set_rep TItem_set_num TItem_ld TItem_st TItem_f_rep TItem_f_num TItem_bd TItem_fl TItem_fl_rep TItem_fl_num
attribute [local go_sem high] TItem_eql TItem_neq
attribute [local go_sem ↓] index_deps0 load_deps0 store_deps0
attribute [local go_sem] DV_piece DV_size DV_one index_deps load_deps store_deps
attribute [local go_sem high] TDeps_eql TDeps_neq
def repL (d : Nat → Int) (r k : Nat) : List Item := (List.range k).map fun (j : Nat) => (⟨(r : Int), (j : Int) + 1⟩ : Item)
def itemsTo (d : Nat → Int) : Nat → List Item
  | 0 => []
  | r + 1 => itemsTo d r ++ repL d r (d r).toNat
def itemsL (d : Nat → Int) : List Item := itemsTo d 7
theorem repL_succ (d : Nat → Int) (r k : Nat) : repL d r (k + 1) = repL d r k ++ [⟨(r : Int), (k : Int) + 1⟩] := by simp [repL, List.range_succ]
theorem repL_pre (d : Nat → Int) (r : Nat) {k m : Nat} (h : k ≤ m) : repL d r k <+: repL d r m := by
  obtain ⟨j, rfl⟩ := Nat.exists_eq_add_of_le h
  exact ⟨(List.range j).map fun (i : Nat) => (⟨(r : Int), ((k + i : Nat) : Int) + 1⟩ : Item), by simp [repL, List.range_add]⟩
theorem itemsTo_pre (d : Nat → Int) {r m : Nat} (h : r ≤ m) : itemsTo d r <+: itemsTo d m := by
  induction m with
  | zero => obtain rfl : r = 0 := by omega
            exact List.prefix_refl _
  | succ m ih =>
    by_cases e : r = m + 1
    · subst e; exact List.prefix_refl _
    · exact (ih (by omega)).trans (List.prefix_append _ _)
theorem items_pre (d : Nat → Int) {r k : Nat} (hr : r < 7) (hk : k ≤ (d r).toNat) : itemsTo d r ++ repL d r k <+: itemsL d := by
  refine List.IsPrefix.trans ?_ (itemsTo_pre d (show r + 1 ≤ 7 by omega))
  exact (List.prefix_append_right_inj _).2 (repL_pre d r hk)
set_option maxHeartbeats 2000000 in
set_option maxRecDepth 10000 in
theorem items_stops (F : Fence) (n : Nat) (hF : F.fn 44) (hro : F.round = none) (hn : 1 ≤ n) (c : Nat) (d : Nat → Int) (w : World) (hrow : row? w c = some (DV d)) (hd : ∀ i, i < 7 → d i ≤ 1000000) :
    SeqStopsK F n Try.prog 44 #[.pointer (some ⟨c, 0, none⟩)] (fun x : Item => #[.agg (IV x)]) (fun _ _ => True) (fun xs => xs = itemsL d) (fun pre => pre <+: itemsL d) (itemsL d).length w := by
  intro l J Jx W hW hJ hJx hY h0
  have hr : row? W c = some (DV d) := (row_below hW (row_lt hrow)).trans hrow
  refine callsIn_of_wp Try.func44 rfl hF ?_ hro
  simp only [Try.ntmps44, List.size_toArray, List.length_cons, List.length_nil, Nat.reduceAdd, Nat.reduceSub, Array.replicate_succ, Array.replicate_zero, List.push_toArray, List.append_toArray, List.nil_append, List.cons_append]
  gi_wp2
  gi_loopw [7] (fun i wr => ∃ r : Nat, r ≤ 7 ∧ i = .int .i64 r ∧ J (itemsTo d r) wr) (fun i _ => 7 - (intOf i).toNat)
  case atStart => exact ⟨0, by omega, rfl, h0⟩
  case round =>
    obtain ⟨r, hr7, rfl, hJr⟩ := hrel
    by_cases hlt : r < 7
    · have hdr := hd r hlt
      have hlt' : (0 : Int) ≤ (r : Int) ∧ (r : Int) < 7 := by omega
      gi_wp2
      gi_loopw [5] (fun i wr => ∃ k : Nat, (k : Int) ≤ max (d r) 0 ∧ i = .int .i64 (k + 1) ∧ J (itemsTo d r ++ repL d r k) wr) (fun i _ => (d r + 1 - intOf i).toNat)
      case atStart => exact ⟨0, by omega, rfl, by simpa [repL] using hJr⟩
      case round =>
        obtain ⟨k, hk, rfl, hJk⟩ := hrel
        by_cases hkd : (k : Int) < d r
        · have hpre := items_pre d hlt (k := k + 1) (by omega)
          have hlen : (itemsTo d r ++ repL d r k).length < (itemsL d).length := by
            have := hpre.length_le
            rw [repL_succ, ← List.append_assoc, List.length_append] at this
            simp only [List.length_cons, List.length_nil] at this; omega
          rw [repL_succ, ← List.append_assoc] at hpre
          have hs1 := repL_succ d r k
          have HP := Lib.hid hpre; have HS := Lib.hid hs1; clear hpre hs1
          obtain ⟨fn, tmps, assign, body, hy, hR⟩ := hY (itemsTo d r ++ repL d r k) ⟨(r : Int), (k : Int) + 1⟩ wr hJk hlen
          clear hlen
          gi_wp2
          refine hR.mono ?_
          rintro e W3 (⟨rfl, hJ3, hk3⟩ | ⟨rfl, hJx3⟩)
          · gi_wp2
            go_roundw
            case rel => exact ⟨k + 1, by omega, by go_num, by rw [HS.out, ← List.append_assoc]; exact hJ3⟩
            case measure => simp [intOf]; omega
          · gi_wp2
            refine bodyPost_ret (results_none rfl _ _ _) rfl ?_
            exact ⟨⟨_, rfl⟩, .inr ⟨_, HP.out, hJx3⟩⟩
        · have hfin : itemsTo d r ++ repL d r k = itemsTo d (r + 1) := by
            rw [itemsTo]; congr 1; congr 1; omega
          rw [hfin] at hJk
          clear hfin
          gi_wp2
          go_roundw
          case rel => exact ⟨r + 1, by omega, by go_num, hJk⟩
          case measure => simp [intOf]; omega
    · obtain rfl : r = 7 := by omega
      gi_wp2
      go_end0
      exact ⟨⟨_, rfl⟩, .inl ⟨itemsL d, rfl, hJr⟩⟩
set_option maxHeartbeats 1000000 in
theorem itemsS {w W : World} {F : Nat → Prop} {L : List Res} (T : Sts w F W L) (d : Nat → Int) : Calls Try.prog 20 #[.agg (DV d)] W fun e W' => e = .returned (.func (.func 44) #[] #[.pointer (some ⟨W.heap.size, 0, none⟩)]) ∧ Sts w F W' (rowR W.heap.size (DV d) :: L) := by
  have T := T.new (DV d) 23
  go_enter Try.func20, Try.ntmps20
  go_wp2
  go_ret
  exact ⟨rfl, T⟩
end Go.Proofs.Ytnjnafmonijlnaa
