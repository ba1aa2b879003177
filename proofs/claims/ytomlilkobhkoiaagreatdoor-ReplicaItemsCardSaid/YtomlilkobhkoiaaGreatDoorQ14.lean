/- Several texts in one. -/
import Derived.Test.YtomlilkobhkoiaaGreatDoorQ10
import Derived.Test.YtomlilkobhkoiaaGreatDoorQ8
import Derived.Test.YtomlilkobhkoiaaGreatDoorQ2
import Derived.Laws.BitsAllLaws
/- Layer 3: rows of items: all that stand there, one by one. -/
namespace Go.Proofs.YtomlilkobhkoiaaGreatDoor
open Go.RowKit Go.Shelf
set_option linter.unusedVariables false
set_option maxRecDepth 20000
attribute [local go_sem] Oper.semAt_some
attribute [local go_sem] row_alloc row_drew row_drewN row_ext row_setCell row_setRow size_ext setRow_alloc setRow_drew loadOf storeOf piece_lit loadVal_at storeVal_at allOne_lit buildOf buildRes_some
attribute [local go_sem high] cell_alloc frozen_alloc setCell_alloc cell_ext frozen_ext cell_setRow frozen_setRow
attribute [local go_sem ↓] TDeed_ld0 TDeed_st0 TDeed_fd0 TDeed_bd0
attribute [local go_sem] TDeed_size TDeed_one TDeed_piece TDeed_c0 TDeed_c1 TDeed_c2 TDeed_c3 TDeed_c4 TDeed_c5 TDeed_set_kind TDeed_set_key TDeed_set_val TDeed_set_ver TDeed_set_ses TDeed_set_num TDeed_ld TDeed_st TDeed_f_kind TDeed_f_key TDeed_f_val TDeed_f_ver TDeed_f_ses TDeed_f_num TDeed_bd TDeed_fl TDeed_fl_kind TDeed_fl_key TDeed_fl_val TDeed_fl_ver TDeed_fl_ses TDeed_fl_num
attribute [local go_sem high] TDeed_eql TDeed_neq
attribute [local go_sem ↓] index_deps0 load_deps0 store_deps0
attribute [local go_sem] DV_piece DV_size DV_one index_deps load_deps store_deps
attribute [local go_sem high] TDeps_eql TDeps_neq
attribute [local go_sem ↓] TCall_ld0 TCall_st0 TCall_fd0 TCall_bd0
attribute [local go_sem] TCall_size TCall_one TCall_piece TCall_c0 TCall_c1 TCall_c2 TCall_c3 TCall_c4 TCall_c5 TCall_c6 TCall_c7 TCall_c8 TCall_c9 TCall_c10 TCall_c11 TCall_c12 TCall_c13 TCall_p_deed TCall_put_deed TCall_p_deps TCall_put_deps TCall_set_seq TCall_ld TCall_st TCall_f_deed TCall_f_deps TCall_f_seq TCall_bd TCall_fl TCall_fl_deed TCall_fl_deps TCall_fl_seq
attribute [local go_sem high] TCall_eql TCall_neq
attribute [local go_sem ↓] TItem_ld0 TItem_st0 TItem_fd0 TItem_bd0
attribute [local go_sem] TItem_size TItem_one TItem_piece TItem_c0 TItem_c1 TItem_set_rep TItem_set_num TItem_ld TItem_st TItem_f_rep TItem_f_num TItem_bd TItem_fl TItem_fl_rep TItem_fl_num
attribute [local go_sem high] TItem_eql TItem_neq
attribute [local go_sem ↓] TBallot_ld0 TBallot_st0 TBallot_fd0 TBallot_bd0
attribute [local go_sem] TBallot_size TBallot_one TBallot_piece TBallot_c0 TBallot_c1 TBallot_set_round TBallot_set_rep TBallot_ld TBallot_st TBallot_f_round TBallot_f_rep TBallot_bd TBallot_fl TBallot_fl_round TBallot_fl_rep
attribute [local go_sem high] TBallot_eql TBallot_neq
attribute [local go_sem ↓] TInst_ld0 TInst_st0 TInst_fd0 TInst_bd0
attribute [local go_sem] TInst_size TInst_one TInst_piece TInst_c0 TInst_c1 TInst_c2 TInst_c3 TInst_c4 TInst_c5 TInst_c6 TInst_c7 TInst_c8 TInst_c9 TInst_c10 TInst_c11 TInst_c12 TInst_c13 TInst_c14 TInst_c15 TInst_c16 TInst_c17 TInst_c18 TInst_c19 TInst_p_prom TInst_put_prom TInst_p_vote TInst_put_vote TInst_set_status TInst_p_call TInst_put_call TInst_set_same TInst_ld TInst_st TInst_f_prom TInst_f_vote TInst_f_status TInst_f_call TInst_f_same TInst_bd TInst_fl TInst_fl_prom TInst_fl_vote TInst_fl_status TInst_fl_call TInst_fl_same
attribute [local go_sem high] TInst_eql TInst_neq
/-- What stands at a place, with it. -/
noncomputable def entAt (m : RowsM) (r k : Nat) : Option (Item × Inst) := (getM m ⟨(r : Int), (k : Int) + 1⟩).map fun t => (⟨(r : Int), (k : Int) + 1⟩, t)
noncomputable def entR (m : RowsM) (r k : Nat) : List (Item × Inst) := (List.range k).filterMap (entAt m r)
noncomputable def entsTo (m : RowsM) : Nat → List (Item × Inst)
  | 0 => []
  | r + 1 => entsTo m r ++ entR m r (topM m r).toNat
noncomputable def ents (m : RowsM) : List (Item × Inst) := entsTo m 7
theorem entR_none {m : RowsM} {r k : Nat} (h : getM m ⟨(r : Int), (k : Int) + 1⟩ = none) : entR m r (k + 1) = entR m r k := by
  unfold entR; rw [List.range_succ, List.filterMap_append]; simp [entAt, h]
theorem entR_some {m : RowsM} {r k : Nat} {t : Inst} (h : getM m ⟨(r : Int), (k : Int) + 1⟩ = some t) : entR m r (k + 1) = entR m r k ++ [(⟨(r : Int), (k : Int) + 1⟩, t)] := by
  unfold entR; rw [List.range_succ, List.filterMap_append]; simp [entAt, h]
theorem entR_pre (m : RowsM) (r : Nat) {k n : Nat} (h : k ≤ n) : entR m r k <+: entR m r n := by
  obtain ⟨j, rfl⟩ := Nat.exists_eq_add_of_le h
  unfold entR
  rw [List.range_add, List.filterMap_append]
  exact List.prefix_append _ _
theorem entsTo_pre (m : RowsM) {r n : Nat} (h : r ≤ n) : entsTo m r <+: entsTo m n := by
  induction n with
  | zero => obtain rfl : r = 0 := by omega
            exact List.prefix_refl _
  | succ n ih =>
    by_cases e : r = n + 1
    · subst e; exact List.prefix_refl _
    · exact (ih (by omega)).trans (List.prefix_append _ _)
theorem ents_pre (m : RowsM) {r k : Nat} (hr : r < 7) (hk : k ≤ (topM m r).toNat) : entsTo m r ++ entR m r k <+: ents m := by
  refine List.IsPrefix.trans ?_ (entsTo_pre m (show r + 1 ≤ 7 by omega))
  exact (List.prefix_append_right_inj _).2 (entR_pre m r hk)
theorem ents_at (m : RowsM) {r k : Nat} {t : Inst} (hr : r < 7) (hk : k < (topM m r).toNat) (h : getM m ⟨(r : Int), (k : Int) + 1⟩ = some t) : (ents m)[(entsTo m r ++ entR m r k).length]? = some (⟨(r : Int), (k : Int) + 1⟩, t) := by
  have h1 := ents_pre m hr (k := k + 1) (by omega)
  rw [entR_some h, ← List.append_assoc] at h1
  obtain ⟨z, hz⟩ := h1
  rw [← hz, List.append_assoc, List.getElem?_append_right (Nat.le_refl _)]
  simp
/-- Rows as they can be. -/
structure RowsOk (m : RowsM) : Prop where
  n : 0 ≤ m.n ∧ m.n ≤ 7
  len : ∀ r, (m.f r).length ≤ 64
theorem RowsOk.top {m : RowsM} (h : RowsOk m) (r : Int) : 0 ≤ topM m r ∧ topM m r ≤ 64 := by
  unfold topM; have := h.len r.toNat; split <;> omega
theorem RowsOk.new {n : Int} (h : 0 ≤ n ∧ n ≤ 7) : RowsOk ⟨n, fun _ => []⟩ := ⟨h, fun _ => by simp⟩
theorem putL_len (l : List (Option Inst)) (i : Nat) (t : Inst) : (putL l i t).length = max l.length (i + 1) := by
  unfold putL; rw [List.length_set, List.length_append, List.length_replicate]; omega
theorem RowsOk.set {m : RowsM} (h : RowsOk m) (x : Item) (t : Inst) : RowsOk (setM m x t) := by
  unfold setM
  split
  · rename_i hg
    unfold goodI at hg
    rw [decide_eq_true_iff] at hg
    refine ⟨h.n, fun r => ?_⟩
    show (updF m.f x.rep.toNat _ r).length ≤ 64
    unfold updF
    split
    · rw [putL_len]; have := h.len x.rep.toNat; omega
    · exact h.len r
  · exact h
def iterIR (c g : Nat) (m : RowsM) : List Res := [rowR c #[.pointer (some ⟨g, 0, none⟩)], rowsIR g m]
set_option maxHeartbeats 2000000 in
theorem irAllG (c g : Nat) (m : RowsM) (hm : RowsOk m) (W0 : World) (H : Nat → Prop) (hS : Sat W0 (iterIR c g m) H) :
    Gives Tryz.prog 109 #[.pointer (some ⟨c, 0, none⟩)] (fun x : Item × Inst => #[.agg (IV x.1), .agg (NV x.2)]) (fun A B => ∀ k, H k → B.heap[k]? = A.heap[k]?) (ents m) W0 := by
  intro l J Jx W hW hJ hJx hY h0
  have hn := hm.n
  have hS1 : Sat W (iterIR c g m) H := hS.stay fun k hk => hW.block k (hS.lt k hk)
  have hab : ∀ k A B, J k A → Below A.heap.size A B → J k B := fun k A B h hb => hJ k A B none h ⟨hb.os, hb.tape, hb.output, hb.size, fun j hj _ => hb.block j hj⟩ (fun r e => by cases e)
  have hsb : ∀ A B, Sat A (iterIR c g m) H → Below A.heap.size A B → Sat B (iterIR c g m) H := fun A B h hb => h.stay fun j hj => hb.block j (h.lt j hj)
  have HSB := Lib.hid hsb; clear hsb
  have HAB := Lib.hid hab; have HJY := Lib.hid hY
  clear hS hab hJ hJx hW hY
  refine callsIn_of_wp Tryz.func109 rfl trivial ?_ rfl
  simp only [Tryz.ntmps109, List.size_toArray, List.length_cons, List.length_nil, Nat.reduceAdd, Nat.reduceSub, Array.replicate_succ, Array.replicate_zero, List.push_toArray, List.append_toArray, List.nil_append, List.cons_append]
  gi_wp2
  gi_loopw [8] (fun i wr => ∃ r : Nat, r ≤ 7 ∧ i = .int .i64 r ∧ J (entsTo m r).length wr ∧ Sat wr (iterIR c g m) H) (fun i _ => 7 - (intOf i).toNat)
  case atStart => exact ⟨0, by omega, rfl, h0, hS1⟩
  case round =>
    clear hS1 h0
    obtain ⟨r, hr7, rfl, hJr, hSr⟩ := hrel
    by_cases hlt : r < 7
    · have hlt' : (0 : Int) ≤ (r : Int) ∧ (r : Int) < 7 := by omega
      gi_wp2
      gi_loopw [4] (fun i wr => ∃ k : Nat, k ≤ (topM m r).toNat ∧ i = .int .i64 (k + 1) ∧ J (entsTo m r ++ entR m r k).length wr ∧ Sat wr (iterIR c g m) H) (fun i _ => ((topM m r).toNat + 1 - (intOf i).toNat))
      case atStart => exact ⟨0, by omega, rfl, by simpa [entR] using hJr, hSr⟩
      case round =>
        clear hJr hSr
        obtain ⟨k, hk, rfl, hJk, hSk⟩ := hrel
        have hstay : ∀ W', Below wr.heap.size wr W' → Sat W' (iterIR c g m) H := fun W' hb => hSk.stay fun j hj => hb.block j (hSk.lt j hj)
        have T := Sts.start hSk
        unfold iterIR at T
        have hc := row_cell T.row 0
        have hlc := row_lt T.row
        have htop := (irTopR g m hn r).at1 T.swap
        have ht0 := hm.top (r : Int)
        have HST := Lib.hid hstay; have HTOP := Lib.hid htop
        clear hstay htop T hSk
        gi_wp2_with fail
        refine ⟨trivial, ?_⟩
        refine (callsIn_wide.2 HTOP.out).mono ?_
        rintro e w1 ⟨rfl, hb1⟩
        clear hc hlc HTOP
        have hJ1 := HAB.out _ _ _ hJk hb1
        have hS1 := HST.out _ hb1
        clear hb1 HST hJk
        by_cases hlt2 : (k : Int) + 1 ≤ topM m r
        · have hlt3 : k + 1 ≤ (topM m r).toNat := by omega
          have T := Sts.start hS1
          unfold iterIR at T
          have T1 := ((T.new (IV ⟨(r : Int), (k : Int) + 1⟩) 33))
          have hc := row_cell T1.row1 0
          have hlc := row_lt T1.row1
          have hrx := T1.row
          have hat := (irAtR g m hn ⟨(r : Int), (k : Int) + 1⟩).at1 (T1.ord [2, 0, 1])
          have hJ2 := HAB.out _ _ _ hJ1 ((Below.refl w1.heap.size w1).alloc (Nat.le_refl _) (.cells (IV ⟨(r : Int), (k : Int) + 1⟩) 33))
          have hS2 := HSB.out _ _ hS1 ((Below.refl w1.heap.size w1).alloc (Nat.le_refl _) (.cells (IV ⟨(r : Int), (k : Int) + 1⟩) 33))
          have HAT := Lib.hid hat; have HT1 := Lib.hid T1
          clear hat T1 T hS1 hJ1
          gi_wp2_with fail
          refine ⟨trivial, ?_⟩
          refine (callsIn_wide.2 HAT.out).mono ?_
          rintro e w2 ⟨rfl, hb2⟩
          have hJ3 := HAB.out _ _ _ hJ2 hb2
          have hS3 := HSB.out _ _ hS2 hb2
          have T2 := HT1.out.pure hb2
          clear hJ2 hS2 hb2 HT1 HAT hrx hc hlc
          generalize w1.heap.size = bx at *
          have hJ4 := HAB.out _ _ _ hJ3 ((Below.refl w2.heap.size w2).alloc (Nat.le_refl _) (.cells (NV ((getM m ⟨(r : Int), (k : Int) + 1⟩).getD noInst)) 70))
          have hS4 := HSB.out _ _ hS3 ((Below.refl w2.heap.size w2).alloc (Nat.le_refl _) (.cells (NV ((getM m ⟨(r : Int), (k : Int) + 1⟩).getD noInst)) 70))
          have T3 := T2.new (NV ((getM m ⟨(r : Int), (k : Int) + 1⟩).getD noInst)) 70
          have r1 := T3.row; have r2 := T3.row1; have l1 := row_lt r1; have l2 := row_lt r2
          clear hJ3 hS3 T2 T3
          cases hgm : getM m ⟨(r : Int), (k : Int) + 1⟩ with
          | none =>
            have hes := entR_none hgm
            have hJ5 : J (entsTo m r ++ entR m r (k + 1)).length (w2.alloc (.cells (NV noInst) 70)) := by rw [hes]; rw [hgm] at hJ4; exact hJ4
            have hS5 : Sat (w2.alloc (.cells (NV noInst) 70)) (iterIR c g m) H := by rw [hgm] at hS4; exact hS4
            clear hes hJ4 hS4 r1 r2 l1 l2
            have H5 := Lib.hid hJ5; have H6 := Lib.hid hS5
            clear hJ5 hS5
            simp only [Option.getD, Option.isSome]
            gi_wp2
            refine ⟨fun f h => (by cases h), ?_⟩
            gi_wp2
            go_roundw
            case rel => exact ⟨k + 1, by omega, by go_num, H5.out, H6.out⟩
            case measure => simp [intOf]; omega
          | some t =>
            rw [hgm] at hJ4 hS4 r1 l1 r2 l2
            simp only [Option.getD] at hJ4 hS4 r1 l1 r2 l2
            have hen := ents_at m hlt (k := k) (by omega) hgm
            have hes : (entsTo m r ++ entR m r k).length + 1 = (entsTo m r ++ entR m r (k + 1)).length := by rw [entR_some hgm]; simp; omega
            have hle := (ents_pre m hlt (k := k + 1) (by omega)).length_le
            rw [← hes] at hle
            have hY := HJY.out _ _ _ hen hJ4
            have HES := Lib.hid hes; have HS4 := Lib.hid hS4; have HLE := Lib.hid hle
            clear hes hS4 hJ4 hen hle
            obtain ⟨fn, tmps, assign, body, hy, hR⟩ := hY
            simp only [Option.getD, Option.isSome]
            gi_wp2
            refine hR.mono ?_
            rintro e W3 (⟨rfl, hJ5, hk5⟩ | ⟨rfl, hJx5⟩)
            · have hS5 : Sat W3 (iterIR c g m) H := HS4.out.stay fun j hj => hk5 j hj
              rw [HES.out] at hJ5
              clear hk5 HES HS4 r1 r2 l1 l2 hy hR
              have H5 := Lib.hid hJ5; have H6 := Lib.hid hS5
              clear hJ5 hS5
              gi_wp2
              go_roundw
              case rel => exact ⟨k + 1, by omega, by go_num, H5.out, H6.out⟩
              case measure => simp [intOf]; omega
            · have H5 := Lib.hid hJx5; clear hJx5 hy hR
              gi_wp2
              refine bodyPost_ret (results_none rfl _ _ _) rfl ?_
              exact ⟨⟨_, rfl⟩, .inr ⟨_, Nat.succ_pos _, HLE.out, H5.out⟩⟩
        · have he : k = (topM m r).toNat := by omega
          have hJn : J (entsTo m (r + 1)).length w1 := by rw [he] at hJ1; exact hJ1
          clear he hJ1
          gi_wp2
          go_roundw
          case rel => exact ⟨r + 1, by omega, by go_num, hJn, hS1⟩
          case measure => simp [intOf]; omega
    · obtain rfl : r = 7 := by omega
      gi_wp2
      go_end0
      exact ⟨⟨_, rfl⟩, .inl hJr⟩
end Go.Proofs.YtomlilkobhkoiaaGreatDoor
/- Layer 1, reading: a source in memory, and what each call takes from it. -/
namespace Go.Proofs.YtomlilkobhkoiaaGreatDoor
open Go.RowKit
set_option linter.unusedVariables false
attribute [local go_sem] row_alloc row_drew row_drewN row_ext row_setCell row_setRow size_ext setRow_alloc setRow_drew
attribute [local go_sem high] cell_alloc frozen_alloc setCell_alloc cell_ext frozen_ext
def strL (l : List UInt8) : ByteArray := ⟨l.toArray⟩
theorem strL_size (l : List UInt8) : (strL l).size = l.length := by simp [strL, ByteArray.size]
theorem strL_take (l : List UInt8) (n : Nat) : (strL l).extract 0 n = strL (l.take n) := by
  apply ByteArray.ext; simp [strL, ByteArray.data_extract]
theorem strL_drop (l : List UInt8) (n : Nat) : (strL l).extract n l.length = strL (l.drop n) := by
  apply ByteArray.ext
  simp only [strL, ByteArray.data_extract]
  apply Array.ext'
  simp
  exact List.take_of_length_le (by rw [List.length_drop]; exact Nat.le_refl _)
/-- What a source still has, and whether something was missing. -/
structure Src where
  left : List UInt8
  dry : Bool
def dryS : Src := ⟨[], true⟩
def SV (s : Src) : Array Value := #[.string (strL s.left), .bool s.dry]
/-- So many bytes. -/
def rawS (s : Src) (n : Int) : List UInt8 × Src :=
  if s.dry = true ∨ n < 0 ∨ (s.left.length : Int) < n then ([], dryS) else (s.left.take n.toNat, ⟨s.left.drop n.toNat, false⟩)
section
variable {W : World} {g : Nat} {s : Src}
set_option maxHeartbeats 1000000 in
theorem from_any (W : World) (l : List UInt8) : Calls Tryz.prog 100 #[.string (strL l)] W fun e w' => e = .returned (.pointer (some ⟨W.heap.size, 0, none⟩)) ∧ row? w' W.heap.size = some (SV ⟨l, false⟩) ∧ Below W.heap.size W w' ∧ w'.heap.size = W.heap.size + 1 := by
  go_enter Tryz.func100, Tryz.ntmps100
  go_wp2
  go_ret
  refine ⟨rfl, ?_, (Below.refl _ _).alloc (Nat.le_refl _) _, by simp⟩
  rw [row_alloc, if_pos rfl]; rfl
set_option maxHeartbeats 1000000 in
theorem stop_any (h : row? W g = some (SV s)) : Calls Tryz.prog 165 #[.pointer (some ⟨g, 0, none⟩)] W fun e w' => e = .returned (.tuple #[]) ∧ row? w' g = some (SV dryS) ∧ Touch W w' g none ∧ w'.heap.size = W.heap.size := by
  have hc := row_cell h
  have hf := row_frozen h
  have Hr := Lib.hid h; clear h
  unfold SV at hc
  go_enter Tryz.func165, Tryz.ntmps165
  go_wp2
  go_end0
  refine ⟨rfl, ?_, (grown_cell _ _ _ _).trans (Fresh.refl _ _) (grown_cell _ _ _ _), by simp [World.setCell]⟩
  rw [row_setCell, if_pos rfl, row_setCell, if_pos rfl, Hr.out]; rfl
set_option maxHeartbeats 1000000 in
theorem raw_any (h : row? W g = some (SV s)) (n : Int) (hn : -9223372036854775808 ≤ n ∧ n ≤ 9223372036854775807) :
    Calls Tryz.prog 162 #[.pointer (some ⟨g, 0, none⟩), .int .i64 n] W fun e w' => e = .returned (.string (strL (rawS s n).1)) ∧ row? w' g = some (SV (rawS s n).2) ∧ Touch W w' g none ∧ w'.heap.size = W.heap.size := by
  have hc := row_cell h
  have hf := row_frozen h
  have Hr := Lib.hid h
  have hz := strL_size s.left
  unfold SV at hc
  by_cases hs : s.dry = true ∨ n < 0 ∨ (s.left.length : Int) < n
  · have Hs := Lib.hid hs
    have hra : rawS s n = ([], dryS) := by unfold rawS; rw [if_pos hs]
    rw [hra]
    clear hra
    have hg : (s.dry || decide (n < 0) || decide ((s.left.length : Int) < n)) = true := by
      simp only [Bool.or_eq_true, decide_eq_true_eq, or_assoc]; exact hs
    clear hs
    go_enter Tryz.func162, Tryz.ntmps162
    clear h hn
    cases hsd : s.dry
    · rw [hsd] at hc hg
      rw [Bool.false_or] at hg
      go_wp2_with fail
      all_goals first
        | (refine (stop_any Hr.out).mono ?_; rintro e w' ⟨rfl, hr, hT, hzz⟩
           go_wp2
           go_ret
           exact ⟨rfl, hr, hT, hzz⟩)
        | (exfalso; simp only [Bool.or_eq_true, decide_eq_true_eq] at hg; omega)
    · rw [hsd] at hc
      go_wp2_with fail
      refine (stop_any Hr.out).mono ?_; rintro e w' ⟨rfl, hr, hT, hzz⟩
      go_wp2
      go_ret
      exact ⟨rfl, hr, hT, hzz⟩
  · have hra : rawS s n = (s.left.take n.toNat, ⟨s.left.drop n.toNat, false⟩) := by unfold rawS; rw [if_neg hs]
    rw [hra]
    clear hra h
    obtain ⟨m, rfl⟩ : ∃ m : Nat, n = m := ⟨n.toNat, by omega⟩
    have hd : s.dry = false := by cases hsd : s.dry <;> simp_all
    have hl : m ≤ s.left.length := by omega
    have hl2 : (m : Int) ≤ (s.left.length : Int) := by omega
    clear hs
    rw [hd] at hc
    rw [Int.toNat_natCast]
    have e1 := strL_take s.left m
    have e2 := strL_drop s.left m
    generalize strL s.left = B at *
    generalize strL (s.left.take m) = X at *
    go_enter Tryz.func162, Tryz.ntmps162
    go_wp2
    go_ret
    refine ⟨rfl, ?_, grown_cell _ _ _ _, by simp [World.setCell]⟩
    rw [row_setCell, if_pos rfl, Hr.out]
    show some _ = _
    simp [SV, hd]
end
end Go.Proofs.YtomlilkobhkoiaaGreatDoor
/- Layer 1: the plain law of numbers as bytes, seven bits at a time. No program stands here. -/
namespace Go.Proofs.YtomlilkobhkoiaaGreatDoor
set_option linter.unusedVariables false
/-- A number's bytes. -/
def enc (n : Nat) : List UInt8 :=
  if h : n < 128 then [UInt8.ofNat n] else UInt8.ofNat (128 + n % 128) :: enc (n / 128)
termination_by n
decreasing_by omega
/-- The number with which bytes begin, read from place i on, u being what stands so far; and what follows. -/
def dec (most : Nat) : Nat → Nat → List UInt8 → Option (Nat × List UInt8)
  | _, _, [] => none
  | i, u, x :: s =>
    if 8 < i then none
    else if x.toNat < 128 then
      if x.toNat = 0 ∧ 0 < i ∨ most < u + x.toNat * 128 ^ i then none else some (u + x.toNat * 128 ^ i, s)
    else dec most (i + 1) (u + (x.toNat - 128) * 128 ^ i) s
theorem enc_small {n : Nat} (h : n < 128) : enc n = [UInt8.ofNat n] := by rw [enc, dif_pos h]
theorem enc_great {n : Nat} (h : ¬ n < 128) : enc n = UInt8.ofNat (128 + n % 128) :: enc (n / 128) := by rw [enc, dif_neg h]
theorem enc_pos (n : Nat) : 0 < (enc n).length := by
  by_cases h : n < 128
  · rw [enc_small h]; simp
  · rw [enc_great h]; simp
/-- What was written is read, if it is not too great and fits. -/
theorem dec_enc (most : Nat) : ∀ (k i u n : Nat) (s : List UInt8), n < 128 ^ k → i + k ≤ 9 → (0 < i → 0 < n) → u + n * 128 ^ i ≤ most → dec most i u (enc n ++ s) = some (u + n * 128 ^ i, s)
  | 0, i, u, n, s, hk, hi, hp, hm => by
    have h0 : n = 0 := by simp at hk; exact hk
    have hi0 : i = 0 := by omega
    subst h0; subst hi0
    rw [enc_small (by omega)]
    simp [dec]
    omega
  | k + 1, i, u, n, s, hk, hi, hp, hm => by
    by_cases h : n < 128
    · rw [enc_small h]
      have hx : (UInt8.ofNat n).toNat = n := by rw [UInt8.toNat_ofNat']; omega
      simp only [List.singleton_append, dec, hx]
      rw [if_neg (by omega), if_pos h, if_neg (by omega)]
    · rw [enc_great h]
      have hx : (UInt8.ofNat (128 + n % 128)).toNat = 128 + n % 128 := by rw [UInt8.toNat_ofNat']; omega
      simp only [List.cons_append, dec, hx]
      have hsplit : u + (128 + n % 128 - 128) * 128 ^ i + n / 128 * 128 ^ (i + 1) = u + n * 128 ^ i := by
        have e1 : 128 + n % 128 - 128 = n % 128 := by omega
        have e2 : n / 128 * 128 ^ (i + 1) = (n / 128 * 128) * 128 ^ i := by rw [Nat.pow_succ, Nat.mul_comm (128 ^ i) 128, Nat.mul_assoc]
        have e3 : n % 128 + n / 128 * 128 = n := by omega
        rw [e1, e2, Nat.add_assoc, ← Nat.add_mul, e3]
      rw [if_neg (by omega), if_neg (by omega)]
      have hk2 : n / 128 < 128 ^ k := by rw [Nat.pow_succ] at hk; omega
      have hm2 : u + (128 + n % 128 - 128) * 128 ^ i + n / 128 * 128 ^ (i + 1) ≤ most := by rw [hsplit]; exact hm
      have ih := dec_enc most k (i + 1) _ (n / 128) s hk2 (by omega) (by omega) hm2
      rw [hsplit] at ih
      exact ih
/-- What is read was written so. -/
theorem dec_some (most : Nat) : ∀ (s : List UInt8) (i u v : Nat) (r : List UInt8), dec most i u s = some (v, r) →
    ∃ n, v = u + n * 128 ^ i ∧ v ≤ most ∧ s = enc n ++ r ∧ (0 < i → 0 < n) ∧ n < 128 ^ (9 - i)
  | [], i, u, v, r, h => by simp [dec] at h
  | x :: s, i, u, v, r, h => by
    simp only [dec] at h
    have hxb := x.toNat_lt
    split at h
    · simp at h
    · split at h
      · rename_i h8 hx
        split at h
        · simp at h
        · rename_i hc
          injection h with h
          injection h with h1 h2
          subst h1; subst h2
          refine ⟨x.toNat, rfl, by omega, ?_, by omega, ?_⟩
          · rw [enc_small hx]; simp
          · obtain ⟨j, hj⟩ : ∃ j, 9 - i = j + 1 := ⟨8 - i, by omega⟩
            rw [hj, Nat.pow_succ]
            have : 0 < 128 ^ j := Nat.pow_pos (by omega)
            omega
      · rename_i h8 hx
        obtain ⟨n, hv, hm, hs, hp, hn⟩ := dec_some most s _ _ v r h
        have hn0 := hp (by omega)
        refine ⟨n * 128 + (x.toNat - 128), ?_, hm, ?_, by omega, ?_⟩
        · rw [hv, Nat.pow_succ, Nat.add_mul, Nat.mul_assoc, Nat.mul_comm 128 (128 ^ i)]; omega
        · rw [enc_great (by omega)]
          have e1 : (n * 128 + (x.toNat - 128)) / 128 = n := by omega
          have e2 : 128 + (n * 128 + (x.toNat - 128)) % 128 = x.toNat := by omega
          rw [e1, e2, hs]; simp
        · obtain ⟨j, hj⟩ : ∃ j, 9 - i = j + 1 := ⟨8 - i, by omega⟩
          have hj2 : 9 - (i + 1) = j := by omega
          rw [hj2] at hn
          rw [hj, Nat.pow_succ]; omega
end Go.Proofs.YtomlilkobhkoiaaGreatDoor
/- Layer 1, writing: a sink in memory, and what each call puts there. -/
namespace Go.Proofs.YtomlilkobhkoiaaGreatDoor
open Go.RowKit
set_option linter.unusedVariables false
attribute [local go_sem] row_alloc row_drew row_drewN row_ext row_setCell row_setRow size_ext setRow_alloc setRow_drew
attribute [local go_sem high] cell_alloc frozen_alloc setCell_alloc cell_ext frozen_ext
theorem u8_info' : ∃ i, Tryz.prog.info? 5 = some i ∧ i.zero = some (.int .u8 0) ∧ i.size = 1 ∧ i.bytes = 1 := by
  have h : (Tryz.prog.info? 5).map (fun i => (i.zero, i.size, i.bytes)) = some (some (.int .u8 0), 1, 1) := by kernel_rfl
  cases hi : Tryz.prog.info? 5 with
  | none => rw [hi] at h; simp at h
  | some i => rw [hi] at h; simp at h; exact ⟨i, rfl, h.1, h.2.1, h.2.2⟩
/-- Bytes of the call's own. -/
abbrev byR (v : Value) (l : List UInt8) : Res := vecR 5 1 v l.length (bytesV l)
/-- A sink in memory. -/
def snkR (g : Nat) (l : List UInt8) : Res := exR fun v => starR (rowR g #[v]) (byR v l)
section
variable {w W : World} {F : Nat → Prop} {R : List Res} {g : Nat} {l : List UInt8}
theorem vec_shape {e : TypeId} {size n : Nat} {v : Value} {xs : List Value} (h : Sts w F W (vecR e size v n xs :: R)) : ∃ A c, v = .slice A n c := by
  rcases h.vec.2 with ⟨rfl, rfl⟩ | ⟨g, cap, cur, rfl, _⟩
  · exact ⟨_, _, rfl⟩
  · exact ⟨_, _, rfl⟩
theorem snk_open (h : Sts w F W (snkR g l :: R)) : ∃ A c, Sts w F W (rowR g #[.slice A l.length c] :: byR (.slice A l.length c) l :: R) := by
  obtain ⟨v, h⟩ := h.open
  have h := h.split
  obtain ⟨A, c, rfl⟩ := vec_shape h.swap
  exact ⟨A, c, h⟩
theorem snk_shut {v : Value} (h : Sts w F W (rowR g #[v] :: byR v l :: R)) : Sts w F W (snkR g l :: R) := h.join.close v
theorem by_back {v : Value} (T : Sts w F W (byR v l :: R)) : (convert 73 9 v).run Tryz.prog W = .ok (.string ⟨l.toArray⟩) W := by
  have ho := T.vec
  rcases ho.2 with ⟨rfl, h0⟩ | ⟨g', cap, cur, rfl, hg', _⟩
  · have : l = [] := List.eq_nil_of_length_eq_zero h0
    subst this
    exact run_convert_bytes_nil W _ _ Tryz.underlying73 Tryz.underlying5 0 0 _ Tryz.underlying9
  · refine run_convert_bytes_back W _ _ _ _ _ l Tryz.underlying73 Tryz.underlying5 Tryz.underlying9 fun j hj => ?_
    refine ho.cells (g := g') rfl j _ ?_
    simp [bytesV, byteV, List.getElem?_eq_getElem hj]
end
set_option maxHeartbeats 1000000 in
theorem sinkBytesQ {w W : World} {F : Nat → Prop} {R : List Res} {g : Nat} {l : List UInt8} (T : Sts w F W (snkR g l :: R)) : Calls Tryz.prog 93 #[.pointer (some ⟨g, 0, none⟩)] W fun e W' => e = .returned (.string (strL l)) ∧ W = W' := by
  obtain ⟨A, c, T⟩ := snk_open T
  have hc := row_cell T.row
  have hcv := by_back T.swap
  clear T
  go_enter Tryz.func93, Tryz.ntmps93
  go_wp2
  go_ret
  exact ⟨rfl, rfl⟩
theorem sinkBytesD (g : Nat) (l : List UInt8) : Does Tryz.prog 93 #[.pointer (some ⟨g, 0, none⟩)] [snkR g l] (.string (strL l)) [snkR g l] := fun W G h =>
  (sinkBytesQ (Sts.start h)).mono fun e W' ⟨he, hw⟩ => ⟨he, hw ▸ Sts.start h⟩
set_option maxHeartbeats 1000000 in
theorem sinkRawD (g : Nat) (l : List UInt8) (t : ByteArray) (hb : l.length + t.size ≤ 1000000000000) : Does Tryz.prog 143 #[.pointer (some ⟨g, 0, none⟩), .string t] [snkR g l] (.tuple #[]) [snkR g (l ++ t.data.toList)] := by
  intro W G h
  obtain ⟨A, c, T⟩ := snk_open (Sts.start h)
  have hc := row_cell T.row
  obtain ⟨i0, hi, hz0, hz1, hz2⟩ := u8_info'
  have T1 := T.swap
  clear h
  go_enter Tryz.func143, Tryz.ntmps143
  go_wp2_with (at_builtin; refine wpList_append_vecStr rfl _ _ 73 9 rfl 5 i0 Tryz.underlying73 Tryz.underlying9 hi hz0 hz1 hz2 _ _ _ rfl T1 t rfl ?c3 ?c4 ?_)
  case c3 => unfold maxLen; omega
  case c4 => omega
  intro v' w1 T2
  obtain ⟨A', c', rfl⟩ := vec_shape T2
  have hc1 := row_cell T2.row1
  have hf1 := row_frozen T2.row1
  clear T T1 hc
  go_wp2
  go_end0
  refine ⟨rfl, snk_shut (v := .slice A' (l.length + t.size) c') ?_⟩
  have e : l.length + t.size = (l ++ t.data.toList).length := by rw [List.length_append]; rfl
  have e2 : bytesV l ++ Lib.strCells t = bytesV (l ++ t.data.toList) := by rw [bytesV_str]; simp [bytesV]
  rw [e, e2] at T2
  rw [e]
  exact T2.swap.setCell 0 _
/-- The numbers' bytes, one behind the other. -/
def encs (ns : List Int) : List UInt8 := ns.flatMap fun n => enc n.toNat
theorem encs_snoc (ns : List Int) (n : Int) : encs (ns ++ [n]) = encs ns ++ enc n.toNat := by simp [encs]
theorem enc_len : ∀ (k n : Nat), n < 128 ^ (k + 1) → (enc n).length ≤ k + 1
  | 0, n, h => by rw [enc_small (by omega)]; simp
  | k + 1, n, h => by
    by_cases h' : n < 128
    · rw [enc_small h']; simp
    · rw [enc_great h']
      have := enc_len k (n / 128) (by rw [Nat.pow_succ] at h; omega)
      simp; omega
theorem enc_len9 {n : Nat} (h : n < 9223372036854775808) : (enc n).length ≤ 9 := enc_len 8 n h
theorem encs_len : ∀ {ns : List Int}, (∀ n ∈ ns, n < 9223372036854775808) → (encs ns).length ≤ 9 * ns.length
  | [], _ => by simp [encs]
  | n :: ns, h => by
    have h1 := enc_len9 (n := n.toNat) (by have := h n (by simp); omega)
    have h2 := encs_len (ns := ns) fun m hm => h m (by simp [hm])
    simp only [encs, List.flatMap_cons, List.length_append, List.length_cons] at *
    omega
set_option maxHeartbeats 1000000 in
set_option maxRecDepth 4000 in
theorem sinkNatD (g : Nat) (l : List UInt8) (q off c : Nat) (X : Array Value) (ns : List Int) (hX : ∀ j (hj : j < ns.length), X[off + j]? = some (.int .i64 ns[j])) (hns : ∀ n ∈ ns, -9223372036854775808 ≤ n ∧ n < 9223372036854775808)
    (hb : l.length + 9 * ns.length ≤ 1000000000) :
    Does Tryz.prog 138 #[.pointer (some ⟨g, 0, none⟩), .slice (some ⟨q, off, none⟩) ns.length c] [snkR g l, rowR q X] (.tuple #[]) [snkR g (l ++ encs ns), rowR q X] := by
  intro W G hS
  obtain ⟨i0, hi, hz0, hz1, hz2⟩ := u8_info'
  have T := Sts.start hS
  clear hS
  go_enter Tryz.func138, Tryz.ntmps138
  go_wp2
  go_loopw [9] (fun i wr => ∃ k : Nat, k ≤ ns.length ∧ i = .int .i64 k ∧ Sts W G wr [snkR g (l ++ encs (ns.take k)), rowR q X]) (fun i _ => ns.length - (intOf i).toNat)
  case atStart => exact ⟨0, by omega, rfl, by simpa [encs] using T⟩
  case round =>
    clear T
    obtain ⟨k, hk, rfl, T⟩ := hrel
    by_cases hlt : k < ns.length
    · have hc := row_cell T.row1 (off + k)
      rw [hX k hlt] at hc
      have hn := hns ns[k] (List.getElem_mem hlt)
      have hsn : ns.take (k + 1) = ns.take k ++ [ns[k]] := by rw [List.take_succ_eq_append_getElem hlt]
      have he := encs_snoc (ns.take k) ns[k]
      rw [← hsn] at he
      have hlen := encs_len (ns := ns.take k) fun n hn => (hns n (List.mem_of_mem_take hn)).2
      have hl9 := enc_len9 (n := ns[k].toNat) (by omega)
      rw [List.length_take, Nat.min_eq_left hk] at hlen
      have HE := Lib.hid he; clear he hsn
      generalize ns[k] = n at *
      have hcur : (l ++ encs (ns.take k)).length + 9 ≤ 1000000000 := by rw [List.length_append]; omega
      generalize hcu : l ++ encs (ns.take k) = cur at *
      have HC := Lib.hid hcu; clear hcu hlen
      go_wp2
      all_goals
        go_loopw [6] (fun u wr => ∃ (v : Nat) (cu : List UInt8), u = .int .u64 v ∧ v < 9223372036854775808 ∧ cu ++ enc v = cur ++ enc n.toNat ∧ Sts W G wr [snkR g cu, rowR q X]) (fun u _ => (intOf u).toNat)
        case atStart => exact ⟨n.toNat, cur, by first | (congr 1; omega) | (congr 1; simp; omega), by omega, rfl, T⟩
        case round =>
          clear T hc
          obtain ⟨v, cu, rfl, hv, hcu, T⟩ := hrel
          have hlen : cu.length + (enc v).length = cur.length + (enc n.toNat).length := by rw [← List.length_append, hcu, List.length_append]
          have hp := enc_pos v
          have HCU := Lib.hid hcu; clear hcu
          obtain ⟨A, c1, T⟩ := snk_open T
          have hc1 := row_cell T.row
          by_cases hv128 : v < 128
          · have hs := enc_small hv128
            have hx : IntKind.u8.wrap (v : Int) = ((UInt8.ofNat v).toNat : Int) := by
              rw [UInt8.toNat_ofNat', IntKind.wrap_u8]; omega
            have T1 := T.swap.keep (.cells #[.int .u8 ((UInt8.ofNat v).toNat : Int)] 5)
            have Hs := Lib.hid hs; clear hs
            generalize UInt8.ofNat v = x at *
            go_wp2_with (at_builtin; refine wpList_append_vec rfl _ _ 73 rfl 5 i0 (.int .u8 0) 1 1 Tryz.underlying73 hi hz0 hz1 hz2 rfl (by decide) _ _ _ rfl T1 ⟨wr.heap.size, 0, none⟩ 1 1 [.int .u8 (x.toNat : Int)] rfl rfl (cell_one_new _ _ _) (by simp [Value.oneCell']) (by unfold maxLen; omega) (by omega) ?_)
            intro v' w1 T2
            obtain ⟨A', c', rfl⟩ := vec_shape T2
            have hc2 := row_cell T2.row1
            have hf2 := row_frozen T2.row1
            clear T T1 hc1
            have HS : ∀ {w2}, Sts W G w2 [snkR g (cu ++ [x]), rowR q X] → Sts W G w2 [snkR g (l ++ encs (ns.take (k + 1))), rowR q X] := by
              intro w2 h; rw [HE.out, ← List.append_assoc, HC.out, ← HCU.out, Hs.out]; exact h
            have T3 : Sts W G (w1.setCell ⟨g, 0, none⟩ (.slice A' (cu.length + 1) c')) [snkR g (cu ++ [x]), rowR q X] := by
              refine snk_shut (v := .slice A' (cu.length + 1) c') ?_
              have e : cu.length + 1 = (cu ++ [x]).length := by simp
              have e2 : bytesV cu ++ [Value.int .u8 (x.toNat : Int)] = bytesV (cu ++ [x]) := by simp [bytesV, byteV]
              rw [e, e2] at T2
              rw [e]
              exact T2.swap.setCell 0 _
            have T4 := HS T3
            clear T2 T3 HS
            go_wp2
            go_roundw
            case rel => exact ⟨k + 1, by omega, by go_num, T4⟩
            case measure => simp [intOf]; omega
          · have hs := enc_great hv128
            have hx0 : IntKind.u8.wrap (v : Int) = ((v % 256 : Nat) : Int) := by rw [IntKind.wrap_u8]; omega
            have hx : bits .or .u8 ((v % 256 : Nat) : Int) 128 = ((UInt8.ofNat (128 + v % 128)).toNat : Int) := by
              have h1 := u8_or_nat (v % 256) 128 (by omega) (by omega)
              rw [show ((128 : Nat) : Int) = 128 from rfl] at h1
              rw [h1, UInt8.toNat_ofNat']
              have h2 : ∀ b : Nat, b < 256 → b ||| 128 = 128 + b % 128 := by decide
              rw [h2 _ (by omega)]; omega
            have T1 := T.swap.keep (.cells #[.int .u8 ((UInt8.ofNat (128 + v % 128)).toNat : Int)] 5)
            have Hs := Lib.hid hs; clear hs
            generalize UInt8.ofNat (128 + v % 128) = x at *
            generalize v % 256 = v256 at *
            go_wp2_with (at_builtin; refine wpList_append_vec rfl _ _ 73 rfl 5 i0 (.int .u8 0) 1 1 Tryz.underlying73 hi hz0 hz1 hz2 rfl (by decide) _ _ _ rfl T1 ⟨wr.heap.size, 0, none⟩ 1 1 [.int .u8 (x.toNat : Int)] rfl rfl (cell_one_new _ _ _) (by simp [Value.oneCell']) (by unfold maxLen; omega) (by omega) ?_)
            intro v' w1 T2
            obtain ⟨A', c', rfl⟩ := vec_shape T2
            have hc2 := row_cell T2.row1
            have hf2 := row_frozen T2.row1
            clear T T1 hc1
            have T3 : Sts W G (w1.setCell ⟨g, 0, none⟩ (.slice A' (cu.length + 1) c')) [snkR g (cu ++ [x]), rowR q X] := by
              refine snk_shut (v := .slice A' (cu.length + 1) c') ?_
              have e : cu.length + 1 = (cu ++ [x]).length := by simp
              have e2 : bytesV cu ++ [Value.int .u8 (x.toNat : Int)] = bytesV (cu ++ [x]) := by simp [bytesV, byteV]
              rw [e, e2] at T2
              rw [e]
              exact T2.swap.setCell 0 _
            clear T2
            go_wp2
            go_roundw
            case rel => exact ⟨v / 128, cu ++ [x], by first | rfl | go_num | (congr 1; simp), by omega, by rw [List.append_assoc, ← HCU.out, Hs.out]; rfl, T3⟩
            case measure => simp [intOf]; omega
    · obtain rfl : k = ns.length := by omega
      rw [List.take_length] at T
      go_wp2
      go_end0
      exact ⟨rfl, T⟩
set_option maxHeartbeats 1000000 in
theorem sinkTextD (g : Nat) (l : List UInt8) (t : ByteArray) (hb : l.length + t.size ≤ 900000000) :
    Does Tryz.prog 206 #[.pointer (some ⟨g, 0, none⟩), .string t] [snkR g l] (.tuple #[]) [snkR g (l ++ enc t.size ++ t.data.toList)] := by
  intro W G hS
  have T := (Sts.start hS).new #[.int .i64 t.size] 3
  clear hS
  have h9 := enc_len9 (n := t.size) (by omega)
  go_enter Tryz.func206, Tryz.ntmps206
  go_wp2_with fail
  refine (Does.at2 (sinkNatD g l W.heap.size 0 1 _ [(t.size : Int)] (by intro j hj; simp at hj; subst hj; rfl) (by simp; omega) (by simp; omega)) T.swap).mono ?_; clear T; rintro e w1 ⟨rfl, T⟩
  go_wp2_with fail
  refine (Does.at1 (sinkRawD g _ t ?_) T).mono ?_
  · simp [encs]; omega
  rintro e w2 ⟨rfl, T2⟩
  clear T
  go_wp2
  go_end0
  refine ⟨rfl, ?_⟩
  have := T2.swap.drop
  simpa [encs] using this
end Go.Proofs.YtomlilkobhkoiaaGreatDoor
/- The document's bytes of numbers and texts. -/
namespace Go.Proofs.YtomlilkobhkoiaaGreatDoor
open Go.RowKit
set_option linter.unusedVariables false
set_option maxRecDepth 20000
attribute [local go_sem] row_alloc row_drew row_drewN row_ext row_setCell row_setRow size_ext setRow_alloc setRow_drew
attribute [local go_sem high] cell_alloc frozen_alloc setCell_alloc cell_ext frozen_ext
end Go.Proofs.YtomlilkobhkoiaaGreatDoor
