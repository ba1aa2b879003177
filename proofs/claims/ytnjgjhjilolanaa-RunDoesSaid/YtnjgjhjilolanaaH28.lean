/- Several texts in one. -/
import Derived.Test.YtnjgjhjilolanaaH19
import Derived.Laws.IdiomCopy
import Derived.Test.YtnjgjhjilolanaaH27
/- Slices of items: what is over is taken out of one; its tail is cleared. -/
namespace Go.Proofs.Ytnjgjhjilolanaa
open Go.RowKit Go.Shelf
set_option linter.unusedVariables false
set_option maxRecDepth 20000
attribute [local go_sem] row_alloc row_drew row_drewN row_ext row_setCell row_setRow size_ext setRow_alloc setRow_drew loadOf storeOf piece_lit loadVal_at storeVal_at allOne_lit buildOf buildRes_some
attribute [local go_sem high] cell_alloc frozen_alloc setCell_alloc cell_ext frozen_ext cell_setRow frozen_setRow
attribute [local go_sem ↓] TDeed_ld0 TDeed_st0 TDeed_fd0 TDeed_bd0
attribute [local go_sem] TDeed_size TDeed_one TDeed_piece TDeed_c0 TDeed_c1 TDeed_c2 TDeed_c3 TDeed_c4 TDeed_c5 TDeed_set_kind TDeed_set_key TDeed_set_val TDeed_set_ver TDeed_set_ses TDeed_set_num TDeed_ld TDeed_st TDeed_f_kind TDeed_f_key TDeed_f_val TDeed_f_ver TDeed_f_ses TDeed_f_num TDeed_bd TDeed_fl TDeed_fl_kind TDeed_fl_key TDeed_fl_val TDeed_fl_ver TDeed_fl_ses TDeed_fl_num
attribute [local go_sem high] TDeed_eql TDeed_neq
attribute [local go_sem ↓] index_deps0 load_deps0 store_deps0
attribute [local go_sem] DV_piece DV_size DV_one index_deps load_deps store_deps
attribute [local go_sem high] TDeps_eql TDeps_neq
attribute [local go_sem ↓] TCall_ld0 TCall_st0 TCall_fd0 TCall_bd0
attribute [local go_sem] TCall_size TCall_one TCall_piece TCall_c0 TCall_c1 TCall_c2 TCall_c3 TCall_c4 TCall_c5 TCall_c6 TCall_c7 TCall_c8 TCall_c9 TCall_c10 TCall_c11 TCall_c12 TCall_c13 TCall_p_deed TCall_put_deed TCall_p_deps TCall_put_deps TCall_set_seq TCall_ld TCall_st TCall_f_deed TCall_f_deps TCall_f_seq TCall_bd TCall_fl TCall_fl_deed TCall_fl_deps TCall_fl_seq
attribute [local go_sem high] TCall_eql TCall_neq
attribute [local go_sem ↓] TItem_ld0 TItem_st0 TItem_fd0 TItem_bd0
attribute [local go_sem] TItem_size TItem_one TItem_piece TItem_c0 TItem_c1 TItem_set_rep TItem_set_num TItem_ld TItem_st TItem_f_rep TItem_f_num TItem_bd TItem_fl TItem_fl_rep TItem_fl_num
attribute [local go_sem high] TItem_eql TItem_neq
section
variable {w W : World} {F : Nat → Prop} {R : List Res}
theorem itm_under : Try.prog.underlying 30 = some (.slice 35) := by kernel_rfl
theorem Sts.clearTail {g c k : Nat} {l : List Item} (hk : k ≤ l.length) (ty : TypeId) (T : Sts w F W (vecR 35 2 (.slice (some ⟨g, 0, none⟩) l.length c) l.length (vl IV l) :: R)) :
    ∃ W1, (Builtin.clear_ #[30] ty #[.slice (some ⟨g, k * 2, none⟩) (l.length - k) (c - k)]).run Try.prog W = .ok (.tuple #[]) W1 ∧ Sts w F W1 (vecR 35 2 (.slice (some ⟨g, 0, none⟩) k c) (l.take k).length (vl IV (l.take k)) :: R) := by
  by_cases hkl : k = l.length
  · refine ⟨W, ?_, T.vecShort TItem_size hk rfl⟩
    rw [show l.length - k = 0 by omega]
    simp [Builtin.clear_, run_underlying itm_under]
  · obtain ⟨n, hn⟩ : ∃ n, l.length - k = n + 1 := ⟨l.length - k - 1, by omega⟩
    obtain ⟨vs, hvs⟩ : ∃ vs, vs = (Builtin.zeroCells (IV noItem) (n + 1)).toList := ⟨_, rfl⟩
    have hlen : vs.length = (n + 1) * 2 := by rw [hvs]; simp [Builtin.zeroCells, IV]
    have hone : ∀ v ∈ vs, v.oneCell' = true := by
      rw [hvs]
      intro v hv
      simp only [Builtin.zeroCells, Array.toList_map, List.mem_map] at hv
      obtain ⟨i, -, rfl⟩ := hv
      have hs : (IV noItem).size = 2 := rfl
      rw [hs]
      have : i % 2 = 0 ∨ i % 2 = 1 := by omega
      rcases this with h | h <;> rw [h] <;> rfl
    rcases T.vec.2 with ⟨hv, _⟩ | ⟨g', cap, cur, hv, -, hg, hnc, hcm, hcs, htk⟩
    · cases hv
    · injection hv with e1 e2 e3
      injection e1 with e1
      injection e1 with e1
      subst e1 e3
      have hr : row? W g = some cur := by unfold row?; rw [hg]; rfl
      have hc : ∀ j, j < vs.length → (W.cell? ⟨g, k * 2 + 0 + j, none⟩).isSome = true := fun j hj => by
        rw [row_cell hr]
        rw [Array.getElem?_eq_getElem (by omega)]
        rfl
      have hf : ∀ j, j < vs.length → W.frozen? ⟨g, k * 2 + 0 + j, none⟩ = false := fun j hj => row_frozen hr _
      have hst := run_storeCells_cells (P := Try.prog) g (k * 2) vs 0 W hc hf hone
      rw [Nat.add_zero] at hst
      refine ⟨W.setCells g (k * 2) vs, ?_, ?_⟩
      · rw [hn]
        have hz : (Builtin.zeroCells (Value.agg #[Value.int .i64 0, Value.int .i64 0]).cells (n + 1)).toList = vs := hvs.symm
        simp [Builtin.clear_, run_underlying itm_under, hz, hst]
      · rw [setCells_row g vs W (k * 2) cur hr]
        refine T.turn fun A hA => ⟨A, ?_, fun _ h => .inl h, rfl, rfl, rfl, by simp, fun j hj hn => setRow_other W g j _ fun e => hn ((hA.2 j).2 (by rw [e]; rfl))⟩
        refine ⟨⟨?_, .inr ⟨g, c, setMany cur (k * 2) vs, ?_, Nat.zero_le _, ?_, ?_, hcm, ?_, ?_⟩⟩, hA.2⟩
        · unfold vl; rw [Array.length_toList, flatV_size TItem_size]
        · rw [List.length_take, Nat.min_eq_left hk]
        · exact setRow_heap W g cur _ _ (0, 0) hg
        · rw [List.length_take]; omega
        · rw [setMany_size]; exact hcs
        · have h1 : (l.take k).length = k := by rw [List.length_take, Nat.min_eq_left hk]
          rw [h1]
          have hvl : (vl IV (l.take k)).length = k * 2 := by
            unfold vl
            rw [Array.length_toList, flatV_size TItem_size, h1]
          have h2 : (vl IV l).take (k * 2) = vl IV (l.take k) := by
            have h3 : vl IV l = vl IV (l.take k) ++ vl IV (l.drop k) := by
              unfold vl; rw [← Array.toList_append, ← flatV_append, List.take_append_drop]
            rw [h3, List.take_append_of_le_length (by omega), List.take_of_length_le (by omega)]
          rw [← h2, ← htk, List.take_take, Nat.min_eq_left (by omega)]
          apply List.ext_getElem?
          intro i
          rw [List.getElem?_take, List.getElem?_take]
          split
          · rename_i hi
            rw [Array.getElem?_toList, Array.getElem?_toList, setMany_get, if_neg (by omega)]
          · rfl
end
end Go.Proofs.Ytnjgjhjilolanaa
/- Slices of items: what is over is taken out of one. -/
namespace Go.Proofs.Ytnjgjhjilolanaa
open Go.RowKit Go.Shelf
set_option linter.unusedVariables false
set_option maxRecDepth 20000
attribute [local go_sem] row_alloc row_drew row_drewN row_ext row_setCell row_setRow size_ext setRow_alloc setRow_drew loadOf storeOf piece_lit loadVal_at storeVal_at allOne_lit buildOf buildRes_some
attribute [local go_sem high] cell_alloc frozen_alloc setCell_alloc cell_ext frozen_ext cell_setRow frozen_setRow
attribute [local go_sem ↓] TDeed_ld0 TDeed_st0 TDeed_fd0 TDeed_bd0
attribute [local go_sem] TDeed_size TDeed_one TDeed_piece TDeed_c0 TDeed_c1 TDeed_c2 TDeed_c3 TDeed_c4 TDeed_c5 TDeed_set_kind TDeed_set_key TDeed_set_val TDeed_set_ver TDeed_set_ses TDeed_set_num TDeed_ld TDeed_st TDeed_f_kind TDeed_f_key TDeed_f_val TDeed_f_ver TDeed_f_ses TDeed_f_num TDeed_bd TDeed_fl TDeed_fl_kind TDeed_fl_key TDeed_fl_val TDeed_fl_ver TDeed_fl_ses TDeed_fl_num
attribute [local go_sem high] TDeed_eql TDeed_neq
attribute [local go_sem ↓] index_deps0 load_deps0 store_deps0
attribute [local go_sem] DV_piece DV_size DV_one index_deps load_deps store_deps
attribute [local go_sem high] TDeps_eql TDeps_neq
attribute [local go_sem ↓] TCall_ld0 TCall_st0 TCall_fd0 TCall_bd0
attribute [local go_sem] TCall_size TCall_one TCall_piece TCall_c0 TCall_c1 TCall_c2 TCall_c3 TCall_c4 TCall_c5 TCall_c6 TCall_c7 TCall_c8 TCall_c9 TCall_c10 TCall_c11 TCall_c12 TCall_c13 TCall_p_deed TCall_put_deed TCall_p_deps TCall_put_deps TCall_set_seq TCall_ld TCall_st TCall_f_deed TCall_f_deps TCall_f_seq TCall_bd TCall_fl TCall_fl_deed TCall_fl_deps TCall_fl_seq
attribute [local go_sem high] TCall_eql TCall_neq
attribute [local go_sem ↓] TItem_ld0 TItem_st0 TItem_fd0 TItem_bd0
attribute [local go_sem] TItem_size TItem_one TItem_piece TItem_c0 TItem_c1 TItem_set_rep TItem_set_num TItem_ld TItem_st TItem_f_rep TItem_f_num TItem_bd TItem_fl TItem_fl_rep TItem_fl_num
attribute [local go_sem high] TItem_eql TItem_neq
noncomputable def ovB (q : RowsML) (y : Item) : Bool := (getML q y).isSome
abbrev cvO (b : Nat) : Value := .func (.func 14) #[.pointer (some ⟨b, 0, none⟩)] #[]
section
variable {w W : World} {F : Nat → Prop} {R : List Res} {b gc gd g c : Nat} {m : RowsMK} {q : RowsML} {d : Array Item}
set_option maxHeartbeats 8000000 in
theorem idxFuncT {n : Nat} (hd : d.size = n) (hn : n ≤ 1000000) (hq : 0 ≤ q.n ∧ q.n ≤ 7) (T : Sts w F W (itR g c d :: (grL b gc gd m q ++ R))) :
    Calls Try.prog 84 #[.slice (some ⟨g, 0, none⟩) n c, cvO b] W fun e W' =>
      (∃ k : Nat, (∀ j, j < k → ovB q d[j]! = false) ∧ ((k < n ∧ ovB q d[k]! = true ∧ e = .returned (.int .i64 k)) ∨ (k = n ∧ e = .returned (.int .i64 (-1))))) ∧ Sts w F W' (itR g c d :: (grL b gc gd m q ++ R)) := by
  have HT := Lib.hid T; clear T
  have HES := Lib.hid hd; clear hd
  go_enter Try.func84, Try.ntmps84
  go_wp2_with fail
  go_loopw [8] (fun u8 wr => ∃ k : Nat, u8 = .int .i64 k ∧ k ≤ n ∧ (∀ j, j < k → ovB q d[j]! = false) ∧ Sts w F wr (itR g c d :: (grL b gc gd m q ++ R))) (fun u8 _ => n - (intOf u8).toNat)
  case atStart => exact ⟨0, rfl, Nat.zero_le _, fun j hj => by omega, HT.out⟩
  case round =>
    clear HT
    obtain ⟨k, rfl, hk, hno, T⟩ := hrel
    have HNO := Lib.hid hno; clear hno
    by_cases hkn : k < n
    · have hk1 : (k : Int) < (n : Int) := by omega
      have hk0 : (0 : Int) ≤ (k : Int) := by omega
      have hld := T.itLoad (i := k) (by rw [HES.out]; exact hkn)
      have HOV := Lib.hid (grOverR b gc gd m q hq d[k]!)
      obtain ⟨ov, hov⟩ : ∃ v, v = ovB q d[k]! := ⟨_, rfl⟩
      have hov2 : (getML q d[k]!).isSome = ov := hov.symm
      rw [hov2] at HOV
      have HV := Lib.hid hov; clear hov hov2
      have HT := Lib.hid T; clear T
      generalize hy : d[k]! = y at *
      have HY := Lib.hid hy; clear hy
      go_wp2_with fail
      refine (Reads.itAtC (e := d) HOV.out (L := [itR g c d]) HT.out).mono ?_
      clear HOV hld
      rintro e5 w5 ⟨rfl, hb⟩
      have T := HT.out.pure hb
      clear hb HT
      have HT := Lib.hid T; clear T
      cases ov with
      | true =>
        go_wp2
        go_ret
        exact ⟨⟨k, HNO.out, .inl ⟨hkn, by rw [HY.out, ← HV.out], rfl⟩⟩, HT.out⟩
      | false =>
        go_wp2
        go_roundw
        case rel => exact ⟨k + 1, by go_num, by omega, fun j hj => by
          rcases Nat.lt_succ_iff_lt_or_eq.1 hj with h | h
          · exact HNO.out j h
          · subst h; rw [HY.out, ← HV.out], HT.out⟩
        case measure => simp [intOf]; omega
    · have hk1 : ¬ (k : Int) < (n : Int) := by omega
      have HT := Lib.hid T; clear T
      obtain rfl : k = n := by omega
      go_wp2
      go_ret
      exact ⟨⟨k, HNO.out, .inr ⟨rfl, rfl⟩⟩, HT.out⟩
theorem filt_snoc (p : Item → Bool) (d : Array Item) (j : Nat) (hj : j < d.size) : (d.toList.take (j + 1)).filter p = (d.toList.take j).filter p ++ (if p d[j]! = true then [d[j]!] else []) := by
  rw [List.take_succ_eq_append_getElem (by rw [Array.length_toList]; exact hj), List.filter_append, get_list d hj]
  by_cases h : p d[j]! = true <;> simp [h]
theorem filt_none (p : Item → Bool) (d : Array Item) (k : Nat) (hk : k ≤ d.size) (h : ∀ j, j < k → p d[j]! = true) : (d.toList.take k).filter p = d.toList.take k := by
  rw [List.filter_eq_self]
  intro y hy
  obtain ⟨j, hj, rfl⟩ := List.getElem_of_mem hy
  rw [List.getElem_take]
  rw [List.length_take] at hj
  have := h j (by omega)
  rw [← get_list d (by omega)] at this
  exact this
set_option maxHeartbeats 16000000 in
theorem delFuncT {n : Nat} (hd : d.size = n) (hn : n ≤ 1000000) (hq : 0 ≤ q.n ∧ q.n ≤ 7) (T : Sts w F W (itR g c d :: (grL b gc gd m q ++ R))) :
    Calls Try.prog 70 #[.slice (some ⟨g, 0, none⟩) n c, cvO b] W fun e W' =>
      ∃ v, e = .returned v ∧ Sts w F W' (vecR 35 2 v (d.toList.filter (fun y => !ovB q y)).length (vl IV (d.toList.filter (fun y => !ovB q y))) :: (grL b gc gd m q ++ R)) := by
  have HI := Lib.hid (idxFuncT hd hn hq T)
  have HD := Lib.hid hd
  clear T hd
  go_enter Try.func70, Try.ntmps70
  go_wp2_with fail
  refine HI.out.mono ?_
  clear HI
  rintro e1 w1 ⟨⟨k, hno, hk⟩, T⟩
  have hno2 : ∀ j, j < k → (fun y => !ovB q y) d[j]! = true := fun j hj => by simp [hno j hj]
  rcases hk with ⟨hkn, hov, rfl⟩ | ⟨rfl, rfl⟩
  · have hnk : ((k : Int) == -1) = false := by rw [beq_eq_false_iff_ne]; omega
    have hw : IntKind.i64.wrap ((k : Int) + 1) = ((k + 1 : Nat) : Int) := by rw [IntKind.wrap_i64] <;> omega
    have hst0 : d.toList.take k = (d.toList.take (k + 1)).filter (fun y => !ovB q y) := by
      rw [filt_snoc _ _ _ (by rw [HD.out]; exact hkn), filt_none _ _ _ (by rw [HD.out]; omega) hno2, if_neg (by simp [hov]), List.append_nil]
    have HST := Lib.hid hst0
    have HT := Lib.hid T; clear T hno hno2 hov hst0
    go_wp2_with fail
    go_loopw [5, 6] (fun u5 u6 wr => ∃ (i j : Nat) (e : Array Item), u5 = .int .i64 i ∧ u6 = .int .i64 j ∧ i < j ∧ j ≤ n ∧ e.size = n ∧ e.toList.take i = (d.toList.take j).filter (fun y => !ovB q y) ∧ (∀ t, j ≤ t → t < n → e[t]! = d[t]!) ∧ Sts w F wr (itR g c e :: (grL b gc gd m q ++ R))) (fun _ u6 _ => n - (intOf u6).toNat)
    case atStart => exact ⟨k, k + 1, d, rfl, by first | rfl | go_num, by omega, by omega, HD.out, HST.out, fun t _ _ => rfl, HT.out⟩
    case round =>
      clear HT HST hw hnk
      obtain ⟨i, j, e, hrel⟩ := hrel
      obtain ⟨rfl, rfl, hij, hj, hes, htk, hrest, T⟩ := hrel
      have HES := Lib.hid hes; have HTK := Lib.hid htk; have HRE := Lib.hid hrest
      clear hes htk hrest
      by_cases hjn : j < n
      · have hj1 : (j : Int) < (n : Int) := by omega
        have hj0 : (0 : Int) ≤ (j : Int) := by omega
        have hi0 : (0 : Int) ≤ (i : Int) := by omega
        have hin : (i : Int) < (n : Int) := by omega
        have hld := T.itLoad (i := j) (by rw [HES.out]; exact hjn)
        have hej : e[j]! = d[j]! := HRE.out j (Nat.le_refl _) hjn
        rw [hej] at hld
        have HOV := Lib.hid (grOverR b gc gd m q hq d[j]!)
        have HFS := Lib.hid (filt_snoc (fun y => !ovB q y) d j (by rw [HD.out]; exact hjn))
        obtain ⟨ov, hov⟩ : ∃ v, v = ovB q d[j]! := ⟨_, rfl⟩
        have hov2 : (getML q d[j]!).isSome = ov := hov.symm
        rw [hov2] at HOV
        simp only [← hov] at HFS
        clear hov hov2 hej
        generalize d[j]! = y at *
        have T2 := (T.new (IV y) 35)
        have HT := Lib.hid T2
        clear T T2
        go_upto_region 8 with fail
        generalize hw3 : wr.alloc _ = w3 at *
        generalize wr.heap.size = gy at *
        clear hw3 hld
        have hr := HT.out.row; have hlt := row_lt hr
        go_wp2_with fail
        refine (Reads.itAtC (e := e) HOV.out (L := [rowR gy (IV y), itR g c e]) HT.out).mono ?_
        clear HOV hr hlt
        rintro e5 w5 ⟨rfl, hb⟩
        have T := HT.out.pure hb
        clear hb HT
        cases ov with
        | true =>
          have HT := Lib.hid T.drop; clear T
          go_wp2
          go_roundw
          case rel => exact ⟨i, j + 1, e, rfl, by go_num, by omega, by omega, HES.out, by rw [HFS.out, HTK.out]; simp, fun t h1 h2 => HRE.out t (by omega) h2, HT.out⟩
          case measure => simp [intOf]; omega
        | false =>
          have hr := T.row; have hlt := row_lt hr
          obtain ⟨w6, h6, T6⟩ := T.drop.itSet (i := i) (by rw [HES.out]; omega) y
          have HT6 := Lib.hid T6; clear T T6
          go_wp2
          go_roundw
          case rel => exact ⟨i + 1, j + 1, e.setIfInBounds i y, by go_num, by go_num, by omega, by omega, by simp [HES.out], by
              rw [HFS.out, ← HTK.out]
              have h1 : i < (e.setIfInBounds i y).toList.length := by simp [HES.out]; omega
              rw [List.take_succ_eq_append_getElem h1]
              simp
              apply List.ext_getElem?
              intro t
              rw [List.getElem?_take, List.getElem?_take]
              split
              · rw [List.getElem?_set_ne (by omega)]
              · rfl, fun t h1 h2 => by
              rw [← HRE.out t (by omega) h2]
              simp only [Array.getElem!_eq_getD, Array.getD_eq_getD_getElem?, Array.getElem?_setIfInBounds]
              rw [if_neg (by omega)], HT6.out⟩
          case measure => simp [intOf]; omega
      · have hj1 : ¬ (j : Int) < (n : Int) := by omega
        obtain rfl : j = n := by omega
        have hin : (i : Int) ≤ (j : Int) := by omega
        have hi0 : (0 : Int) ≤ (i : Int) := by omega
        have T' : Sts w F wr (vecR 35 2 (.slice (some ⟨g, 0, none⟩) e.toList.length c) e.toList.length (vl IV e.toList) :: (grL b gc gd m q ++ R)) := T
        have hjc : j ≤ c := by
          rcases T'.vec.2 with ⟨h, h0⟩ | ⟨g1, cap, cur, h, _, _, h2, _⟩
          · cases h
          · injection h with e1 e2 e3
            rw [Array.length_toList, HES.out] at h2
            omega
        obtain ⟨w6, h6, T6⟩ := T'.clearTail (k := i) (by rw [Array.length_toList, HES.out]; omega) 0
        rw [Array.length_toList, HES.out] at h6
        have hfl : e.toList.take i = d.toList.filter (fun y => !ovB q y) := by
          rw [HTK.out, List.take_of_length_le (by rw [Array.length_toList, HD.out]; exact Nat.le_refl _)]
        rw [hfl] at T6
        have HT6 := Lib.hid T6
        clear T T' T6 hfl
        go_wp2
        go_ret
        exact ⟨_, rfl, HT6.out⟩
  · have HT := Lib.hid T; clear T
    have hfl : d.toList.filter (fun y => !ovB q y) = d.toList := by
      have := filt_none (fun y => !ovB q y) d k (by rw [HD.out]; exact Nat.le_refl _) hno2
      rw [List.take_of_length_le (by rw [Array.length_toList, HD.out]; exact Nat.le_refl _)] at this
      exact this
    have HFL := Lib.hid hfl
    clear hfl hno hno2
    go_wp2
    go_ret
    refine ⟨_, rfl, ?_⟩
    have T9 := HT.out
    unfold itR at T9
    rw [HD.out] at T9
    rw [HFL.out, Array.length_toList, HD.out]
    exact T9
end
end Go.Proofs.Ytnjgjhjilolanaa
/- Layer 19: a part is done. -/
namespace Go.Proofs.Ytnjgjhjilolanaa
open Go.RowKit Go.Shelf
set_option linter.unusedVariables false
set_option maxRecDepth 20000
attribute [local go_sem] row_alloc row_drew row_drewN row_ext row_setCell row_setRow size_ext setRow_alloc setRow_drew loadOf storeOf piece_lit loadVal_at storeVal_at allOne_lit buildOf buildRes_some
attribute [local go_sem high] cell_alloc frozen_alloc setCell_alloc cell_ext frozen_ext cell_setRow frozen_setRow
attribute [local go_sem ↓] TDeed_ld0 TDeed_st0 TDeed_fd0 TDeed_bd0
attribute [local go_sem] TDeed_size TDeed_one TDeed_piece TDeed_c0 TDeed_c1 TDeed_c2 TDeed_c3 TDeed_c4 TDeed_c5 TDeed_set_kind TDeed_set_key TDeed_set_val TDeed_set_ver TDeed_set_ses TDeed_set_num TDeed_ld TDeed_st TDeed_f_kind TDeed_f_key TDeed_f_val TDeed_f_ver TDeed_f_ses TDeed_f_num TDeed_bd TDeed_fl TDeed_fl_kind TDeed_fl_key TDeed_fl_val TDeed_fl_ver TDeed_fl_ses TDeed_fl_num
attribute [local go_sem high] TDeed_eql TDeed_neq
attribute [local go_sem ↓] index_deps0 load_deps0 store_deps0
attribute [local go_sem] DV_piece DV_size DV_one index_deps load_deps store_deps
attribute [local go_sem high] TDeps_eql TDeps_neq
attribute [local go_sem ↓] TCall_ld0 TCall_st0 TCall_fd0 TCall_bd0
attribute [local go_sem] TCall_size TCall_one TCall_piece TCall_c0 TCall_c1 TCall_c2 TCall_c3 TCall_c4 TCall_c5 TCall_c6 TCall_c7 TCall_c8 TCall_c9 TCall_c10 TCall_c11 TCall_c12 TCall_c13 TCall_p_deed TCall_put_deed TCall_p_deps TCall_put_deps TCall_set_seq TCall_ld TCall_st TCall_f_deed TCall_f_deps TCall_f_seq TCall_bd TCall_fl TCall_fl_deed TCall_fl_deps TCall_fl_seq
attribute [local go_sem high] TCall_eql TCall_neq
attribute [local go_sem ↓] TItem_ld0 TItem_st0 TItem_fd0 TItem_bd0
attribute [local go_sem] TItem_size TItem_one TItem_piece TItem_c0 TItem_c1 TItem_set_rep TItem_set_num TItem_ld TItem_st TItem_f_rep TItem_f_num TItem_bd TItem_fl TItem_fl_rep TItem_fl_num
attribute [local go_sem high] TItem_eql TItem_neq
noncomputable def leftO (q : RowsML) (O : List Item) : List Item := O.filter (fun y => !ovB q y)
section
variable {w W : World} {F : Nat → Prop} {R : List Res} {r b gc gd g c : Nat} {m : RowsMK} {q : RowsML} {D O : List Item}
set_option maxHeartbeats 4000000 in
theorem idxNilT (T : Sts w F W R) :
    Calls Try.prog 84 #[.slice none 0 0, cvO b] W fun e W' => e = .returned (.int .i64 (-1)) ∧ Sts w F W' R := by
  have HT := Lib.hid T; clear T
  go_enter Try.func84, Try.ntmps84
  go_wp2_with fail
  go_loopw [8] (fun u8 wr => u8 = .int .i64 0 ∧ Sts w F wr R) (fun _ _ => 0)
  case atStart => exact ⟨rfl, HT.out⟩
  case round =>
    obtain ⟨rfl, T1⟩ := hrel
    have HT1 := Lib.hid T1; clear T1
    go_wp2
    go_ret
    exact ⟨rfl, HT1.out⟩
set_option maxHeartbeats 4000000 in
theorem delAnyT {l : List Item} {v : Value} (hl : l.length ≤ 1000000) (hq : 0 ≤ q.n ∧ q.n ≤ 7) (T : Sts w F W (vecR 35 2 v l.length (vl IV l) :: (grL b gc gd m q ++ R))) :
    Calls Try.prog 70 #[v, cvO b] W fun e W' =>
      ∃ v, e = .returned v ∧ Sts w F W' (vecR 35 2 v (leftO q l).length (vl IV (leftO q l)) :: (grL b gc gd m q ++ R)) := by
  rcases T.vec.2 with ⟨hv, h0⟩ | ⟨g, c, cur, hv, _⟩
  · subst hv
    have hl0 : l = [] := List.eq_nil_of_length_eq_zero (by simpa using h0)
    subst hl0
    have HI := Lib.hid (idxNilT (b := b) T)
    clear T
    go_enter Try.func70, Try.ntmps70
    go_wp2_with fail
    refine HI.out.mono ?_
    clear HI
    rintro e1 w1 ⟨rfl, T⟩
    have HT := Lib.hid T; clear T
    go_wp2
    go_ret
    exact ⟨_, rfl, HT.out⟩
  · subst hv
    have T2 : Sts w F W (itR g c l.toArray :: (grL b gc gd m q ++ R)) := T
    exact delFuncT (d := l.toArray) (by simp) hl hq T2
theorem vec_news {v : Value} {l : List Item} {gp cp n : Nat} (hn : l.length = n) (h0 : 0 < n) (hv : v = .slice (some ⟨gp, 0, none⟩) n cp) (T : Sts w F W (vecR 35 2 v l.length (vl IV l) :: R)) :
    (vl IV l).length = n * 2 ∧ (∀ j u, (vl IV l)[j]? = some u → W.cell? ((⟨gp, 0, none⟩ : Addr).add j) = some u) ∧ ∀ u ∈ vl IV l, u.oneCell' = true := by
  subst hn
  have hsz : ∀ j u, (vl IV l)[j]? = some u → j / 2 < l.length ∧ (IV (l[j / 2]!))[j % 2]? = some u := fun j u hj => by
    have hjl : j < l.length * 2 := by
      have := (List.getElem?_eq_some_iff.1 hj).1
      unfold vl at this
      rw [Array.length_toList, flatV_size TItem_size] at this
      exact this
    have hq : j / 2 < l.length := by omega
    have h2 := flatV_get TItem_size l (j / 2) hq (j % 2) (by omega)
    rw [show j / 2 * 2 + j % 2 = j by omega] at h2
    unfold vl at hj
    rw [Array.getElem?_toList, h2] at hj
    refine ⟨hq, ?_⟩
    rw [getElem!_pos l (j / 2) hq]
    exact hj
  refine ⟨by unfold vl; rw [Array.length_toList, flatV_size TItem_size], fun j u hj => ?_, fun u hu => ?_⟩
  · obtain ⟨hq, h2⟩ := hsz j u hj
    obtain ⟨g', c', hv2, -, hcell⟩ := vec_cell TItem_size T (by omega) hq
    rw [hv] at hv2
    injection hv2 with e1 e2 e3
    injection e1 with e1
    injection e1 with e1
    subst e1
    rw [getElem!_pos l (j / 2) hq] at h2
    have h3 := hcell (j % 2) u h2
    rw [add_none, Nat.zero_add]
    rw [show j / 2 * 2 + j % 2 = j by omega] at h3
    exact h3
  · obtain ⟨j, hj⟩ := List.getElem?_of_mem hu
    obtain ⟨hq, h2⟩ := hsz j u hj
    exact itm_one _ u (List.mem_of_getElem? (i := j % 2) (by rw [Array.getElem?_toList]; exact h2))
set_option maxHeartbeats 16000000 in
theorem runFinishT (hq : 0 ≤ q.n ∧ q.n ≤ 7) {p : List Item} {gp n cp : Nat} (hpn : p.length = n) (h0 : 0 < n) (hn : n ≤ 1000000) (hD : D.length ≤ 1000000) (hO : O.length ≤ 1000000) (T : Sts w F W (vecR 35 2 (.slice (some ⟨gp, 0, none⟩) n cp) p.length (vl IV p) :: runR r m q D O :: R)) :
    Calls Try.prog 58 #[.pointer (some ⟨r, 0, none⟩), .slice (some ⟨gp, 0, none⟩) n cp] W fun e W' => e = .returned (.tuple #[]) ∧ Sts w F W' (vecR 35 2 (.slice (some ⟨gp, 0, none⟩) n cp) p.length (vl IV p) :: runR r m (doneM q p) (D ++ p) (leftO (doneM q p) O) :: R) := by
  obtain ⟨b, gc, gd, vd, vo, T⟩ := T.swap.runOpen
  have T1 := T.ord [6, 1, 2, 3, 0, 4, 5]
  have hr := T.row; have hlt := row_lt hr; have c0 := row_cell hr 0
  have HDN := Lib.hid (grDoneT (b := b) (gc := gc) (gd := gd) (m := m) (R := rowR r (runC b vd vo) :: _) hq p (by omega) (by have T0 := T1; exact T0))
  have HPN := Lib.hid hpn
  clear T T1 hpn
  go_enter Try.func58, Try.ntmps58
  go_wp2_with fail
  refine HDN.out.mono ?_
  clear HDN hr hlt c0
  rintro e1 w1 ⟨rfl, T⟩
  have hqn : (doneM q p).n = q.n := doneM_n p q
  obtain ⟨q1, hqe⟩ : ∃ q1, q1 = doneM q p := ⟨_, rfl⟩
  rw [← hqe] at T hqn
  have HQE := Lib.hid hqe
  have hq1 : 0 ≤ q1.n ∧ q1.n ≤ 7 := by rw [hqn]; exact hq
  clear hqn hqe
  have T : Sts w F w1 (vecR 35 2 (.slice (some ⟨gp, 0, none⟩) n cp) p.length (vl IV p) :: rowR b #[.pointer (some ⟨gc, 0, none⟩), .pointer (some ⟨gd, 0, none⟩)] :: rowsIRK gc m :: rowsIRL gd q1 :: rowR r (runC b vd vo) :: vecR 35 2 vd D.length (vl IV D) :: vecR 35 2 vo O.length (vl IV O) :: R) := T
  obtain ⟨hlen, hnews, hone⟩ := vec_news HPN.out h0 rfl T
  have T2 := T.ord [5, 4, 1, 2, 3, 6, 0]
  have hr := T2.row1; have hlt := row_lt hr; have c1 := row_cell hr 1
  obtain ⟨i0, hi, hz0, hz1, hz2⟩ := itm_i
  have HT := Lib.hid T2; have HNW := Lib.hid hnews; have HON := Lib.hid hone; have HLE := Lib.hid hlen
  clear T T2 hnews hone hlen
  go_wp2_with (at_builtin; refine wpList_append_vec rfl _ _ 30 rfl 35 i0 _ 2 16 Try.underlying30 hi hz0 hz1 hz2 rfl (by omega) _ _ _ rfl HT.out ⟨gp, 0, none⟩ n cp (vl IV p) rfl HLE.out HNW.out HON.out ?c3 ?c4 ?_)
  case c3 => unfold maxLen; omega
  case c4 => omega
  intro v' w' T3
  obtain ⟨g1, c9, hv'⟩ : ∃ g1 c9, v' = .slice (some ⟨g1, 0, none⟩) (D.length + n) c9 := by
    rcases T3.vec.2 with ⟨_, h⟩ | ⟨g1, cap, cur, h, _⟩
    · omega
    · exact ⟨g1, cap, h⟩
  obtain ⟨nd, hnd⟩ : ∃ k, k = D.length + n := ⟨_, rfl⟩
  rw [← hnd] at hv' T3
  subst hv'
  have HND := Lib.hid hnd
  clear hnd
  clear HT HNW HON HLE hr hlt c1 hi hz0 hz1 hz2
  have hr := T3.row1; have hlt := row_lt hr; have hf := row_frozen hr 1
  have c1 : w'.cell? ⟨r, 1, none⟩ = some vd := by rw [row_cell hr 1]; rfl
  have T4 := (T3.ord [1, 0]).setCell 1 (.slice (some ⟨g1, 0, none⟩) nd c9)
  have HT4 := Lib.hid T4; clear T3 T4
  go_upto_region 2 with fail
  clear hr hlt hf c1
  generalize hw8 : w'.setCell _ _ = w8 at *
  clear hw8
  have T5 : Sts w F w8 (rowR r (runC b (.slice (some ⟨g1, 0, none⟩) nd c9) vo) :: vecR 35 2 (.slice (some ⟨g1, 0, none⟩) nd c9) nd (vl IV D ++ vl IV p) :: rowR b #[.pointer (some ⟨gc, 0, none⟩), .pointer (some ⟨gd, 0, none⟩)] :: rowsIRK gc m :: rowsIRL gd q1 :: vecR 35 2 vo O.length (vl IV O) :: vecR 35 2 (.slice (some ⟨gp, 0, none⟩) n cp) p.length (vl IV p) :: R) := HT4.out
  clear HT4
  have happ : vl IV D ++ vl IV p = vl IV (D ++ p) := by unfold vl; rw [flatV_append, Array.toList_append]
  have hln : nd = (D ++ p).length := by rw [HND.out, List.length_append, HPN.out]
  have HLN := Lib.hid hln
  have T5 : Sts w F w8 (rowR r (runC b (.slice (some ⟨g1, 0, none⟩) nd c9) vo) :: vecR 35 2 (.slice (some ⟨g1, 0, none⟩) nd c9) (D ++ p).length (vl IV (D ++ p)) :: rowR b #[.pointer (some ⟨gc, 0, none⟩), .pointer (some ⟨gd, 0, none⟩)] :: rowsIRK gc m :: rowsIRL gd q1 :: vecR 35 2 vo O.length (vl IV O) :: vecR 35 2 (.slice (some ⟨gp, 0, none⟩) n cp) p.length (vl IV p) :: R) := by
    rw [happ] at T5
    rw [← hln]
    exact T5
  clear happ hln
  have FS : ∀ W' R', Sts w F W' (rowR r (runC b (.slice (some ⟨g1, 0, none⟩) nd c9) vo) :: R') → (W'.cell? ⟨r, 2, none⟩ = some vo ∧ W'.cell? ⟨r, 0, none⟩ = some (.pointer (some ⟨b, 0, none⟩)) ∧ W'.frozen? ⟨r, 2, none⟩ = false) := fun W' R' T => ⟨by rw [row_cell T.row 2]; rfl, by rw [row_cell T.row 0]; rfl, row_frozen T.row 2⟩
  have HFS := Lib.hid FS
  have HT0 := Lib.hid T5.drew
  have S0 := HFS.out _ _ HT0.out
  clear T5 FS
  have HM := Lib.hid (show ∀ W' : World, (W'.cell? ⟨r, 2, none⟩ = some vo ∧ W'.cell? ⟨r, 0, none⟩ = some (.pointer (some ⟨b, 0, none⟩)) ∧ W'.frozen? ⟨r, 2, none⟩ = false) → True from fun _ _ => trivial)
  refine wp_region_stage (fun W' => (W'.cell? ⟨r, 2, none⟩ = some vo ∧ W'.cell? ⟨r, 0, none⟩ = some (.pointer (some ⟨b, 0, none⟩)) ∧ W'.frozen? ⟨r, 2, none⟩ = false)) (fun _ => True) 13 (by kernel_rfl) S0 (fun hHeld => ?_)
  clear S0
  refine tk0 0 rfl ?_
  simp only [Act.put, List.setIfInBounds_toArray, List.set_cons_zero, List.set_cons_succ]
  refine tk0 1 rfl ?_
  go_frame
  refine tk0 2 rfl ?_
  go_frame
  refine tk0 3 rfl ?_
  go_frame
  refine tk0 4 rfl ?_
  go_frame
  refine tk0 5 rfl ?_
  go_frame
  refine tk0 6 rfl ?_
  go_frame
  refine tk0 7 rfl ?_
  go_frame
  refine tk0 8 rfl ?_
  go_frame
  refine tk0 9 rfl ?_
  go_frame
  refine wpAnyL_ready (rs := [10]) (by kernel_rfl) (by simp) ?_
  refine AllReadyL.cons0 (o := _) rfl (by kernel_rfl) (fun K hK => ?_) AllReadyL.nil
  have Ta := HT0.out.ord [5, 2, 3, 4, 0, 1, 6]
  have HDL := Lib.hid (delAnyT (b := b) (gc := gc) (gd := gd) (m := m) (R := rowR r (runC b (.slice (some ⟨g1, 0, none⟩) nd c9) vo) :: _) hO hq1 (by have T0 := Ta; exact T0))
  clear Ta HT0
  go_simp
  refine HDL.out.mono ?_
  clear HDL
  rintro e5 w5 ⟨v2, rfl, T⟩
  have T : Sts w F w5 (vecR 35 2 v2 (leftO q1 O).length (vl IV (leftO q1 O)) :: rowR b #[.pointer (some ⟨gc, 0, none⟩), .pointer (some ⟨gd, 0, none⟩)] :: rowsIRK gc m :: rowsIRL gd q1 :: rowR r (runC b (.slice (some ⟨g1, 0, none⟩) nd c9) vo) :: vecR 35 2 (.slice (some ⟨g1, 0, none⟩) nd c9) (D ++ p).length (vl IV (D ++ p)) :: vecR 35 2 (.slice (some ⟨gp, 0, none⟩) n cp) p.length (vl IV p) :: R) := T
  obtain ⟨A2, c2, hv2⟩ := vec_shape2 T
  have T6 := T.ord [4, 1, 2, 3, 5, 0, 6]
  have HT6 := Lib.hid T6
  clear T T6
  refine hK.out _ _ ?_ (fun hHeld => ?_)
  · exact HFS.out _ _ HT6.out
  clear hK K
  refine tk1 11 HM.out rfl ?_
  simp only [Act.put, List.setIfInBounds_toArray, List.set_cons_zero, List.set_cons_succ]
  refine tk0 12 rfl ?_
  simp only [Act.put, List.setIfInBounds_toArray, List.set_cons_zero, List.set_cons_succ]
  subst hv2
  have T7 := HT6.out.setCell 2 (.slice A2 (leftO q1 O).length c2)
  have HT7 := Lib.hid T7; clear HT6 T7
  refine wpAnyL_ready (rs := [13]) (by kernel_rfl) (by simp) ?_
  refine AllReadyL.cons1 (o := _) rfl (by kernel_rfl) (fun K hK => ?_) AllReadyL.nil
  go_simp
  refine hK.out _ _ trivial (fun hHeld => ?_)
  clear hK K HFS HM
  refine wpAnyL_done (by kernel_rfl) ?_ _
  try simp only [Exit.then]
  go_wp2
  go_end0
  refine ⟨rfl, ?_⟩
  generalize w5.setCell _ _ = w9 at *
  have T8 : Sts w F w9 (rowR r (runC b (.slice (some ⟨g1, 0, none⟩) nd c9) (.slice A2 (leftO q1 O).length c2)) :: rowR b #[.pointer (some ⟨gc, 0, none⟩), .pointer (some ⟨gd, 0, none⟩)] :: rowsIRK gc m :: rowsIRL gd q1 :: vecR 35 2 (.slice (some ⟨g1, 0, none⟩) nd c9) (D ++ p).length (vl IV (D ++ p)) :: vecR 35 2 (.slice A2 (leftO q1 O).length c2) (leftO q1 O).length (vl IV (leftO q1 O)) :: vecR 35 2 (.slice (some ⟨gp, 0, none⟩) n cp) p.length (vl IV p) :: R) := HT7.out
  have T9 := T8.runShut.swap
  rw [HQE.out] at T9
  exact T9
end
end Go.Proofs.Ytnjgjhjilolanaa
