/- Layer 5: the laws over all items to which a row reaches. -/
import Derived.Test.YtnjnafmonijlnaaItems
import Derived.Test.YtnjnafmonijlnaaDepsB
import Derived.Test.YtnjnafmonijlnaaDepsD
namespace Go.Proofs.Ytnjnafmonijlnaa
open Go.RowKit Go.Shelf
set_option linter.unusedVariables false
attribute [local go_sem] Oper.semAt_some
attribute [local go_sem] row_alloc row_drew row_drewN row_ext row_setCell row_setRow size_ext setRow_alloc setRow_drew loadOf storeOf piece_lit loadVal_at storeVal_at allOne_lit buildOf buildRes_some
attribute [local go_sem high] cell_alloc frozen_alloc setCell_alloc cell_ext frozen_ext cell_setRow frozen_setRow
attribute [local go_sem ↓] TItem_ld0 TItem_st0 TItem_fd0 TItem_bd0
attribute [local go_sem] TItem_size TItem_one TItem_piece TItem_c0 TItem_c1 TItem_set_rep TItem_set_num TItem_ld TItem_st TItem_f_rep TItem_f_num TItem_bd TItem_fl TItem_fl_rep TItem_fl_num
attribute [local go_sem high] TItem_eql TItem_neq
attribute [local go_sem ↓] index_deps0 load_deps0 store_deps0
attribute [local go_sem] DV_piece DV_size DV_one index_deps load_deps store_deps
attribute [local go_sem high] TDeps_eql TDeps_neq
attribute [local go_sem ↓] slice_deps0
attribute [local go_sem] slice_deps2 LV_size
theorem goodD_of' {d : Nat → Int} {n : Int} (h : goodD d n = true) : ∀ i, i < 7 → 0 ≤ d i ∧ d i ≤ 64 ∧ (n ≤ i → d i = 0) := fun i hi => by
  have := List.all_eq_true.1 h i (by simp [hi])
  simp only [goodAt, decide_eq_true_eq] at this
  exact this
def sumTo (d : Nat → Int) : Nat → Int
  | 0 => 0
  | k + 1 => sumTo d k + d k
theorem itemsTo_len {d : Nat → Int} (h : ∀ i, i < 7 → 0 ≤ d i ∧ d i ≤ 64 ∧ ((7 : Int) ≤ i → d i = 0)) : ∀ k, k ≤ 7 → ((itemsTo d k).length : Int) = sumTo d k
  | 0, _ => by simp [itemsTo, sumTo]
  | k + 1, hk => by
    have h1 := itemsTo_len h k (by omega)
    have h2 := h k (by omega)
    simp only [itemsTo, sumTo, List.length_append, repL, List.length_map, List.length_range]
    omega
theorem sumTo_bd {d : Nat → Int} (h : ∀ i, i < 7 → 0 ≤ d i ∧ d i ≤ 64 ∧ ((7 : Int) ≤ i → d i = 0)) : ∀ k, k ≤ 7 → 0 ≤ sumTo d k ∧ sumTo d k ≤ 64 * k
  | 0, _ => by simp [sumTo]
  | k + 1, hk => by
    have h1 := sumTo_bd h k (by omega)
    have h2 := h k (by omega)
    simp only [sumTo]; omega
theorem items_len {d : Nat → Int} (h : ∀ i, i < 7 → 0 ≤ d i ∧ d i ≤ 64 ∧ ((7 : Int) ≤ i → d i = 0)) : (itemsL d).length ≤ 1000 := by
  have h1 := itemsTo_len h 7 (by omega)
  have h2 := sumTo_bd h 7 (by omega)
  show (itemsTo d 7).length ≤ 1000
  omega
def backOf (pre : List Item) : Nat → Int := pre.foldl (fun b x => withD b x.rep x.num) (fun _ => 0)
theorem join_two2 {d : Nat → Int} (hd : DV (joinL [d, d]) = DV d) (W : World) (g cap : Nat) (hg : row? W g = some (LV [d, d])) : Calls Try.prog 19 #[.slice (some ⟨g, 0, none⟩) 2 cap] W fun e w' => e = .returned (.agg (DV d)) ∧ Below W.heap.size W w' := by
  have := join_any [d, d] W g cap (by simp) hg
  rw [hd] at this
  exact this
theorem withD_get (b : Nat → Int) (r : Nat) (hr : r < 7) (n : Int) : withD b r n = upd b r (max (b r) n) := by
  unfold withD; rw [if_pos (by omega)]; simp
theorem fold_rep (d : Nat → Int) (r : Nat) (hr : r < 7) (b : Nat → Int) (hb : b r = 0) : ∀ k, (repL d r k).foldl (fun b x => withD b x.rep x.num) b = upd b r k
  | 0 => by funext i; simp [repL, upd]; intro h; rw [h, hb]
  | k + 1 => by
    rw [repL_succ, List.foldl_append, fold_rep d r hr b hb k]
    simp only [List.foldl_cons, List.foldl_nil]
    rw [withD_get _ r hr]
    funext i
    simp only [upd, if_true]
    split
    · omega
    · rfl
theorem fold_to (d : Nat → Int) (h : ∀ i, i < 7 → 0 ≤ d i) : ∀ r, r ≤ 7 → (itemsTo d r).foldl (fun b x => withD b x.rep x.num) (fun _ => 0) = fun i => if i < r then d i else 0
  | 0, _ => by simp [itemsTo]
  | r + 1, hr => by
    have h1 := h r (by omega)
    rw [itemsTo, List.foldl_append, fold_to d h r (by omega), fold_rep d r (by omega) _ (by simp)]
    funext i
    simp only [upd]
    by_cases e : i = r
    · subst e; simp; omega
    · rw [if_neg e]
      by_cases e2 : i < r
      · rw [if_pos e2, if_pos (by omega)]
      · rw [if_neg e2, if_neg (by omega)]
theorem back_all {d : Nat → Int} (h : ∀ i, i < 7 → 0 ≤ d i) : DV (backOf (itemsL d)) = DV d := by
  unfold backOf itemsL
  rw [fold_to d h 7 (Nat.le_refl 7)]
  exact DV_congr fun i hi => by simp [hi]
set_option maxHeartbeats 4000000 in
set_option maxRecDepth 10000 in
theorem law_count (d : Nat → Int) : Ans Try.prog 7 #[.agg (DV d)] (.bool true) := by
  refine Ans.of_sts fun w => (callsIn_wide (n := 4)).1 ?_
  have T := (Sts.start0 w).new (DV d) 23
  refine callsIn_of_wp_marks Try.func7 rfl trivial ?_ rfl
  simp only [Try.ntmps7, List.size_toArray, List.length_cons, List.length_nil, Nat.reduceAdd, Nat.reduceSub, Array.replicate_succ, Array.replicate_zero, List.push_toArray, List.append_toArray, List.nil_append, List.cons_append]
  refine wpIn_wide.2 ?_
  have c1 := rgood_any d 7
  cases hg : goodD d 7
  · rw [hg] at c1
    have C1 := Lib.hid c1; clear c1 hg
    go_wp2_with fail
    refine (Ans.at alive5 T).mono ?_; clear T; rintro e w1 ⟨rfl, T⟩
    have hr := T.row
    go_wp2_with fail
    refine (Ans.at C1.out T).mono ?_; clear T hr; rintro e w2 ⟨rfl, T⟩
    go_wp2
    exact retM0 (results_tmp rfl _ _ _) ⟨rfl, T.nil⟩ rfl
  · have hgd := goodD_of' hg
    rw [hg] at c1
    have C1 := Lib.hid c1; clear c1 hg
    have HGD := Lib.hid hgd; clear hgd
    have HLE : Hid ((itemsL d).length ≤ 1000) := Lib.hid (items_len HGD.out)
    go_wp2_with fail
    refine (Ans.at alive5 T).mono ?_; clear T; rintro e w1 ⟨rfl, T⟩
    have hr := T.row
    go_wp2_with fail
    refine (Ans.at C1.out T).mono ?_; clear T hr; rintro e w2 ⟨rfl, T⟩
    have T := T.new #[.int .i64 0] 3
    have hr := T.row1
    have hlt := row_lt hr
    go_wp2
    go_loop [3, 15] (fun n i => ∃ k : Nat, k ≤ 7 ∧ i = .int .i64 k ∧ n = .int .i64 (sumTo d k)) (fun _ i => 7 - (intOf i).toNat)
    case atStart => exact ⟨0, by omega, rfl, rfl⟩
    case round =>
      obtain ⟨k, hk, rfl, rfl⟩ := hrel
      have hs1 := sumTo_bd HGD.out k hk
      by_cases hk7 : k < 7
      · have hs2 := HGD.out k hk7
        have hk2 : (0 : Int) ≤ (k : Int) ∧ (k : Int) < 7 := by omega
        have hsu : sumTo d (k + 1) = sumTo d k + d k := rfl
        have HSU := Lib.hid hsu; clear hsu
        generalize sumTo d k = S at *
        go_wp2
        go_round
        case rel => exact ⟨k + 1, by omega, by go_num, by rw [HSU.out]⟩
        case measure => simp [intOf]; omega
      · obtain rfl : k = 7 := by omega
        clear hk hk7
        have T := T.new (DV fun _ => 0) 23
        have hr := T.row2
        have hlt := row_lt hr
        go_wp2_with fail
        refine (itemsS T d).mono ?_; clear T hr hlt; rintro e w3 ⟨rfl, T⟩
        go_wp2_with fail
        simp only [World.size_alloc] at T
        have hsl : ((itemsL d).length : Int) = sumTo d 7 := itemsTo_len HGD.out 7 (Nat.le_refl 7)
        have HSL := Lib.hid hsl; clear hsl
        generalize sumTo d 7 = S at *
        have hw3 := T.size
        have hcnt : w2.heap.size + 1 + 1 < w3.heap.size := row_lt T.row
        have hpl : ∀ s : List Item, plainL [rowR (w2.heap.size + 1 + 1) (DV d), rowR (w2.heap.size + 1) (DV (backOf s)), rowR w2.heap.size #[.int .i64 (s.length : Int)], rowR w.heap.size (DV d)] := fun s =>
          plainL_cons (rowR_plain _ _) (plainL_cons (rowR_plain _ _) (plainL_cons (rowR_plain _ _) (plainL_cons (rowR_plain _ _) plainL_nil)))
        refine (wpIn_wide (n := 4)).1 ?_
        refine wpIn_rangeFunc_ownH (F := Fence.wide) (n := 4) rfl (by omega) (gf := 44) (lb := #[.pointer (some ⟨w2.heap.size + 1 + 1, 0, none⟩)]) rfl trivial (enters_of Try.func44 (by kernel_rfl) rfl)
          (items_stops Fence.wide 3 trivial rfl (by omega) _ d w3 T.row ?hd) (fun _ _ => trivial) (fun _ _ _ _ _ _ _ _ => trivial) (Below.refl _ _) (fun _ => rfl)
          (fun pre W => Sts w (fun _ => False) W [rowR (w2.heap.size + 1 + 1) (DV d), rowR (w2.heap.size + 1) (DV (backOf pre)), rowR w2.heap.size #[.int .i64 (pre.length : Int)], rowR w.heap.size (DV d)] ∧ w3.heap.size ≤ W.heap.size)
          (fun _ _ _ => False) (OwnFrom.and (Sts.own w _ _ hpl T.size) (fun s W W' row hs hg hr => Nat.le_trans hs hg.size)) (fun _ _ _ _ _ hs _ _ => hs) ?h0
          (fun x a' W => ∃ b, Fresh1 w3.heap.size b (IV x) W ∧ a' = { tmps := #[.agg (DV d), .pointer (some ⟨w.heap.size, 0, none⟩), .bool false, .int .i64 S, .pointer (some ⟨w2.heap.size, 0, none⟩), undef, u6, .pointer (some ⟨w2.heap.size + 1, 0, none⟩), .pointer (some ⟨b, 0, none⟩), .bool true, .bool false, .agg (DV d), .bool true, .bool false, .agg (DV d), .int .i64 7, .bool false, u17, u18, u19, u20, u21, .agg (DV d), .func (.func 44) #[] #[.pointer (some ⟨w2.heap.size + 1 + 1, 0, none⟩)], .agg (IV x), undef, undef, undef, undef, undef, undef, undef, undef, undef, undef, undef, undef, undef, undef, undef, undef, undef, undef, undef, undef, undef, undef, undef, undef, undef, undef], defers := [] })
          (fun x a' u W W' row hs hg hr => let ⟨b, hf, ha⟩ := hs; ⟨b, fresh1_own () W W' row hf hg hr, ha⟩) ?assign ?body ?done ?stop
        case hd => intro i hi; have := HGD.out i hi; omega
        case h0 => exact ⟨T, Nat.le_refl _⟩
        case assign =>
          rintro l pre x W K hi hK
          gi_wp2
          exact hK _ _ ((KeepsOthers.alloc _ _).from _) trivial ⟨hi.1.keep _, by have := hi.2; simp; omega⟩ ⟨W.heap.size, ⟨hi.2, row_alloc_at _ _ _ _ rfl⟩, rfl⟩
        case body =>
          rintro l pre x a' W hl hrec ⟨Ti, hsz⟩ ⟨b, hf, rfl⟩ hlen
          clear T
          obtain ⟨G, T, K⟩ := Ti.round (hpl pre)
          have hrb := hf.2
          have hltb := row_lt hrb
          have hr := T.row1
          have hlt := row_lt hr
          have hW : Ans Try.prog 16 #[.agg (DV (backOf pre)), .agg (IV x)] (.agg (DV (backOf (pre ++ [x])))) := by
            have := with_any (backOf pre) x.rep x.num
            rw [show backOf (pre ++ [x]) = withD (backOf pre) x.rep x.num by simp [backOf]]
            exact this
          have HW := Lib.hid hW; clear hW
          have hln : ((pre ++ [x]).length : Int) = (pre.length : Int) + 1 := by simp
          have HLN := Lib.hid hln; clear hln
          have hpl2 : pre.length < 1000 := Nat.lt_of_lt_of_le hlen (HLE.out)
          generalize backOf pre = b1 at *
          generalize pre.length = n1 at *
          gi_wp2_with fail
          refine ⟨trivial, ?_⟩
          refine (CallsIn.inRound l (callsIn_wide.2 (HW.out W))).mono ?_; rintro e W1 ⟨rfl, hb⟩
          have T := T.pure hb
          clear hr hlt hrb hltb
          have hr := T.row1
          have hlt := row_lt hr
          have hr2 := T.row2
          have hlt2 := row_lt hr2
          have hc2 := row_cell hr2 0
          have hf2 := row_frozen hr2 0
          have T := T.swap.setRow (DV (backOf (pre ++ [x])))
          have T := T.swap.rot2.setCell 0 (.int .i64 ((n1 : Int) + 1))
          have hsz2 := Nat.le_trans hsz hb.size
          have hK := @K
          clear K
          gi_wp2
          exact ⟨(hK T.swap.swap2).2 _, trivial, by rw [HLN.out]; exact (hK T.swap.swap2).1, by simpa using hsz2⟩
        case done =>
          rintro D xs W hD rfl ⟨T, hsz⟩ hK
          have hback := back_all (d := d) (fun i hi => (HGD.out i hi).1)
          have hr1 := T.row1; have hr2 := T.row2; have hr3 := T.row3
          rw [hback] at hr1
          rw [HSL.out] at hr2
          have hc2 := row_cell hr2 0
          have k1 : ∀ X, Below W.heap.size W X → row? X (w2.heap.size + 1) = some (DV d) := fun X h => (row_below h (row_lt hr1)).trans hr1
          have k2 : ∀ X, Below W.heap.size W X → X.cell? ⟨w2.heap.size, 0, none⟩ = some (.int .i64 S) := fun X h => (h.cell (p := ⟨w2.heap.size, 0, none⟩) (row_lt hr2)).trans hc2
          have k3 : ∀ X, Below W.heap.size W X → row? X w.heap.size = some (DV d) := fun X h => (row_below h (row_lt hr3)).trans hr3
          have kd : ∀ X, Below W.heap.size W X → X.heap[D]? = some (.deferred (some [])) := fun X h => (h.block D (Array.getElem?_eq_some_iff.1 hK).1).trans hK
          have KD := Lib.hid kd; clear kd hK
          have hj : joinL [d, d] = fun i => max (d i) 0 := by funext i; simp [joinL, join2]; omega
          have hjd : DV (joinL [d, d]) = DV d := DV_congr fun i hi => by rw [hj]; have := (HGD.out i hi).1; simp only; omega
          have HJ := Lib.hid hjd; clear hj hjd
          have hwi := within_any d d
          rw [show eqD (rjoin d d) d = true by rw [eqD_iff]; intro i hi; have := (HGD.out i hi).1; simp only [rjoin]; omega] at hwi
          have HWI := Lib.hid hwi; clear hwi
          have he := eqA_refl (DV d)
          clear hr1 hr2 hr3 hc2 hback C1 hpl hcnt
          have HT := Lib.hid T; clear T
          clear T
          go_wp2
          go_region_held3 (fun X => Below W.heap.size W X)
            (first | assumption | exact (Below.refl _ _).drew | exact Below.alloc (by assumption) (Below.size (by assumption)) _ | exact Below.trans (by assumption) (Below.mono hb (Below.size (by assumption))))
            (first | (go_at_call 19; refine (join_two2 HJ.out _ _ _ (by first | rw [row_alloc, if_pos rfl] | rw [row_drew, row_alloc, if_pos rfl])).mono ?_; rintro e w' ⟨rfl, hb⟩) | (go_at_call 24; refine (HWI.out _).mono ?_; rintro e w' ⟨rfl, hb⟩))
          all_goals go_wp2
          all_goals exact retM1 (KD.out _ (by assumption)) (results_tmp rfl _ _ _) ⟨rfl, (Sts.put (HT.out.nil.pure (by assumption)) plainL_nil (by omega) (KD.out _ (by assumption)) _)⟩ rfl
        case stop =>
          rintro D c pre W _ _ h _
          exact h.elim
end Go.Proofs.Ytnjnafmonijlnaa
