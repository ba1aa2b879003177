/- Layer 5: the law of the items to which a row reaches. -/
import Derived.Test.YtnjnafmonijlnaaCount
namespace Go.Proofs.Ytnjnafmonijlnaa
open Go.RowKit Go.Shelf
set_option linter.unusedVariables false
attribute [local go_sem] Oper.semAt_some
attribute [local go_sem] row_alloc row_drew row_drewN row_ext row_setCell row_setRow size_ext setRow_alloc setRow_drew loadOf storeOf piece_lit loadVal_at storeVal_at allOne_lit buildOf buildRes_some
attribute [local go_sem high] cell_alloc frozen_alloc setCell_alloc cell_ext frozen_ext cell_setRow frozen_setRow
attribute [local go_sem ↓] TItem_ld0 TItem_st0 TItem_fd0 TItem_bd0
attribute [local go_sem] TItem_size TItem_one TItem_piece TItem_c0 TItem_c1 TItem_set_rep TItem_set_num TItem_ld TItem_st TItem_f_rep TItem_f_num TItem_bd TItem_fl TItem_fl_rep TItem_fl_num
attribute [local go_sem high] TItem_eql TItem_neq
attribute [local go_sem ↓] index_deps0 load_deps0 store_deps0
attribute [local go_sem] DV_piece DV_size DV_one index_deps load_deps store_deps
attribute [local go_sem high] TDeps_eql TDeps_neq
theorem Sts.head {w W : World} {F : Nat → Prop} {r : Res} {R : List Res} (h : Sts w F W (r :: R)) : Sts w F W [r] := by
  obtain ⟨⟨G, ⟨A, B, ha, hb, hd, hf⟩, hg⟩, m⟩ := h
  exact ⟨⟨A, Sat.one ha, fun k hk => hg k ((hf k).2 (.inl hk))⟩, m⟩
theorem results_cell1 {P : Program} {fn : Func} {p : Tmp} {ty : TypeId} {d : TypeDesc} {tmps : Array Value} {w : World} {g : Nat} {v : Value} (h : fn.results = #[.cell p ty]) (hp : tmps.getD p undef = .pointer (some ⟨g, 0, none⟩)) (hc : w.cell? ⟨g, 0, none⟩ = some v) (hu : P.underlying ty = some d) (hd : d.isRow = false) :
    (results fn tmps).run P w = .ok v w := by
  have hp' : tmps[p]?.getD undef = .pointer (some ⟨g, 0, none⟩) := by simpa using hp
  have ha : (isAgg ty).run P w = .ok false w := by
    unfold isAgg
    simp only [Sem.run_bind, run_underlying hu, Result.andThen_ok]
    cases d <;> first | rfl | (cases hd; done)
  simp [results, h, hp', asAddr, loadVar, ha, hc]
def posTo (d : Nat → Int) : Nat → Int
  | 0 => 0
  | k + 1 => posTo d k + max (d k) 0
theorem posTo_bd {d : Nat → Int} : ∀ k, (∀ i, i < k → d i ≤ 100) → 0 ≤ posTo d k ∧ posTo d k ≤ 100 * k
  | 0, _ => by simp [posTo]
  | k + 1, h => by
    have h1 := posTo_bd k fun i hi => h i (by omega)
    have h2 := h k (by omega)
    simp only [posTo]; omega
theorem itemsTo_pos {d : Nat → Int} : ∀ k, ((itemsTo d k).length : Int) = posTo d k
  | 0 => by simp [itemsTo, posTo]
  | k + 1 => by
    have h1 := itemsTo_pos (d := d) k
    simp only [itemsTo, posTo, List.length_append, repL, List.length_map, List.length_range]
    omega
def lastOf (pre : List Item) : Item := pre.getLast?.getD ⟨-1, 0⟩
theorem lastOf_snoc (pre : List Item) (x : Item) : lastOf (pre ++ [x]) = x := by simp [lastOf]
/-- What comes next. -/
theorem next_to {d : Nat → Int} {pre : List Item} {x : Item} : ∀ m, pre ++ [x] <+: itemsTo d m → ∃ r k, r < m ∧ k < (d r).toNat ∧ pre = itemsTo d r ++ repL d r k ∧ x = ⟨(r : Int), (k : Int) + 1⟩
  | 0, h => by
    have := h.length_le
    simp [itemsTo] at this
  | m + 1, h => by
    rw [itemsTo] at h
    by_cases hl : pre.length < (itemsTo d m).length
    · have h2 : pre ++ [x] <+: itemsTo d m := List.prefix_of_prefix_length_le h (List.prefix_append _ _) (by simp; omega)
      obtain ⟨r, k, hr, rest⟩ := next_to m h2
      exact ⟨r, k, by omega, rest⟩
    · obtain ⟨t, ht⟩ := h
      have h1 : itemsTo d m <+: pre := List.prefix_of_prefix_length_le (l₃ := itemsTo d m ++ repL d m (d m).toNat) (List.prefix_append _ _) ⟨[x] ++ t, by rw [← ht]; simp⟩ (by omega)
      obtain ⟨p2, rfl⟩ := h1
      rw [List.append_assoc, List.append_assoc] at ht
      have ht2 := List.append_cancel_left ht
      have hlen := congrArg List.length ht2
      simp [repL] at hlen
      refine ⟨m, p2.length, by omega, by omega, ?_, ?_⟩
      · congr 1
        apply List.ext_getElem
        · simp [repL]
        · intro i h1 h2
          have e := congrArg (·[i]?) ht2
          simp only [List.getElem?_append_left h1, List.getElem?_eq_getElem h1] at e
          have hi2 : i < (repL d m (d m).toNat).length := by simp [repL]; omega
          rw [List.getElem?_eq_getElem hi2] at e
          injection e with e
          rw [e]; simp [repL]
      · have e := congrArg (·[p2.length]?) ht2
        simp only [List.getElem?_append_right (Nat.le_refl p2.length), Nat.sub_self] at e
        have hi2 : p2.length < (repL d m (d m).toNat).length := by simp [repL]; omega
        rw [List.getElem?_eq_getElem hi2] at e
        simp at e
        rw [e]; simp [repL]
theorem last_to {d : Nat → Int} : ∀ r, (lastOf (itemsTo d r)).rep < r
  | 0 => by simp [itemsTo, lastOf]
  | r + 1 => by
    rw [itemsTo]
    by_cases h : (d r).toNat = 0
    · rw [h]
      have := last_to (d := d) r
      simp [repL]; omega
    · obtain ⟨k, hk⟩ : ∃ k, (d r).toNat = k + 1 := ⟨(d r).toNat - 1, by omega⟩
      rw [hk, repL_succ, ← List.append_assoc, lastOf_snoc]
      simp only; omega
theorem items_next {d : Nat → Int} {pre : List Item} {x : Item} (h : pre ++ [x] <+: itemsL d) : hasD d x.rep x.num = true ∧ (x.rep = (lastOf pre).rep ∧ x.num = (lastOf pre).num + 1 ∨ (lastOf pre).rep < x.rep ∧ x.num = 1) ∧ 1 ≤ x.num ∧ 0 ≤ x.rep ∧ x.rep < 7 ∧ x.num ≤ d x.rep.toNat := by
  obtain ⟨r, k, hr, hk, hp, rfl⟩ := next_to 7 h
  refine ⟨?_, ?_, ?_, ?_, ?_, ?_⟩
  · simp only [hasD, decide_eq_true_eq, Int.toNat_natCast]; omega
  · cases k with
    | zero =>
      right
      have := last_to (d := d) r
      rw [hp]
      simp [repL]; exact this
    | succ k =>
      left
      rw [hp, repL_succ, ← List.append_assoc, lastOf_snoc]
      simp
  all_goals simp
  all_goals omega
set_option maxHeartbeats 4000000 in
set_option maxRecDepth 10000 in
theorem law_items (d : Nat → Int) (stop : Int) (hd : ∀ i, i < 7 → -9223372036854775808 ≤ d i ∧ d i ≤ 9223372036854775807) (hs : -9223372036854775808 ≤ stop ∧ stop ≤ 9223372036854775807) : Ans Try.prog 5 #[.agg (DV d), .int .i64 stop] (.bool true) := by
  refine Ans.of_sts fun w => (callsIn_wide (n := 4)).1 ?_
  have T := (((Sts.start0 w).new (DV d) 23).new #[.int .i64 stop] 3).new #[.bool false] 4
  simp only [World.size_alloc] at T
  refine callsIn_of_wp_marks Try.func5 rfl trivial ?_ rfl
  simp only [Try.ntmps5, List.size_toArray, List.length_cons, List.length_nil, Nat.reduceAdd, Nat.reduceSub, Array.replicate_succ, Array.replicate_zero, List.push_toArray, List.append_toArray, List.nil_append, List.cons_append]
  refine wpIn_wide.2 ?_
  go_wp2_with fail
  refine (Ans.at alive5 T).mono ?_; clear T; rintro e w1 ⟨rfl, T⟩
  have hr := T.row2
  have hrlt := row_lt hr
  have hsz1 := row_lt T.row1
  have hsz2 := row_lt T.row
  go_wp2
  go_loop [5, 14] (fun n i => ∃ k : Nat, k ≤ 7 ∧ i = .int .i64 k ∧ n = .int .i64 (posTo d k) ∧ ∀ i, i < k → d i ≤ 100) (fun _ i => 7 - (intOf i).toNat)
  case atStart => exact ⟨0, by omega, rfl, rfl, by omega⟩
  case round =>
    obtain ⟨k, hk, rfl, rfl, hall⟩ := hrel
    have hb1 := posTo_bd k hall
    by_cases hk7 : k < 7
    · have hdk := hd k hk7
      have hk2 : (0 : Int) ≤ (k : Int) ∧ (k : Int) < 7 := by omega
      by_cases h100 : d k ≤ 100
      · have hsu : posTo d (k + 1) = posTo d k + max (d k) 0 := rfl
        have HSU := Lib.hid hsu; clear hsu
        generalize posTo d k = S at *
        have hall2 : ∀ i, i < k + 1 → d i ≤ 100 := fun i hi => by
          by_cases e : i = k
          · subst e; exact h100
          · exact hall i (by omega)
        have HALL := Lib.hid hall2; clear hall2 hall
        rcases Int.lt_or_le (d k) 0 with h0 | h0
        · have hm : max (d k) 0 = 0 := by omega
          rw [hm] at HSU
          clear hm
          go_wp2
          go_round
          case rel => exact ⟨k + 1, by omega, by go_num, by rw [HSU.out]; go_num, HALL.out⟩
          case measure => simp [intOf]; omega
        · have hm : max (d k) 0 = d k := by omega
          rw [hm] at HSU
          clear hm
          go_wp2
          go_round
          case rel => exact ⟨k + 1, by omega, by go_num, by rw [HSU.out], HALL.out⟩
          case measure => simp [intOf]; omega
      · have hc0 := row_cell T.row 0
        have hf0 := row_frozen T.row 0
        go_wp2
        have T := T.setCell 0 (.bool true)
        exact retM0 (results_cell1 rfl rfl (row_cell T.row 0) Try.underlying4 rfl) ⟨rfl, T.nil⟩ rfl
    · obtain rfl : k = 7 := by omega
      clear hk hk7
      have T := (T.new (IV ⟨-1, 0⟩) 25).new #[.int .i64 0] 3
      simp only [World.size_alloc] at T
      have hpos := itemsTo_pos (d := d) 7
      have HPOS := Lib.hid hpos; clear hpos
      have HALL := Lib.hid hall; clear hall
      generalize posTo d 7 = S at *
      go_wp2_with fail
      refine (itemsS T d).mono ?_; clear T hr; rintro e w3 ⟨rfl, T⟩
      simp only [World.size_alloc] at T
      go_wp2_with fail
      have hw3 := T.size
      have hcnt : w1.heap.size + 1 + 1 < w3.heap.size := row_lt T.row
      have hpl : ∀ s : List Item, plainL [rowR (w1.heap.size + 1 + 1) (DV d), rowR (w1.heap.size + 1) #[.int .i64 (s.length : Int)], rowR w1.heap.size (IV (lastOf s)), rowR (w.heap.size + 1 + 1) #[.bool false], rowR (w.heap.size + 1) #[.int .i64 stop], rowR w.heap.size (DV d)] := fun s =>
        plainL_cons (rowR_plain _ _) (plainL_cons (rowR_plain _ _) (plainL_cons (rowR_plain _ _) (plainL_cons (rowR_plain _ _) (plainL_cons (rowR_plain _ _) (plainL_cons (rowR_plain _ _) plainL_nil)))))
      refine (wpIn_wide (n := 4)).1 ?_
      refine wpIn_rangeFunc_ownH (F := Fence.wide) (n := 4) rfl (by omega) (gf := 44) (lb := #[.pointer (some ⟨w1.heap.size + 1 + 1, 0, none⟩)]) rfl trivial (enters_of Try.func44 (by kernel_rfl) rfl)
        (items_stops Fence.wide 3 trivial rfl (by omega) _ d w3 T.row ?hd) (fun _ _ => trivial) (fun _ _ _ _ _ _ _ _ => trivial) (Below.refl _ _) (fun _ => rfl)
        (fun pre W => Sts w (fun _ => False) W [rowR (w1.heap.size + 1 + 1) (DV d), rowR (w1.heap.size + 1) #[.int .i64 (pre.length : Int)], rowR w1.heap.size (IV (lastOf pre)), rowR (w.heap.size + 1 + 1) #[.bool false], rowR (w.heap.size + 1) #[.int .i64 stop], rowR w.heap.size (DV d)] ∧ w3.heap.size ≤ W.heap.size)
        (fun c pre W => Sts w (fun _ => False) W [] ∧ (pre <+: itemsL d → c = .exit 2 ∧ (pre.length : Int) = stop ∧ Sts w (fun _ => False) W [rowR (w1.heap.size + 1 + 1) (DV d), rowR (w1.heap.size + 1) #[.int .i64 (pre.length : Int)], rowR w1.heap.size (IV (lastOf pre)), rowR (w.heap.size + 1 + 1) #[.bool false], rowR (w.heap.size + 1) #[.int .i64 stop], rowR w.heap.size (DV d)]))
        (OwnFrom.and (Sts.own w _ _ hpl T.size) (fun s W W' row hs hg hr => Nat.le_trans hs hg.size))
        (fun c => fun s W W' row hs hg hr => ⟨Sts.own w _ (fun _ => []) (fun _ => plainL_nil) T.size s W W' row hs.1 hg hr, fun hp => ⟨(hs.2 hp).1, (hs.2 hp).2.1, Sts.own w _ _ hpl T.size s W W' row (hs.2 hp).2.2 hg hr⟩⟩) ?h0
        (fun x a' W => ∃ b, Fresh1 w3.heap.size b (IV x) W ∧ a' = { tmps := #[.agg (DV d), .int .i64 stop, .pointer (some ⟨w.heap.size, 0, none⟩), .pointer (some ⟨w.heap.size + 1, 0, none⟩), .pointer (some ⟨w.heap.size + 1 + 1, 0, none⟩), .int .i64 S, undef, u7, .pointer (some ⟨w1.heap.size, 0, none⟩), .pointer (some ⟨w1.heap.size + 1, 0, none⟩), .pointer (some ⟨b, 0, none⟩), .bool true, .bool false, .agg (DV d), .int .i64 7, .bool false, u16, u17, u18, u19, u20, u21, u22, u23, .agg (IV { rep := -1, num := noItem.num }), .agg (DV d), .func (.func 44) #[] #[.pointer (some ⟨w1.heap.size + 1 + 1, 0, none⟩)], .agg (IV x), undef, undef, undef, undef, undef, undef, undef, undef, undef, undef, undef, undef, undef, undef, undef, undef, undef, undef, undef, undef, undef, undef, undef, undef, undef, undef, undef, undef, undef, undef, undef, undef, undef, undef, undef, undef, undef, undef, undef, undef, undef, undef, undef, undef, undef, undef, undef, undef, undef, undef, undef, undef], defers := [] })
        (fun x a' u W W' row hs hg hr => let ⟨b, hf, ha⟩ := hs; ⟨b, fresh1_own () W W' row hf hg hr, ha⟩) ?assign ?body ?done ?stop
      case hd => intro i hi; have := HALL.out i hi; omega
      case h0 => exact ⟨T, Nat.le_refl _⟩
      case assign =>
        rintro l pre x W K hi hK
        gi_wp2
        exact hK _ _ ((KeepsOthers.alloc _ _).from _) trivial ⟨hi.1.keep _, by have := hi.2; simp; omega⟩ ⟨W.heap.size, ⟨hi.2, row_alloc_at _ _ _ _ rfl⟩, rfl⟩
      case body =>
        rintro l pre x a' W hl hrec ⟨Ti, hsz⟩ ⟨b, hf, rfl⟩ hlen
        clear T
        obtain ⟨G, T, K⟩ := Ti.round (hpl pre)
        have hrb := hf.2
        have hltb := row_lt hrb
        have hge := hf.1
        have hr := T.drop.drop.row3
        have hlt := row_lt hr
        have hH := rhas_any d x.rep x.num
        have hH2 : Ans Try.prog 18 #[.agg (DV d), .agg (IV x)] (.bool (hasD d x.rep x.num)) := hH
        clear hH
        have hln : ((pre ++ [x]).length : Int) = (pre.length : Int) + 1 := by simp
        have HLN := Lib.hid hln; clear hln
        have hla := lastOf_snoc pre x
        have HLA := Lib.hid hla; clear hla
        have hpl2 : pre.length < 1000 := by
          have h1 := HPOS.out
          have h2 : (itemsL d).length = (itemsTo d 7).length := rfl
          omega
        by_cases hpx : pre ++ [x] <+: itemsL d
        · obtain ⟨h1, h2, h3, h4, h5, h6⟩ := items_next hpx
          rw [h1] at hH2
          have HH := Lib.hid hH2; clear hH2 h1
          have h100 := HALL.out x.rep.toNat (by omega)
          have HPX := Lib.hid hpx; clear hpx
          have hKK := @K
          clear K Ti
          generalize lastOf pre = ls at *
          generalize hpn : pre.length = n1 at *
          clear hpn
          gi_wp2_with fail
          refine ⟨trivial, ?_⟩
          refine (CallsIn.inRound l (callsIn_wide.2 (HH.out W))).mono ?_; rintro e W1 ⟨rfl, hb⟩
          have T := T.pure hb
          have hrb1 := (row_below hb hltb).trans hrb
          have hltb1 := row_lt hrb1
          clear hrb hltb hr hlt hf
          have hcx := row_cell hrb1
          have hcl := row_cell T.row2
          have hck := row_cell T.row1
          have hcs := row_cell (T.drop.row3)
          have hfk := row_frozen T.row1
          have hrl := T.row2
          have hltl := row_lt hrl
          have T3 := ((T.rot2.setRow (IV x)).rot2.setCell 0 (.int .i64 ((n1 : Int) + 1))).rot2
          have T3 := hKK T3
          have hsz2 := Nat.le_trans hsz hb.size
          have HT3 := Lib.hid T3
          clear T T3 hKK hb
          have hm2 : (x.num = 1) ∨ ¬ (x.num = 1) := by omega
          have hexit : (x.num : Int) ≤ 100 := by omega
          clear h6 h100
          rcases h2 with ⟨e1, e2⟩ | ⟨e1, e2⟩
          · have q1 : ls.rep ≤ x.rep := by omega
            have q2 : x.rep ≤ ls.rep := by omega
            have q3 : (x.rep == ls.rep) = true := by simp [e1]
            have q4 : (x.num != ls.num + 1) = false := by simp [e2]
            have q5 : 0 ≤ ls.num ∧ ls.num ≤ 100 := by omega
            clear e1 e2 hm2
            by_cases hst : (n1 : Int) + 1 = stop
            · have q6 : ((n1 : Int) + 1 == stop) = true := by simp [hst]
              have HST := Lib.hid hst; clear hst
              gi_wp2
              exact ⟨HT3.out.2 _, HT3.out.1.nil, fun _ => ⟨rfl, by rw [HLN.out, HST.out], by rw [HLN.out, HLA.out]; exact HT3.out.1⟩⟩
            · have q6 : ((n1 : Int) + 1 == stop) = false := by simp [hst]
              clear hst
              gi_wp2
              exact ⟨HT3.out.2 _, trivial, by rw [HLN.out, HLA.out]; exact HT3.out.1, by simpa using hsz2⟩
          · have q1 : ls.rep ≤ x.rep := by omega
            have q3 : (x.rep == ls.rep) = false := by simp; omega
            have q4 : (x.num != 1) = false := by simp [e2]
            clear e2 hm2
            by_cases hst : (n1 : Int) + 1 = stop
            · have q6 : ((n1 : Int) + 1 == stop) = true := by simp [hst]
              have HST := Lib.hid hst; clear hst
              gi_wp2
              exact ⟨HT3.out.2 _, HT3.out.1.nil, fun _ => ⟨rfl, by rw [HLN.out, HST.out], by rw [HLN.out, HLA.out]; exact HT3.out.1⟩⟩
            · have q6 : ((n1 : Int) + 1 == stop) = false := by simp [hst]
              clear hst
              gi_wp2
              exact ⟨HT3.out.2 _, trivial, by rw [HLN.out, HLA.out]; exact HT3.out.1, by simpa using hsz2⟩
        · have hKK := @K
          clear K Ti
          generalize hasD d x.rep x.num = hb2 at *
          have HH := Lib.hid hH2; clear hH2
          have HPX := Lib.hid hpx; clear hpx
          generalize lastOf pre = ls at *
          generalize hpn : pre.length = n1 at *
          clear hpn
          gi_wp2_with fail
          refine ⟨trivial, ?_⟩
          refine (CallsIn.inRound l (callsIn_wide.2 (HH.out W))).mono ?_; rintro e W1 ⟨rfl, hb⟩
          have T := T.pure hb
          have hrb1 := (row_below hb hltb).trans hrb
          have hltb1 := row_lt hrb1
          clear hrb hltb hr hlt hf
          have hcx := row_cell hrb1
          have hcl := row_cell T.row2
          have hck := row_cell T.row1
          have hcs := row_cell (T.drop.row3)
          have hfk := row_frozen T.row1
          have hrl := T.row2
          have hltl := row_lt hrl
          have hcf := row_cell T.row3
          have hff := row_frozen T.row3
          have Tn := hKK (((T.rot2.setRow (IV x)).rot2.setCell 0 (.int .i64 ((n1 : Int) + 1))).rot2)
          have Tr := hKK (T.rot3.setCell 0 (.bool false))
          have hsz2 := Nat.le_trans hsz hb.size
          have HTN := Lib.hid Tn; have HTR := Lib.hid Tr
          clear T Tn Tr hKK hb
          gi_wp2
          all_goals first
            | exact ⟨HTR.out.2 _, HTR.out.1.nil, fun h => absurd h HPX.out⟩
            | exact ⟨HTN.out.2 _, trivial, by rw [HLN.out, HLA.out]; exact HTN.out.1, by simpa using hsz2⟩
            | exact ⟨HTN.out.2 _, HTN.out.1.nil, fun h => absurd h HPX.out⟩
      case done =>
        rintro D xs W hD rfl ⟨T, hsz⟩ hK
        have hk : ((itemsL d).length : Int) = S := HPOS.out
        rw [hk] at T
        have hck := row_cell T.row1
        have hcf := row_cell T.row3
        have hff := row_frozen T.row3
        have T2 := (T.rot3.setCell 0 (.bool true)).head
        have hK2 : (W.setCell ⟨w.heap.size + 1 + 1, 0, none⟩ (.bool true)).heap[D]? = some (.deferred (some [])) := by
          rw [heap_setCell_other _ _ _ _ (by simp only; omega)]; exact hK
        have T3 := Sts.put T2 (plainL_cons (rowR_plain _ _) plainL_nil) (by omega) hK2 (.deferred none)
        have HT := Lib.hid T3; clear T T2 T3
        clear hk
        go_wp2
        exact retM1 hK2 (results_cell1 rfl rfl (row_cell HT.out.row 0) Try.underlying4 rfl) ⟨rfl, HT.out.nil⟩ rfl
      case stop =>
        rintro D c pre W hD hpre ⟨T0, h⟩ hK
        obtain ⟨rfl, hst, T⟩ := h hpre
        rw [hst] at T
        have hck := row_cell T.row1
        have hcf := row_cell T.row3
        have hff := row_frozen T.row3
        have hcs := row_cell (T.drop.row3)
        have T2 := (T.rot3.setCell 0 (.bool true)).head
        have hK2 : (W.setCell ⟨w.heap.size + 1 + 1, 0, none⟩ (.bool true)).heap[D]? = some (.deferred (some [])) := by
          rw [heap_setCell_other _ _ _ _ (by simp only; omega)]; exact hK
        have T3 := Sts.put T2 (plainL_cons (rowR_plain _ _) plainL_nil) (by omega) hK2 (.deferred none)
        have HT := Lib.hid T3; clear T T2 T3 h T0 hst
        refine wpIn_wide.2 ?_
        by_cases hS : stop = S
        · have hS2 : (stop == S) = true := by simp [hS]
          clear hS
          go_wp2
          exact retM1 hK2 (results_cell1 rfl rfl (row_cell HT.out.row 0) Try.underlying4 rfl) ⟨rfl, HT.out.nil⟩ rfl
        · have hS2 : (stop == S) = false := by simp [hS]
          clear hS
          go_wp2
          exact retM1 hK2 (results_cell1 rfl rfl (row_cell HT.out.row 0) Try.underlying4 rfl) ⟨rfl, HT.out.nil⟩ rfl
end Go.Proofs.Ytnjnafmonijlnaa
