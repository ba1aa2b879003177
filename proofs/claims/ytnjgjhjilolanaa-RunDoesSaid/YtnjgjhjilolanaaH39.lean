/- Several texts in one. -/
import Derived.Test.YtnjgjhjilolanaaH38
import Derived.Test.YtnjgjhjilolanaaH37
/- Layer 19, the law's own: what was done when a run went is all that could be, each behind all that it waits for. -/
namespace Go.Proofs.Ytnjgjhjilolanaa
open Go.RowKit Go.Shelf
set_option linter.unusedVariables false
set_option maxRecDepth 20000
attribute [local go_sem] row_alloc row_drew row_drewN row_ext row_setCell row_setRow size_ext setRow_alloc setRow_drew loadOf storeOf piece_lit loadVal_at storeVal_at allOne_lit buildOf buildRes_some
attribute [local go_sem high] cell_alloc frozen_alloc setCell_alloc cell_ext frozen_ext cell_setRow frozen_setRow
attribute [local go_sem ↓] TDeed_ld0 TDeed_st0 TDeed_fd0 TDeed_bd0
attribute [local go_sem] TDeed_size TDeed_one TDeed_piece TDeed_c0 TDeed_c1 TDeed_c2 TDeed_c3 TDeed_c4 TDeed_c5 TDeed_set_kind TDeed_set_key TDeed_set_val TDeed_set_ver TDeed_set_ses TDeed_set_num TDeed_ld TDeed_st TDeed_f_kind TDeed_f_key TDeed_f_val TDeed_f_ver TDeed_f_ses TDeed_f_num TDeed_bd TDeed_fl TDeed_fl_kind TDeed_fl_key TDeed_fl_val TDeed_fl_ver TDeed_fl_ses TDeed_fl_num
attribute [local go_sem high] TDeed_eql TDeed_neq
attribute [local go_sem ↓] index_deps0 load_deps0 store_deps0
attribute [local go_sem] DV_piece DV_size DV_one index_deps load_deps store_deps
attribute [local go_sem high] TDeps_eql TDeps_neq
attribute [local go_sem ↓] TCall_ld0 TCall_st0 TCall_fd0 TCall_bd0
attribute [local go_sem] TCall_size TCall_one TCall_piece TCall_c0 TCall_c1 TCall_c2 TCall_c3 TCall_c4 TCall_c5 TCall_c6 TCall_c7 TCall_c8 TCall_c9 TCall_c10 TCall_c11 TCall_c12 TCall_c13 TCall_p_deed TCall_put_deed TCall_p_deps TCall_put_deps TCall_set_seq TCall_ld TCall_st TCall_f_deed TCall_f_deps TCall_f_seq TCall_bd TCall_fl TCall_fl_deed TCall_fl_deps TCall_fl_seq
attribute [local go_sem high] TCall_eql TCall_neq
attribute [local go_sem ↓] TItem_ld0 TItem_st0 TItem_fd0 TItem_bd0
attribute [local go_sem] TItem_size TItem_one TItem_piece TItem_c0 TItem_c1 TItem_set_rep TItem_set_num TItem_ld TItem_st TItem_f_rep TItem_f_num TItem_bd TItem_fl TItem_fl_rep TItem_fl_num
attribute [local go_sem high] TItem_eql TItem_neq
def cutSem2 (v : Value) (lo hi mx : Option Value) : Sem Value := Instr.sliceAt 30 v lo hi mx
theorem cut_hold2 (v : Value) (lo hi mx : Option Value) : Instr.sliceAt 30 v lo hi mx = cutSem2 v lo hi mx := rfl
theorem cut_row {A : Option Addr} {ws nl cd : Nat} (hA : (A = none ∧ ws + nl = 0 ∧ cd = 0) ∨ ((∃ g, A = some ⟨g, 0, none⟩) ∧ ws + nl ≤ cd)) (h9 : ws + nl ≤ 2000000) :
    ∃ Aw cw, (∀ w : World, (cutSem2 (.slice A (ws + nl) cd) none (some (.int .i64 ws)) none).run Try.prog w = .ok (.slice A ws cd) w) ∧ (∀ w : World, (cutSem2 (.slice A (ws + nl) cd) (some (.int .i64 ws)) none none).run Try.prog w = .ok (.slice Aw nl cw) w) ∧
      (∀ (i : Nat) (w : World), i ≤ nl → (cutSem2 (.slice A (ws + nl) cd) (some (.int .i64 ws)) (some (.int .i64 ((ws + i : Nat) : Int))) none).run Try.prog w = .ok (.slice Aw i cw) w) ∧ (∀ (W : World) (l : List Item), l.length = ws + nl → RowsIn W A 2 IV l → RowsIn W Aw 2 IV (l.drop ws)) := by
  rcases hA with ⟨rfl, h1, rfl⟩ | ⟨⟨g, rfl⟩, h1⟩
  · obtain rfl : ws = 0 := by omega
    obtain rfl : nl = 0 := by omega
    refine ⟨none, 0, fun w => ?_, fun w => ?_, fun i w hi => ?_, fun W l hl h => by rw [List.drop_zero]; exact h⟩
    · unfold cutSem2; simp [go_sem]
    · unfold cutSem2; simp [go_sem]
    · obtain rfl : i = 0 := by omega
      unfold cutSem2; simp [go_sem]
  · refine ⟨if cd = ws then some ⟨g, 0, none⟩ else some ⟨g, ws * 2, none⟩, cd - ws, fun w => ?_, fun w => ?_, fun i w hi => ?_, fun W l hl h => h.cutIf (by omega)⟩
    · have h2 : (ws : Int) ≤ (cd : Int) := by omega
      unfold cutSem2; simp [go_sem, h2]
    · have h2 : ¬ (ws : Int) + (nl : Int) < (ws : Int) := by omega
      unfold cutSem2
      by_cases h : cd = ws
      · simp [go_sem, h, h2]
      · simp [go_sem, h, h2]
    · have h2 : (0 : Int) ≤ (ws : Int) + (i : Int) := by omega
      have h3 : (ws : Int) + (i : Int) ≤ (cd : Int) := by omega
      have h4 : ((ws : Int) + (i : Int)).toNat = ws + i := by omega
      unfold cutSem2
      by_cases h : cd = ws
      · obtain rfl : i = 0 := by omega
        simp [go_sem, h]
      · simp [go_sem, h, h2, h3, h4]
attribute [local go_sem ↓] cut_hold2
theorem vec_short_sat {A : Option Addr} {c k : Nat} {l : List Item} (hk : k ≤ l.length) {G : Nat → Prop} {W : World} (hG : (vecR 35 2 (.slice A l.length c) l.length (vl IV l)).sat G W) : (vecR 35 2 (.slice A k c) (l.take k).length (vl IV (l.take k))).sat G W := by
  obtain ⟨hown, hG⟩ := hG
  have hlen : (l.take k).length = k := by rw [List.length_take]; omega
  have hvl : (vl IV (l.take k)).length = k * 2 := by
    unfold vl
    rw [Array.length_toList, flatV_size TItem_size, hlen]
  have htake : (vl IV l).take (k * 2) = vl IV (l.take k) := by
    have h1 : vl IV l = vl IV (l.take k) ++ vl IV (l.drop k) := by
      unfold vl; rw [← Array.toList_append, ← flatV_append, List.take_append_drop]
    rw [h1, List.take_append_of_le_length (by omega), List.take_of_length_le (by omega)]
  rw [hlen]
  rcases hown.2 with ⟨h1, h2⟩ | ⟨g, cap, cur, h1, hb, hg, hn, hm, hc, ht⟩
  · injection h1 with e1 e2 e3
    have : k = 0 := by omega
    subst this e1 e3
    exact ⟨⟨hvl, .inl ⟨rfl, rfl⟩⟩, hG⟩
  · injection h1 with e1 e2 e3
    subst e1 e3
    refine ⟨⟨hvl, .inr ⟨g, c, cur, rfl, hb, hg, by omega, hm, hc, ?_⟩⟩, hG⟩
    rw [← htake, ← ht, List.take_take, Nat.min_eq_left (Nat.mul_le_mul_right _ hk)]
theorem RunI.doc {n : Int} {k : Nat} {m : RowsMK} {q : RowsML} {items : List Item} {calls : List Call} {D O : List Item} (h : RunI n k m q items calls D O) (hk : k ≤ 1000000) : DocOk m q items calls D where
  len := Nat.le_trans h.bld.lei hk
  lend := Nat.le_trans h.bld.led hk
  lc := h.bld.len
  get := h.bld.get
  ov y := by rw [Bool.eq_iff_iff, h.bld.over y, inB_iff]
section
variable {w W : World} {F : Nat → Prop} {R : List Res}
set_option maxHeartbeats 16000000 in
theorem wentT {n : Int} {k : Nat} {m : RowsMK} {q q1 : RowsML} {items : List Item} {calls : List Call} {D l1 O O1 : List Item} (hn : n ≤ 7) (h0 : RunI n k m q items calls D O) (h1 : RunI n k m q1 items calls (D ++ l1) O1)
    (hd : ∀ y, y ∈ D ++ l1 ↔ (getMK m y).isSome = true ∧ ∀ z, Rch m Q0 y z → (getMK m z).isSome = true) (hk : k ≤ 100) (g : Nat) (vi vc vd : Value)
    (T : Sts w F W (docL g vi vc vd items calls (D ++ l1) ++ R)) :
    Calls Try.prog 37 #[.pointer (some ⟨g, 0, none⟩), .int .i64 D.length] W fun e W' => e = .returned (.bool true) ∧ Sts w F W' (docL g vi vc vd items calls (D ++ l1) ++ R) := by
  have T1 : Sts w F W (rowR g (docC vi vc vd) :: vecR 35 2 vi items.length (vl IV items) :: vecR 47 14 vc calls.length (vl CV calls) :: vecR 35 2 vd (D ++ l1).length (vl IV (D ++ l1)) :: R) := T
  have hDl : (D ++ l1).length ≤ 100 := Nat.le_trans h1.bld.led hk
  have hil : items.length ≤ 100 := Nat.le_trans h0.bld.lei hk
  obtain ⟨Ad, cd, rfl, -, hcap, hA0⟩ := vec_rows TItem_size (T1.ord [3, 0, 1, 2]) (by omega) (by omega)
  obtain ⟨Ai, ci, rfl⟩ := vec_shape2 (T1.ord [1, 0])
  obtain ⟨ws, hws⟩ : ∃ k, k = D.length := ⟨_, rfl⟩
  obtain ⟨nl, hnl⟩ : ∃ k, k = l1.length := ⟨_, rfl⟩
  have hnd : (D ++ l1).length = ws + nl := by rw [List.length_append, hws, hnl]
  have hAA : (Ad = none ∧ ws + nl = 0 ∧ cd = 0) ∨ ((∃ g, Ad = some ⟨g, 0, none⟩) ∧ ws + nl ≤ cd) := by
    rcases (T1.ord [3, 0, 1, 2]).vec.2 with ⟨h2, h3⟩ | ⟨g', c', cur, h2, -⟩
    · injection h2 with e1 e2 e3
      exact .inl ⟨e1, by omega, e3⟩
    · injection h2 with e1 e2 e3
      exact .inr ⟨⟨g', e1⟩, by omega⟩
  obtain ⟨Aw, cw, hc1, hc2, hc3, hc4⟩ := cut_row hAA (by omega)
  obtain ⟨dX, hdX⟩ : ∃ r, r = vecR 35 2 (.slice Ad (D ++ l1).length cd) (D ++ l1).length (vl IV (D ++ l1)) := ⟨_, rfl⟩
  have hX : ∀ F W, dX.sat F W → (vecR 35 2 (.slice Ad ws cd) D.length (vl IV D)).sat F W := fun F W h => by
    rw [hdX] at h
    have h2 := vec_short_sat (k := ws) (by omega) h
    have e : (D ++ l1).take ws = D := by rw [hws]; exact List.take_left
    rw [e] at h2
    exact h2
  have hr := T1.row; have hlt := row_lt hr
  have c2 : W.cell? ⟨g, 2, none⟩ = some (.slice Ad (D ++ l1).length cd) := by rw [row_cell hr 2]; rfl
  have hf2 := row_frozen hr 2
  have T2 := T1.setCell 2 (.slice Ad ws cd)
  have c0 : (W.setCell ⟨g, 2, none⟩ (.slice Ad ws cd)).cell? ⟨g, 0, none⟩ = some (.slice Ai items.length ci) := by rw [row_cell T2.row 0]; rfl
  rw [← hdX] at T2
  obtain ⟨nd, hnd2⟩ : ∃ k, k = ws + nl := ⟨_, rfl⟩
  rw [hnd, ← hnd2] at c2
  rw [← hnd2] at hc1 hc2 hc3
  rw [← hws]
  have hD0 := h0.doc (by omega)
  have hG := h0.bld.inv hn
  obtain ⟨PP, hPP⟩ : ∃ r, r = packR (docX g (.slice Ai items.length ci) vc (.slice Ad ws cd) items calls dX) := ⟨_, rfl⟩
  have T3 : Sts w F (W.setCell ⟨g, 2, none⟩ (.slice Ad ws cd)) (PP :: R) := by
    rw [hPP]
    exact Sts.pack (L := docX g (.slice Ai items.length ci) vc (.slice Ad ws cd) items calls dX) T2
  have hUn : ∀ W' R', Sts w F W' (PP :: R') → Sts w F W' (rowR g (docC (.slice Ai items.length ci) vc (.slice Ad ws cd)) :: vecR 35 2 (.slice Ai items.length ci) items.length (vl IV items) :: vecR 47 14 vc calls.length (vl CV calls) :: dX :: R') := fun W' R' T => by
    rw [hPP] at T
    exact T.unpack
  have hPk : ∀ W' R', Sts w F W' (docX g (.slice Ai items.length ci) vc (.slice Ad ws cd) items calls dX ++ R') → Sts w F W' (PP :: R') := fun W' R' T => by
    rw [hPP]
    exact Sts.pack T
  have hRW : ∀ W' R', Sts w F W' (PP :: R') → RowsIn W' Aw 2 IV l1 := fun W' R' T => by
    have T4 := ((hUn _ _ T).ord [3, 0, 1, 2])
    rw [hdX] at T4
    have h2 := hc4 W' _ hnd (vec_in TItem_size rfl T4 (by omega) (by omega))
    rw [hws, List.drop_left] at h2
    exact h2
  have hIT : ∀ W' R', Sts w F W' (PP :: R') → RowsIn W' Ai 2 IV items := fun W' R' T => vec_in TItem_size rfl ((hUn _ _ T).ord [1, 0]) (by omega) (by omega)
  have hOV : ∀ x W' R', Sts w F W' (PP :: R') → Calls Try.prog 19 #[.pointer (some ⟨g, 0, none⟩), .agg (IV x)] W' fun e W'' => e = .returned (.bool (inB x D)) ∧ Below W'.heap.size W' W'' := fun x W' R' T =>
    ((docOverR g (.slice Ai items.length ci) vc (.slice Ad ws cd) items calls D (by omega) x).docX hX).at (hUn _ _ T)
  have hCN : ∀ x W' R', x ∈ items → x ∉ D → Sts w F W' (PP :: R') → Calls Try.prog 61 #[.pointer (some ⟨g, 0, none⟩), .agg (IV x)] W' fun e W'' => e = .returned (.bool (inB x l1)) ∧ Sts w F W'' (PP :: R') := fun x W' R' hx hxD T => by
    refine (docCanX hG g _ vc _ items calls D hX hD0 x (hUn _ _ T)).mono ?_
    rintro e w5 ⟨rfl, T5⟩
    exact ⟨by rw [went_can h0 hn hd hx hxD], hPk _ _ T5⟩
  have hRE : ∀ x W' R', Sts w F W' (PP :: R') → Calls Try.prog 20 #[.pointer (some ⟨g, 0, none⟩), .agg (IV x)] W' fun e W'' => ∃ v, e = .returned v ∧ Sts w F W'' (vecR 35 2 v (reachL m q x).length (vl IV (reachL m q x)) :: PP :: R') := fun x W' R' T => by
    refine (docReachX hG g _ vc _ items calls D hX hD0 x (hUn _ _ T)).mono ?_
    rintro e w5 ⟨v, rfl, T5⟩
    have T5 : Sts w F w5 (vecR 35 2 v (reachL m q x).length (vl IV (reachL m q x)) :: rowR g (docC (.slice Ai items.length ci) vc (.slice Ad ws cd)) :: vecR 35 2 (.slice Ai items.length ci) items.length (vl IV items) :: vecR 47 14 vc calls.length (vl CV calls) :: dX :: R') := T5
    have T7 := T5.ord [1, 2, 3, 4, 0]
    have T6 := hPk w5 (vecR 35 2 v (reachL m q x).length (vl IV (reachL m q x)) :: R') T7
    exact ⟨v, rfl, T6.swap⟩
  have hBF : ∀ x y W' R', x ∈ items → y ∈ items → Sts w F W' (PP :: R') → Calls Try.prog 49 #[.pointer (some ⟨g, 0, none⟩), .agg (IV x), .agg (IV y)] W' fun e W'' => e = .returned (.bool (befB m x y)) ∧ Below W'.heap.size W' W'' := fun x y W' R' hx hy T =>
    ((docBeforeR g (.slice Ai items.length ci) vc (.slice Ad ws cd) items calls D (by omega) h0.bld.len h0.bld.get x y hx hy).docX hX).at (hUn _ _ T)
  have hHS : ∀ (i : Nat) x W' R', i ≤ nl → Sts w F W' (PP :: R') → Calls Try.prog 23 #[.slice Aw i cw, .agg (IV x)] W' fun e W'' => e = .returned (.bool (inB x (l1.take i))) ∧ Below W'.heap.size W' W'' := fun i x W' R' hi T => by
    have h := docHasIn Aw cw (l1.take i) (by rw [List.length_take]; omega) x W' ((hRW _ _ T).take i)
    rw [List.length_take, Nat.min_eq_left (by omega)] at h
    exact h
  have hOR : ∀ (i : Nat) x y, l1[i]? = some x → y ∈ reachL m q x → y ≠ x → (inB x (reachL m q y) = false → inB y (l1.take i) = true) ∧ (inB x (reachL m q y) = true → inB y (l1.take i) = befB m y x) := fun i x y hi hy hne => went_ord h0 hn h1 hi hy hne
  have hCM : ∀ y, y ∈ D ++ l1 → y ∈ items := fun y hy => (h0.bld.is y).1 (h1.ok.com y hy)
  have hCR : ∀ (i : Nat) x y, l1[i]? = some x → y ∈ reachL m q x → y ∈ items := fun i x y hi hy => by
    obtain ⟨u, hu1, hu2⟩ := (reach_mem hG).1 hy
    exact hCM y (h1.ok.reach (List.mem_append.2 (.inr (List.mem_of_getElem? hi))) (Rch.full (.step hu1 hu2)))
  have hRL : ∀ x, (reachL m q x).length ≤ 448 := fun x => (reach_inv (q := q) (x := x) hG).len
  have hEnd : ∀ W', Sts w F W' (PP :: R) → g < W'.heap.size ∧ W'.frozen? ⟨g, 2, none⟩ = false ∧ W'.cell? ⟨g, 2, none⟩ = some (.slice Ad ws cd) ∧ Sts w F (W'.setCell ⟨g, 2, none⟩ (.slice Ad nd cd)) (docL g (.slice Ai items.length ci) vc (.slice Ad (D ++ l1).length cd) items calls (D ++ l1) ++ R) := fun W' T => by
    have T4 := hUn _ _ T
    have T5 := T4.setCell 2 (.slice Ad nd cd)
    rw [hdX] at T5
    refine ⟨row_lt T4.row, row_frozen T4.row 2, by rw [row_cell T4.row 2]; rfl, ?_⟩
    rw [hnd2, ← hnd] at T5 ⊢
    exact T5
  have HT3 := Lib.hid T3; have HRW := Lib.hid hRW; have HIT := Lib.hid hIT; have HOV := Lib.hid hOV; have HCN := Lib.hid hCN; have HRE := Lib.hid hRE; have HBF := Lib.hid hBF; have HHS := Lib.hid hHS; have HOR := Lib.hid hOR; have HCR := Lib.hid hCR; have HCM := Lib.hid hCM; have HRL := Lib.hid hRL; have HEnd := Lib.hid hEnd; have HC3 := Lib.hid hc3
  have HWS := Lib.hid hws; have HNL := Lib.hid hnl
  have hnl9 : nl ≤ 100 := by omega
  have hws9 : ws ≤ 100 := by omega
  obtain ⟨ni, hni⟩ : ∃ k, k = items.length := ⟨_, rfl⟩
  have HNI := Lib.hid hni
  rw [← hni] at c0 hil HEnd ⊢
  clear T T1 T2 T3 hX hRW hIT hOV hCN hRE hBF hHS hOR hCM hCR hRL hEnd hUn hPk hPP hdX hnd hnd2 hnl hws hr hD0 hG h0 h1 hd hc3 hc4 hA0 hcap hAA hDl hni
  go_enter Try.func37, Try.ntmps37
  go_wp2_with fail
  generalize W.setCell _ _ = w2 at *
  clear c2 c0 hf2 hlt
  go_loopw [30, 6] (fun u30 u6 wr => ∃ i : Nat, u30 = .int .i64 i ∧ u6 = .bool true ∧ i ≤ ni ∧ Sts w F wr (PP :: R)) (fun u30 _ _ => ni - (intOf u30).toNat)
  case atStart => exact ⟨0, rfl, rfl, Nat.zero_le _, HT3.out⟩
  case round =>
    clear HT3
    obtain ⟨i, rfl, rfl, hi, T⟩ := hrel
    by_cases hin : i < ni
    · have hin1 : (i : Int) < (ni : Int) := by omega
      have hi0 : (0 : Int) ≤ (i : Int) := by omega
      have hit := HIT.out _ _ T
      obtain ⟨ai, rfl⟩ : ∃ a, Ai = some a := by
        cases Ai with
        | none =>
          have h2 := hit.nil rfl
          have h3 := HNI.out
          rw [h2] at h3
          simp at h3; omega
        | some a => exact ⟨a, rfl⟩
      have hld := hit.load (P := Try.prog) (T := 35) TItem_size TItem_und rfl (by kernel_rfl) (Below.refl _ _) rfl (show i < items.length by rw [← HNI.out]; exact hin)
      obtain ⟨x, hx⟩ : ∃ x, x = items[i]'(by rw [← HNI.out]; exact hin) := ⟨_, rfl⟩
      have hxm : x ∈ items := by rw [hx]; exact List.getElem_mem _
      rw [← hx] at hld
      have HXM := Lib.hid hxm
      have T2 := T.new (IV x) 35
      have HT := Lib.hid T2
      clear T T2 hit hx hxm
      go_upto_region 7 with fail
      generalize wr.alloc _ = w5 at *
      generalize wr.heap.size = gx at *
      clear hld
      have HT0 := Lib.hid HT.out.drew; clear HT
      have S0 := HT0.out.row
      have HO := Lib.hid (HOV.out x)
      cases hov : inB x D with
      | true =>
        rw [hov] at HO
        refine wp_region_held_drew (S := fun W' => row? W' gx = some (IV x)) (by kernel_rfl) S0 (fun hHeld => ?_)
        clear S0 hov
        refine tkH 0 rfl ?_
        simp only [Act.put, List.setIfInBounds_toArray, List.set_cons_zero, List.set_cons_succ]
        refine tkH 1 rfl ?_
        go_frame
        refine wpAnyH_ready (rs := [2]) (by kernel_rfl) (by simp) ?_
        refine AllReadyH.cons (o := _) rfl (fun K hK => ?_) AllReadyH.nil
        go_simp
        refine (HO.out _ (rowR gx (IV x) :: R) (HT0.out.swap)).mono ?_
        clear HO
        rintro e7 w7 ⟨rfl, hb⟩
        have HT := Lib.hid (HT0.out.pure hb)
        clear hb HT0
        refine hK.out _ _ HT.out.row (fun hHeld => ?_)
        clear hK K
        refine tkH 3 rfl ?_
        simp only [Act.put, List.setIfInBounds_toArray, List.set_cons_zero, List.set_cons_succ]
        refine tkH 4 rfl ?_
        go_frame
        refine skH 5 rfl ?_
        simp only [Act.put, List.setIfInBounds_toArray, List.set_cons_zero, List.set_cons_succ]
        refine skH 6 rfl ?_
        go_frame
        refine skH 7 rfl ?_
        go_frame
        refine skH 8 rfl ?_
        go_frame
        refine skH 9 rfl ?_
        go_frame
        refine skH 10 rfl ?_
        go_frame
        refine skH 11 rfl ?_
        go_frame
        refine skH 12 rfl ?_
        go_frame
        refine skH 13 rfl ?_
        go_frame
        refine tkH 14 rfl ?_
        simp only [Act.put, List.setIfInBounds_toArray, List.set_cons_zero, List.set_cons_succ]
        refine wpAnyH_done (by kernel_rfl) ?_ _
        try simp only [Exit.then]
        go_wp2
        go_roundw
        case rel => exact ⟨i + 1, by go_num, rfl, by omega, HT.out.drop⟩
        case measure => simp [intOf]; omega
      | false =>
        rw [hov] at HO
        have hxD : x ∉ D := fun hc => by rw [inB_iff.2 hc] at hov; cases hov
        have HC := Lib.hid (fun W' R' T => HCN.out x W' R' HXM.out hxD T)
        have HH := Lib.hid (fun W' R' T => HHS.out nl x W' R' (Nat.le_refl _) T)
        rw [List.take_of_length_le (by rw [HNL.out]; exact Nat.le_refl _)] at HH
        obtain ⟨bb, hbb⟩ : ∃ b, b = inB x l1 := ⟨_, rfl⟩
        rw [← hbb] at HC HH
        refine wp_region_held_drew (S := fun W' => row? W' gx = some (IV x)) (by kernel_rfl) S0 (fun hHeld => ?_)
        clear S0 hov hxD hbb
        refine tkH 0 rfl ?_
        simp only [Act.put, List.setIfInBounds_toArray, List.set_cons_zero, List.set_cons_succ]
        refine tkH 1 rfl ?_
        go_frame
        refine wpAnyH_ready (rs := [2]) (by kernel_rfl) (by simp) ?_
        refine AllReadyH.cons (o := _) rfl (fun K hK => ?_) AllReadyH.nil
        go_simp
        refine (HO.out _ (rowR gx (IV x) :: R) (HT0.out.swap)).mono ?_
        clear HO
        rintro e7 w7 ⟨rfl, hb⟩
        have HT := Lib.hid (HT0.out.pure hb)
        clear hb HT0
        refine hK.out _ _ HT.out.row (fun hHeld => ?_)
        clear hK K
        refine tkH 3 rfl ?_
        simp only [Act.put, List.setIfInBounds_toArray, List.set_cons_zero, List.set_cons_succ]
        refine tkH 4 rfl ?_
        go_frame
        refine tkH 5 rfl ?_
        go_frame
        refine tkH 6 rfl ?_
        go_frame
        refine tkH 8 rfl ?_
        go_frame
        refine tkH 9 rfl ?_
        go_frame
        refine tkH 10 rfl ?_
        go_frame
        refine tkH 11 rfl ?_
        go_frame
        refine wpAnyH_ready (rs := [7]) (by kernel_rfl) (by simp) ?_
        refine AllReadyH.cons (o := _) rfl (fun K hK => ?_) AllReadyH.nil
        go_simp
        refine (HC.out _ (rowR gx (IV x) :: R) (HT.out.swap)).mono ?_
        clear HC
        rintro e8 w8 ⟨rfl, T8⟩
        clear HT
        have HT := Lib.hid T8.swap; clear T8
        refine hK.out _ _ HT.out.row (fun hHeld => ?_)
        clear hK K
        refine wpAnyH_ready (rs := [12]) (by kernel_rfl) (by simp) ?_
        refine AllReadyH.cons (o := _) rfl (fun K hK => ?_) AllReadyH.nil
        go_simp
        refine (HH.out _ (rowR gx (IV x) :: R) (HT.out.swap)).mono ?_
        clear HH
        rintro e9 w9 ⟨rfl, hb⟩
        have HT9 := Lib.hid (HT.out.pure hb)
        clear hb HT
        refine hK.out _ _ HT9.out.row (fun hHeld => ?_)
        clear hK K
        cases bb <;>
        · refine tkH 13 rfl ?_
          simp only [Act.put, List.setIfInBounds_toArray, List.set_cons_zero, List.set_cons_succ]
          refine tkH 14 rfl ?_
          go_frame
          refine wpAnyH_done (by kernel_rfl) ?_ _
          try simp only [Exit.then]
          go_wp2
          go_roundw
          case rel => exact ⟨i + 1, by go_num, rfl, by omega, HT9.out.drop⟩
          case measure => simp [intOf]; omega
    · have hin1 : ¬ (i : Int) < (ni : Int) := by omega
      have HT := Lib.hid T; clear T
      go_wp2_with fail
      go_loopw [54, 6] (fun u54 u6 wr => ∃ i : Nat, u54 = .int .i64 i ∧ u6 = .bool true ∧ i ≤ nl ∧ Sts w F wr (PP :: R)) (fun u54 _ _ => nl - (intOf u54).toNat)
      case atStart => exact ⟨0, rfl, rfl, Nat.zero_le _, HT.out⟩
      case round =>
        clear HT
        obtain ⟨i, rfl, rfl, hi2, T⟩ := hrel
        by_cases hil2 : i < nl
        · have hil1 : (i : Int) < (nl : Int) := by omega
          have hi0 : (0 : Int) ≤ (i : Int) := by omega
          have hrw := HRW.out _ _ T
          obtain ⟨aw, rfl⟩ : ∃ a, Aw = some a := by
            cases Aw with
            | none =>
              have h2 := hrw.nil rfl
              have h3 := HNL.out
              rw [h2] at h3
              simp at h3; omega
            | some a => exact ⟨a, rfl⟩
          have hld := hrw.load (P := Try.prog) (T := 35) TItem_size TItem_und rfl (by kernel_rfl) (Below.refl _ _) rfl (show i < l1.length by rw [← HNL.out]; exact hil2)
          obtain ⟨x, hx⟩ : ∃ x, x = l1[i]'(by rw [← HNL.out]; exact hil2) := ⟨_, rfl⟩
          have hxi : l1[i]? = some x := by rw [hx]; exact List.getElem?_eq_getElem _
          rw [← hx] at hld
          have HXI := Lib.hid hxi
          obtain ⟨wi, hwi⟩ : ∃ k, k = ws + i := ⟨_, rfl⟩
          have hc3 := fun w => HC3.out i w (Nat.le_of_lt hil2)
          rw [← hwi] at hc3
          have ewi : (ws : Int) + (i : Int) = (wi : Int) := by omega
          have vwi : IntKind.i64.wrap (wi : Int) = (wi : Int) := by rw [IntKind.wrap_i64] <;> omega
          have T2 := (T.new (IV x) 35).swap
          have hr := T2.row1; have hlt := row_lt hr
          have HT := Lib.hid T2
          clear T T2 hrw hx hxi hwi
          go_upto_region 13 with fail
          generalize wr.alloc _ = w5 at *
          generalize wr.heap.size = gx at *
          clear hld
          have HR := Lib.hid (HRE.out x _ (rowR gx (IV x) :: R) HT.out)
          have hL9 := HRL.out x
          have HMEM := Lib.hid (fun y (hy : y ∈ reachL m q x) => And.intro (HCR.out i x y HXI.out hy) (HOR.out i x y HXI.out hy))
          generalize reachL m q x = L at *
          go_wp2_with fail
          refine HR.out.mono ?_
          clear HR HT hr hlt
          rintro e6 w6 ⟨v, rfl, T⟩
          obtain ⟨nL, hnL⟩ : ∃ k, k = L.length := ⟨_, rfl⟩
          rw [← hnL] at T hL9
          obtain ⟨AL, cL, rfl⟩ := vec_shape2 T
          have HT := Lib.hid T; have HNLL := Lib.hid hnL
          clear T hnL
          go_wp2_with fail
          go_loopw [63, 6] (fun u63 u6 wy => ∃ j : Nat, u63 = .int .i64 j ∧ u6 = .bool true ∧ j ≤ nL ∧ Sts w F wy (vecR 35 2 (.slice AL nL cL) nL (vl IV L) :: PP :: rowR gx (IV x) :: R)) (fun u63 _ _ => nL - (intOf u63).toNat)
          case atStart => exact ⟨0, rfl, rfl, Nat.zero_le _, HT.out⟩
          case round =>
            clear HT
            obtain ⟨j, rfl, rfl, hj, T⟩ := hrel
            by_cases hjn : j < nL
            · have hjn1 : (j : Int) < (nL : Int) := by omega
              have hj0 : (0 : Int) ≤ (j : Int) := by omega
              obtain ⟨y, hy⟩ : ∃ y, L[j]? = some y := ⟨L[j]'(by rw [← HNLL.out]; exact hjn), List.getElem?_eq_getElem _⟩
              obtain ⟨gL, rfl, hld⟩ := vec_load (P := Try.prog) (e := 35) TItem_size (by omega) TItem_und rfl (by kernel_rfl) T HNLL.out hy (by omega)
              obtain ⟨hyi, hyo⟩ := HMEM.out y (List.mem_of_getElem? hy)
              have HYI := Lib.hid hyi; have HYO := Lib.hid hyo
              have T2 := (T.new (IV y) 35).ord [0, 3, 2, 1]
              have HT := Lib.hid T2
              clear T T2 hy hyi hyo
              go_upto_region 16 with fail
              generalize wr.alloc _ = w7 at *
              generalize wr.heap.size = gy at *
              clear hld
              have HT0 := Lib.hid HT.out.drew; clear HT
              have HH := Lib.hid (fun W' R' T => HHS.out i y W' R' hi2 T)
              obtain ⟨ah, hah⟩ : ∃ b, b = inB y (l1.take i) := ⟨_, rfl⟩
              rw [← hah] at HH HYO
              have HAH := Lib.hid hah; clear hah
              cases heq : eqA (IV y) (IV x)
              case true =>
                have heq1 := heq
                refine wp_region_held_drew (S := fun W' => (row? W' gy = some (IV y) ∧ row? W' gx = some (IV x))) (by kernel_rfl) ⟨HT0.out.row, HT0.out.row1⟩ (fun hHeld => ?_)
                refine tkH 0 rfl ?_
                simp only [Act.put, List.setIfInBounds_toArray, List.set_cons_zero, List.set_cons_succ]
                refine tkH 1 rfl ?_
                go_frame
                refine tkH 2 rfl ?_
                go_frame
                refine tkH 3 rfl ?_
                go_frame
                refine skH 4 rfl ?_
                simp only [Act.put, List.setIfInBounds_toArray, List.set_cons_zero, List.set_cons_succ]
                refine skH 5 rfl ?_
                go_frame
                refine skH 6 rfl ?_
                go_frame
                refine skH 7 rfl ?_
                go_frame
                refine skH 8 rfl ?_
                go_frame
                refine tkH 9 rfl ?_
                simp only [Act.put, List.setIfInBounds_toArray, List.set_cons_zero, List.set_cons_succ]
                refine tkH 10 rfl ?_
                go_frame
                refine wpAnyH_done (by kernel_rfl) ?_ _
                try simp only [Exit.then]
                go_upto_region 17 with fail
                have HT1 := Lib.hid (HT0).out.drew; clear HT0
                refine wp_region_held_drew (S := fun W' => (row? W' gy = some (IV y) ∧ row? W' gx = some (IV x))) (by kernel_rfl) ⟨HT1.out.row, HT1.out.row1⟩ (fun hHeld => ?_)
                refine tkH 0 rfl ?_
                simp only [Act.put, List.setIfInBounds_toArray, List.set_cons_zero, List.set_cons_succ]
                refine tkH 1 rfl ?_
                go_frame
                refine tkH 2 rfl ?_
                go_frame
                refine tkH 3 rfl ?_
                go_frame
                refine tkH 4 rfl ?_
                go_frame
                refine tkH 5 rfl ?_
                go_frame
                refine tkH 6 rfl ?_
                go_frame
                refine wpAnyH_ready (rs := [7]) (by kernel_rfl) (by simp) ?_
                refine AllReadyH.cons (o := _) rfl (fun K hK => ?_) AllReadyH.nil
                go_simp
                refine (HH.out _ (rowR gy (IV y) :: rowR gx (IV x) :: vecR 35 2 (.slice (some ⟨gL, 0, none⟩) nL cL) nL (vl IV L) :: R) (by have T0 := HT1.out.ord [2, 0, 1, 3]; exact T0)).mono ?_
                rintro e10 w10 ⟨rfl, hb⟩
                have HT := Lib.hid (HT1.out.pure hb)
                clear hb HT1
                refine hK.out _ _ ⟨HT.out.row, HT.out.row1⟩ (fun hHeld => ?_)
                clear hK K
                refine tkH 8 rfl ?_
                simp only [Act.put, List.setIfInBounds_toArray, List.set_cons_zero, List.set_cons_succ]
                refine wpAnyH_done (by kernel_rfl) ?_ _
                try simp only [Exit.then]
                clear hHeld
                have r1 := HT.out.row; have q1 := row_lt r1; have r2 := HT.out.row1; have q2 := row_lt r2
                go_wp2_with fail
                go_roundw
                case rel => exact ⟨j + 1, by go_num, rfl, by omega, HT.out.drop.ord [2, 1, 0]⟩
                case measure => simp [intOf]; omega
              case false =>
                have hne : y ≠ x := fun e => by rw [e, eqA_refl] at heq; cases heq
                obtain ⟨o1, o2⟩ := HYO.out hne
                have HO1 := Lib.hid o1; have HO2 := Lib.hid o2
                have hxm : x ∈ items := HCM.out x (List.mem_append.2 (.inr (List.mem_of_getElem? HXI.out)))
                have HB := Lib.hid (fun W' R' T => HBF.out y x W' R' HYI.out hxm T)
                have HR2 := Lib.hid (HRE.out y)
                have hL2 := HRL.out y
                have HHR := Lib.hid (fun v => docHasR v (reachL m q y) (by omega) x)
                obtain ⟨mu, hmu⟩ : ∃ b, b = inB x (reachL m q y) := ⟨_, rfl⟩
                rw [← hmu] at HHR HO1 HO2
                clear o1 o2 hxm hmu hne
                generalize reachL m q y = L2 at *
                refine wp_region_held_drew (S := fun W' => (row? W' gy = some (IV y) ∧ row? W' gx = some (IV x))) (by kernel_rfl) ⟨HT0.out.row, HT0.out.row1⟩ (fun hHeld => ?_)
                refine tkH 0 rfl ?_
                simp only [Act.put, List.setIfInBounds_toArray, List.set_cons_zero, List.set_cons_succ]
                refine tkH 1 rfl ?_
                go_frame
                refine tkH 2 rfl ?_
                go_frame
                refine tkH 3 rfl ?_
                go_frame
                refine tkH 4 rfl ?_
                go_frame
                refine tkH 5 rfl ?_
                go_frame
                refine tkH 7 rfl ?_
                go_frame
                refine wpAnyH_ready (rs := [6]) (by kernel_rfl) (by simp) ?_
                refine AllReadyH.cons (o := _) rfl (fun K hK => ?_) AllReadyH.nil
                go_simp
                refine (HR2.out _ (rowR gy (IV y) :: rowR gx (IV x) :: vecR 35 2 (.slice (some ⟨gL, 0, none⟩) nL cL) nL (vl IV L) :: R) (by have T0 := HT0.out.ord [2, 0, 1, 3]; exact T0)).mono ?_
                clear HR2 HT0
                rintro e8 w8 ⟨v2, rfl, T⟩
                have HT := Lib.hid (T.ord [2, 3, 1, 4, 0]); clear T
                refine hK.out _ _ ⟨HT.out.row, HT.out.row1⟩ (fun hHeld => ?_)
                clear hK K
                refine wpAnyH_ready (rs := [8]) (by kernel_rfl) (by simp) ?_
                refine AllReadyH.cons (o := _) rfl (fun K hK => ?_) AllReadyH.nil
                go_simp
                refine ((HHR.out v2).at1 (by have T0 := HT.out.ord [4, 0, 1, 2, 3]; exact T0)).mono ?_
                clear HHR
                rintro e9 w9 ⟨rfl, hb⟩
                have T9 := HT.out.pure hb
                clear HT hb
                have HT8 := Lib.hid (T9.ord [4, 0, 1, 2, 3]).drop; clear T9
                refine hK.out _ _ ⟨HT8.out.row, HT8.out.row1⟩ (fun hHeld => ?_)
                clear hK K
                refine tkH 9 rfl ?_
                simp only [Act.put, List.setIfInBounds_toArray, List.set_cons_zero, List.set_cons_succ]
                refine tkH 10 rfl ?_
                go_frame
                refine wpAnyH_done (by kernel_rfl) ?_ _
                try simp only [Exit.then]
                go_upto_region 17 with fail
                have HT1 := Lib.hid (HT8).out.drew; clear HT8
                refine wp_region_held_drew (S := fun W' => (row? W' gy = some (IV y) ∧ row? W' gx = some (IV x))) (by kernel_rfl) ⟨HT1.out.row, HT1.out.row1⟩ (fun hHeld => ?_)
                refine tkH 0 rfl ?_
                simp only [Act.put, List.setIfInBounds_toArray, List.set_cons_zero, List.set_cons_succ]
                refine tkH 1 rfl ?_
                go_frame
                refine tkH 2 rfl ?_
                go_frame
                refine tkH 3 rfl ?_
                go_frame
                refine tkH 4 rfl ?_
                go_frame
                refine tkH 5 rfl ?_
                go_frame
                refine tkH 6 rfl ?_
                go_frame
                refine wpAnyH_ready (rs := [7]) (by kernel_rfl) (by simp) ?_
                refine AllReadyH.cons (o := _) rfl (fun K hK => ?_) AllReadyH.nil
                go_simp
                refine (HH.out _ (rowR gy (IV y) :: rowR gx (IV x) :: vecR 35 2 (.slice (some ⟨gL, 0, none⟩) nL cL) nL (vl IV L) :: R) (by have T0 := HT1.out.ord [2, 0, 1, 3]; exact T0)).mono ?_
                rintro e10 w10 ⟨rfl, hb⟩
                have HT := Lib.hid (HT1.out.pure hb)
                clear hb HT1
                refine hK.out _ _ ⟨HT.out.row, HT.out.row1⟩ (fun hHeld => ?_)
                clear hK K
                refine tkH 8 rfl ?_
                simp only [Act.put, List.setIfInBounds_toArray, List.set_cons_zero, List.set_cons_succ]
                refine wpAnyH_done (by kernel_rfl) ?_ _
                try simp only [Exit.then]
                clear hHeld
                have r1 := HT.out.row; have q1 := row_lt r1; have r2 := HT.out.row1; have q2 := row_lt r2
                cases mu with
                | false =>
                  have hah := HO1.out rfl
                  subst hah
                  clear HB
                  go_wp2_with fail
                  go_roundw
                  case rel => exact ⟨j + 1, by go_num, rfl, by omega, HT.out.drop.ord [2, 1, 0]⟩
                  case measure => simp [intOf]; omega
                | true =>
                  have hah := HO2.out rfl
                  rw [← hah] at HB
                  clear hah HO1 HO2 HYO HAH HH
                  go_wp2_with fail
                  refine (HB.out _ (rowR gy (IV y) :: rowR gx (IV x) :: vecR 35 2 (.slice (some ⟨gL, 0, none⟩) nL cL) nL (vl IV L) :: R) (by have T0 := HT.out.ord [2, 0, 1, 3]; exact T0)).mono ?_
                  clear HB r1 q1 r2 q2
                  rintro e12 w12 ⟨rfl, hb⟩
                  have HT1 := Lib.hid (HT.out.pure hb)
                  clear HT hb
                  cases ah <;>
                  · go_wp2_with fail
                    go_roundw
                    case rel => exact ⟨j + 1, by go_num, rfl, by omega, HT1.out.drop.ord [2, 1, 0]⟩
                    case measure => simp [intOf]; omega
            · have hjn1 : ¬ (j : Int) < (nL : Int) := by omega
              have HT := Lib.hid (T.ord [0, 2, 1]).drop.drop; clear T
              go_wp2_with fail
              go_roundw
              case rel => exact ⟨i + 1, by go_num, rfl, by omega, HT.out⟩
              case measure => simp [intOf]; omega
        · have hil1 : ¬ (i : Int) < (nl : Int) := by omega
          obtain ⟨hlt, hf2, c2, TE⟩ := HEnd.out _ T
          have HT := Lib.hid TE; clear T TE
          go_wp2_with fail
          go_ret
          refine ⟨rfl, ?_⟩
          first | exact HT.out | (rw [← List.length_append]; exact HT.out)
end
end Go.Proofs.Ytnjgjhjilolanaa
