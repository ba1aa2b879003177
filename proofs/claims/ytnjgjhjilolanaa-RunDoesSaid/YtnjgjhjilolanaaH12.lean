/- Several texts in one. -/
import Derived.Test.YtnjgjhjilolanaaH10
import Derived.Test.YtnjgjhjilolanaaH11
import Derived.Test.YtnjgjhjilolanaaH3
import Derived.Maps.OwnIn
import Derived.OwnWalkIn
import Derived.Test.YtnjgjhjilolanaaH2
import Derived.Maps.OwnSet
import Derived.Maps.Views
import Derived.WideKeyEntry
/- Layer 18: for what an item waits, and is not done. -/
namespace Go.Proofs.Ytnjgjhjilolanaa
open Go.RowKit Go.Shelf
set_option linter.unusedVariables false
set_option maxRecDepth 20000
attribute [local go_sem] Oper.semAt_some
attribute [local go_sem] row_alloc row_drew row_drewN row_ext row_setCell row_setRow size_ext setRow_alloc setRow_drew loadOf storeOf piece_lit loadVal_at storeVal_at allOne_lit buildOf buildRes_some
attribute [local go_sem high] cell_alloc frozen_alloc setCell_alloc cell_ext frozen_ext cell_setRow frozen_setRow
attribute [local go_sem ↓] TDeed_ld0 TDeed_st0 TDeed_fd0 TDeed_bd0
attribute [local go_sem] TDeed_size TDeed_one TDeed_piece TDeed_c0 TDeed_c1 TDeed_c2 TDeed_c3 TDeed_c4 TDeed_c5 TDeed_set_kind TDeed_set_key TDeed_set_val TDeed_set_ver TDeed_set_ses TDeed_set_num TDeed_ld TDeed_st TDeed_f_kind TDeed_f_key TDeed_f_val TDeed_f_ver TDeed_f_ses TDeed_f_num TDeed_bd TDeed_fl TDeed_fl_kind TDeed_fl_key TDeed_fl_val TDeed_fl_ver TDeed_fl_ses TDeed_fl_num
attribute [local go_sem high] TDeed_eql TDeed_neq
attribute [local go_sem ↓] index_deps0 load_deps0 store_deps0
attribute [local go_sem] DV_piece DV_size DV_one index_deps load_deps store_deps
attribute [local go_sem high] TDeps_eql TDeps_neq
attribute [local go_sem ↓] TCall_ld0 TCall_st0 TCall_fd0 TCall_bd0
attribute [local go_sem] TCall_size TCall_one TCall_piece TCall_c0 TCall_c1 TCall_c2 TCall_c3 TCall_c4 TCall_c5 TCall_c6 TCall_c7 TCall_c8 TCall_c9 TCall_c10 TCall_c11 TCall_c12 TCall_c13 TCall_p_deed TCall_put_deed TCall_p_deps TCall_put_deps TCall_set_seq TCall_ld TCall_st TCall_f_deed TCall_f_deps TCall_f_seq TCall_bd TCall_fl TCall_fl_deed TCall_fl_deps TCall_fl_seq
attribute [local go_sem high] TCall_eql TCall_neq
attribute [local go_sem ↓] TItem_ld0 TItem_st0 TItem_fd0 TItem_bd0
attribute [local go_sem] TItem_size TItem_one TItem_piece TItem_c0 TItem_c1 TItem_set_rep TItem_set_num TItem_ld TItem_st TItem_f_rep TItem_f_num TItem_bd TItem_fl TItem_fl_rep TItem_fl_num
attribute [local go_sem high] TItem_eql TItem_neq
theorem itm_slice0 (len : Nat) (parts : Array (Nat × Value)) : Instr.buildSlice 30 len parts = buildSem 30 len parts := rfl
theorem itm_slice1 (w : World) (x : Item) : (buildSem 30 1 #[(0, .agg (IV x))]).run Try.prog w = .ok (.slice (some ⟨w.heap.size, 0, none⟩) 1 1) (w.alloc (.cells (IV x) 35)) :=
  build_slice1 Try.underlying30 (z := .agg (IV noItem)) (n := 2) (by kernel_rfl) (by omega) w (TItem_size x) (by omega)
theorem itm_i : ∃ i, Try.prog.info? 35 = some i ∧ i.zero = some (.agg (IV noItem)) ∧ i.size = 2 ∧ i.bytes = 16 := by
  have h : (Try.prog.info? 35).map (fun i => (i.zero, i.size, i.bytes)) = some (some (.agg (IV noItem)), 2, 16) := by kernel_rfl
  cases hi : Try.prog.info? 35 with
  | none => rw [hi] at h; simp at h
  | some i => rw [hi] at h; simp at h; exact ⟨i, rfl, h.1, h.2.1, h.2.2⟩
theorem itm_one (x : Item) : ∀ u ∈ (IV x).toList, u.oneCell' = true := by simp [IV, Value.oneCell']
attribute [local go_sem ↓] itm_slice0
attribute [local go_sem] itm_slice1
section
variable {P : Program} {w W : World} {F : Nat → Prop} {R : List Res} {Fe : Fence} {nF : Nat}
theorem wpListIn_append_vecG {ops : Array Oper} {rest : List Oper} {o : Oper} {a : Act} {Q : Exit → Act → World → Prop} (hgd : o.guard = none) (s x : Operand) (t : TypeId)
    (ho : o.op = .call { callee := .builtin .append, args := #[s, x], argTypes := #[t, t] })
    (e : TypeId) (i : TypeInfo) (z : Value) (size bytes : Nat) (ht : P.underlying t = some (.slice e)) (hi : P.info? e = some i) (hz : i.zero = some z)
    (hsize : i.size = size) (hby : i.bytes = bytes) (hzs : z.cells.size = size) (hsz : 0 < size)
    (v : Value) (n : Nat) (xs : List Value) (hs : a.eval s = v) (T : Sts w F W (vecR e size v n xs :: R))
    (ad : Addr) (m c : Nat) (news : List Value) (hx : a.eval x = .slice (some ad) m c) (hl : news.length = m * size) (hnews : ∀ j u, news[j]? = some u → W.cell? (ad.add j) = some u) (h1 : ∀ u ∈ news, u.oneCell' = true)
    (h63 : n + m ≤ maxLen) (hbytes : (n + m) * bytes ≤ 140737488355328)
    (h : ∀ v' w', Sts w F w' (vecR e size v' (n + m) (xs ++ news) :: R) → wpListIn Fe nF P ops Q rest (a.put o.dst v') w') :
    wpListIn Fe nF P ops Q (o :: rest) a W :=
  wpListIn_append_own_at (P := P) (w := W) hgd s x t ho 0 e i z size bytes ht hi hz hsize hby hzs hsz v n xs hs T.vec ad m c news hx hl hnews h1 h63 hbytes (Nat.zero_le _)
    fun v' w' ho' hg' _ hf' => h v' w' (T.grown ho' hg' hf')
end
/-- For what an item waits, and is not done. -/
noncomputable def waitB (q : RowsML) (x y : Item) : Bool := (!eqA (IV y) (IV x)) && (!(getML q y).isSome)
noncomputable def waitsM (m : RowsMK) (q : RowsML) (x : Item) : List Item := (itemsL ((getMK m x).getD noCall).deps).filter (waitB q x)
theorem itemsTo_len {d : Nat → Int} (hd : ∀ i, i < 7 → d i ≤ 64) : ∀ r, r ≤ 7 → (itemsTo d r).length ≤ 64 * r
  | 0, _ => by simp [itemsTo]
  | r + 1, h => by
    have h1 := itemsTo_len hd r (by omega)
    have h2 := hd r (by omega)
    have h3 : (repL d r (d r).toNat).length = (d r).toNat := by simp [repL]
    rw [itemsTo, List.length_append, h3]
    omega
/-- A slot that holds a slice of items of the call's own. -/
def itmR (o : Nat) (l : List Item) : Res := exR fun u : Value => packR [rowR o #[u], vecR 35 2 u l.length (vl IV l)]
section
variable {w W : World} {F : Nat → Prop} {R : List Res} {b gc gd : Nat} {m : RowsMK} {q : RowsML}
theorem Sts.itmOpen {o : Nat} {l : List Item} (T : Sts w F W (itmR o l :: R)) : ∃ u, Sts w F W (rowR o #[u] :: vecR 35 2 u l.length (vl IV l) :: R) := by
  obtain ⟨u, T⟩ := T.open
  exact ⟨u, T.unpack⟩
theorem Sts.itmShut {o : Nat} {u : Value} {l : List Item} (T : Sts w F W (rowR o #[u] :: vecR 35 2 u l.length (vl IV l) :: R)) : Sts w F W (itmR o l :: R) := (Sts.pack (L := [_, _]) T).close u
theorem take_filter {p : Item → Bool} {l : List Item} {k : Nat} {x : Item} (h : l[k]? = some x) : (l.take (k + 1)).filter p = if p x = true then (l.take k).filter p ++ [x] else (l.take k).filter p := by
  rw [List.take_add_one, h]
  simp only [Option.toList_some, List.filter_append]
  by_cases hp : p x = true
  · rw [if_pos hp, List.filter_cons_of_pos hp]; rfl
  · rw [if_neg hp, List.filter_cons_of_neg hp]; simp
theorem noOut_normalG {Q : Exit → Act → World → Prop} {a : Act} {w : World} (h : Q .normal a w) : NoOut Q .normal a w := h
def WaitPost (w : World) (F : Nat → Prop) (R : List Res) (wk b gc gd : Nat) (X : Array Value) (m : RowsMK) (q : RowsML) (x : Item) (e : Ending) (W' : World) : Prop :=
  ∃ v, e = .returned v ∧ Sts w F W' (vecR 35 2 v (waitsM m q x).length (vl IV (waitsM m q x)) :: rowR wk X :: (grL b gc gd m q ++ R))
set_option maxHeartbeats 16000000 in
theorem grWaitsT (wk : Nat) (X : Array Value) (hX : X[0]? = some (.pointer (some ⟨b, 0, none⟩))) (hm : 0 ≤ m.n ∧ m.n ≤ 7) (hq : 0 ≤ q.n ∧ q.n ≤ 7) (x : Item) (hd : ∀ i, i < 7 → ((getMK m x).getD noCall).deps i ≤ 64)
    (T : Sts w F W (rowR wk X :: (grL b gc gd m q ++ R))) :
    Calls Try.prog 64 #[.pointer (some ⟨wk, 0, none⟩), .agg (IV x)] W (WaitPost w F R wk b gc gd X m q x) := by
  refine (callsIn_wide (n := 4)).1 ?_
  refine callsIn_of_wp_marks Try.func64 rfl trivial ?_ rfl
  simp only [Try.ntmps64, List.size_toArray, List.length_cons, List.length_nil, Nat.reduceAdd, Nat.reduceSub, Array.replicate_succ, Array.replicate_zero, List.push_toArray, List.append_toArray, List.nil_append, List.cons_append]
  refine wpIn_wide.2 ?_
  have T : Sts w F W (rowR wk X :: rowR b #[.pointer (some ⟨gc, 0, none⟩), .pointer (some ⟨gd, 0, none⟩)] :: rowsIRK gc m :: rowsIRL gd q :: R) := T
  have T1 := (T.new #[.pointer (some ⟨wk, 0, none⟩)] 79).new (IV x) 35
  rw [World.size_alloc] at T1
  have T2 := T1.ord [1, 2, 3, 0, 4, 5]
  have HT := Lib.hid T2
  clear T T1 T2
  go_upto_region 1 with fail
  generalize hw3 : (W.alloc _).alloc _ = w3 at *
  generalize W.heap.size + 1 = gx at *
  generalize W.heap.size = gw at *
  clear hw3
  have hW : waitsM m q x = (itemsL ((getMK m x).getD noCall).deps).filter (waitB q x) := rfl
  have HW := Lib.hid hW; clear hW
  have HD := Lib.hid hd; clear hd
  generalize hres : (getMK m x).getD noCall = res at *
  have HRES := Lib.hid hres; clear hres
  have FS : ∀ W' R', Sts w F W' (rowR gw #[.pointer (some ⟨wk, 0, none⟩)] :: rowR wk X :: rowR b #[.pointer (some ⟨gc, 0, none⟩), .pointer (some ⟨gd, 0, none⟩)] :: rowR gx (IV x) :: R') → (W'.cell? ⟨gw, 0, none⟩ = some (.pointer (some ⟨wk, 0, none⟩)) ∧ W'.cell? ⟨wk, 0, none⟩ = some (.pointer (some ⟨b, 0, none⟩)) ∧ W'.cell? ⟨b, 0, none⟩ = some (.pointer (some ⟨gc, 0, none⟩)) ∧ row? W' gx = some (IV x)) := fun W' R' T => ⟨row_cell T.row 0, by rw [row_cell T.row1]; exact hX, row_cell T.row2 0, T.row3⟩
  have HFS := Lib.hid FS; clear FS
  go_cut [5] from 5 to 20 (fun u5 wx => Sts w F wx [] ∧ ∃ g5, u5 = .pointer (some ⟨g5, 0, none⟩) ∧ Sts w F wx (rowR g5 (CV res) :: rowR gw #[.pointer (some ⟨wk, 0, none⟩)] :: rowR wk X :: rowR b #[.pointer (some ⟨gc, 0, none⟩), .pointer (some ⟨gd, 0, none⟩)] :: rowR gx (IV x) :: rowsIRK gc m :: rowsIRL gd q :: R))
  case first =>
    have HT0 := Lib.hid HT.out.drew
    have S0 := HFS.out _ _ HT0.out
    have hat : ∀ W' R', Sts w F W' (rowsIRK gc m :: R') → Calls Try.prog 47 #[.pointer (some ⟨gc, 0, none⟩), .agg (IV x)] W' fun e W'' => e = .returned (.tuple #[.agg (CV ((getMK m x).getD noCall)), .bool (getMK m x).isSome]) ∧ Below W'.heap.size W' W'' := fun W' R' T =>
      (irAtRK gc m hm x).at (R := R') T
    rw [HRES.out] at hat
    have HAT := Lib.hid hat
    clear hat HT HW
    refine wp_region_noPanic ?_
    refine wp_region_held_drew (S := fun W' => (W'.cell? ⟨gw, 0, none⟩ = some (.pointer (some ⟨wk, 0, none⟩)) ∧ W'.cell? ⟨wk, 0, none⟩ = some (.pointer (some ⟨b, 0, none⟩)) ∧ W'.cell? ⟨b, 0, none⟩ = some (.pointer (some ⟨gc, 0, none⟩)) ∧ row? W' gx = some (IV x))) (by kernel_rfl) S0 (fun hHeld => ?_)
    clear S0
    refine tkH 0 rfl ?_
    simp only [Act.put, List.setIfInBounds_toArray, List.set_cons_zero, List.set_cons_succ]
    refine tkH 1 rfl ?_
    go_frame
    refine tkH 2 rfl ?_
    go_frame
    refine tkH 3 rfl ?_
    go_frame
    refine tkH 4 rfl ?_
    go_frame
    refine tkH 5 rfl ?_
    go_frame
    refine tkH 6 rfl ?_
    go_frame
    refine tkH 7 rfl ?_
    go_frame
    refine wpAnyH_ready (rs := [8, 12]) (by kernel_rfl) (by simp) ?_
    refine AllReadyH.cons (o := _) rfl (fun K hK => ?_) ?_
    · go_simp
      refine (HAT.out _ _ (HT0.out.ord [4, 0, 1, 2, 3, 5])).mono ?_
      rintro e w4 ⟨rfl, hb⟩
      have T1 := HT0.out.pure hb
      clear hb HT0 HAT
      refine hK.out _ _ (HFS.out _ _ T1) (fun hHeld => ?_)
      clear hK K
      refine tkH 9 rfl ?_
      simp only [Act.put, List.setIfInBounds_toArray, List.set_cons_zero, List.set_cons_succ]
      refine tkH 10 rfl ?_
      go_frame
      refine tkH 11 rfl ?_
      go_frame
      have T2 := T1.new (CV res) 47
      have T2a := T1.new (CV noCall) 47
      have r2 := T2a.row; have l2 := row_lt r2
      have HT2 := Lib.hid T2; have HT2a := Lib.hid T2a
      clear T1 T2 T2a
      rw [noInst_litK] at r2 l2
      refine wpAnyH_ready (rs := [12]) (by kernel_rfl) (by simp) ?_
      refine AllReadyH.cons (o := _) rfl (fun K hK => ?_) AllReadyH.nil
      go_simp
      refine hK.out _ _ ?_ (fun hHeld => ?_)
      · have := HFS.out _ _ (HT2a.out.ord [1, 2, 3, 4, 0])
        rw [noInst_litK] at this
        exact this
      clear hK K
      refine wpAnyH_ready (rs := [13]) (by kernel_rfl) (by simp) ?_
      refine AllReadyH.cons (o := _) rfl (fun K hK => ?_) AllReadyH.nil
      go_simp
      refine hK.out _ _ ?_ (fun hHeld => ?_)
      · exact HFS.out _ _ (HT2.out.ord [1, 2, 3, 4, 0])
      clear hK K r2 l2 HT2a
      refine tkH 14 rfl ?_
      simp only [Act.put, List.setIfInBounds_toArray, List.set_cons_zero, List.set_cons_succ]
      refine wpAnyH_done (by kernel_rfl) ?_ _
      refine NoPanic.normal ?_
      simp only [Exit.then]
      go_step
      go_meet
      case rel => exact ⟨HT2.out.nil, _, rfl, HT2.out⟩
    · have T1 := HT0.out.new (CV noCall) 47
      have r1 := T1.row; have l1 := row_lt r1
      rw [noInst_litK] at r1 l1
      have HT1 := Lib.hid T1; clear T1 HT0
      refine AllReadyH.cons (o := _) rfl (fun K hK => ?_) AllReadyH.nil
      go_simp
      refine hK.out _ _ ?_ (fun hHeld => ?_)
      · have := HFS.out _ _ (HT1.out.ord [1, 2, 3, 4, 0])
        rw [noInst_litK] at this
        exact this
      clear hK K r1 l1
      refine wpAnyH_ready (rs := [8]) (by kernel_rfl) (by simp) ?_
      refine AllReadyH.cons (o := _) rfl (fun K hK => ?_) AllReadyH.nil
      go_simp
      have hbb := HT1.out
      rw [noInst_litK] at hbb
      refine (HAT.out _ _ (hbb.ord [5, 0, 1, 2, 3, 4, 6])).mono ?_
      rintro e w4 ⟨rfl, hb⟩
      have T1 := HT1.out
      rw [noInst_litK] at T1
      have T2 := T1.pure hb
      clear hb HT1 HAT hbb T1
      refine hK.out _ _ ?_ (fun hHeld => ?_)
      · exact HFS.out _ _ (T2.ord [1, 2, 3, 4, 0])
      clear hK K
      refine tkH 9 rfl ?_
      simp only [Act.put, List.setIfInBounds_toArray, List.set_cons_zero, List.set_cons_succ]
      refine tkH 10 rfl ?_
      go_frame
      refine tkH 11 rfl ?_
      go_frame
      have T3 := T2.setRow (CV res)
      have r2 := T2.row; have l2 := row_lt r2
      have HT3 := Lib.hid T3; clear T2 T3
      simp only [size_drew] at r2 l2 HT3
      generalize w3.heap.size = g9 at *
      refine wpAnyH_ready (rs := [13]) (by kernel_rfl) (by simp) ?_
      refine AllReadyH.cons (o := _) rfl (fun K hK => ?_) AllReadyH.nil
      go_simp
      refine hK.out _ _ ?_ (fun hHeld => ?_)
      · exact HFS.out _ _ (HT3.out.ord [1, 2, 3, 4, 0])
      clear hK K r2 l2
      refine tkH 14 rfl ?_
      simp only [Act.put, List.setIfInBounds_toArray, List.set_cons_zero, List.set_cons_succ]
      refine wpAnyH_done (by kernel_rfl) ?_ _
      refine NoPanic.normal ?_
      simp only [Exit.then]
      go_step
      go_meet
      case rel => exact ⟨HT3.out.nil, _, rfl, HT3.out⟩
  case rest =>
    obtain ⟨-, g5, rfl, T⟩ := hcut
    clear HT HFS
    have T1 := T.new #[.slice none 0 0] 30
    have r5 := T1.row1; have l5 := row_lt r5; have c5 := row_cell r5
    generalize hgo : wc.heap.size = go at *
    have HI := Lib.hid (itemsS (T1.vecNil 35 2) res.deps)
    clear T T1
    go_wp2_with fail
    refine HI.out.mono ?_
    clear HI r5 l5 c5
    rintro e w5 ⟨rfl, T⟩
    have HT := Lib.hid T; clear T
    go_wp2_with fail
    have T := HT.out
    clear HT
    simp only [World.size_alloc, hgo] at T
    have T0 : Sts w F w5 ([itmR go (((itemsL res.deps).take 0).filter (waitB q x))] ++ ([rowR (go + 1) (DV res.deps)] ++ (rowR g5 (CV res) :: rowR gw #[.pointer (some ⟨wk, 0, none⟩)] :: rowR wk X :: rowR b #[.pointer (some ⟨gc, 0, none⟩), .pointer (some ⟨gd, 0, none⟩)] :: rowR gx (IV x) :: rowsIRK gc m :: rowsIRL gd q :: R))) := by
      have T1 : Sts w F w5 (rowR (go + 1) (DV res.deps) :: vecR 35 2 (.slice none 0 0) 0 [] :: rowR go #[.slice none 0 0] :: rowR g5 (CV res) :: rowR gw #[.pointer (some ⟨wk, 0, none⟩)] :: rowR wk X :: rowR b #[.pointer (some ⟨gc, 0, none⟩), .pointer (some ⟨gd, 0, none⟩)] :: rowR gx (IV x) :: rowsIRK gc m :: rowsIRL gd q :: R) := T
      have T2 := T1.ord [2, 1, 0]
      show Sts w F w5 (itmR go [] :: rowR (go + 1) (DV res.deps) :: rowR g5 (CV res) :: rowR gw #[.pointer (some ⟨wk, 0, none⟩)] :: rowR wk X :: rowR b #[.pointer (some ⟨gc, 0, none⟩), .pointer (some ⟨gd, 0, none⟩)] :: rowR gx (IV x) :: rowsIRK gc m :: rowsIRL gd q :: R)
      exact Sts.itmShut (u := .slice none 0 0) (l := []) T2
    have HT0 := Lib.hid T0
    clear T T0
    have hlen : (itemsL res.deps).length ≤ 1000 := by have := itemsTo_len HD.out 7 (Nat.le_refl 7); unfold itemsL; omega
    refine (wpIn_wide (n := 4)).1 ?_
    refine wp_rangeSts (gf := 85) (lb := #[.pointer (some ⟨go + 1, 0, none⟩)]) (enc := fun x : Item => #[.agg (IV x)]) (xs := itemsL res.deps)
      (fun k => [itmR go (((itemsL res.deps).take k).filter (waitB q x))]) (fun _ _ => [noR]) ([rowR (go + 1) (DV res.deps)] ++ (rowR g5 (CV res) :: rowR gw #[.pointer (some ⟨wk, 0, none⟩)] :: rowR wk X :: rowR b #[.pointer (some ⟨gc, 0, none⟩), .pointer (some ⟨gd, 0, none⟩)] :: rowR gx (IV x) :: rowsIRK gc m :: rowsIRL gd q :: R))
      (fun k y a' own' => ∃ gy, own' = [rowR gy (IV y), itmR go (((itemsL res.deps).take k).filter (waitB q x))] ∧ a' = { tmps := #[.pointer (some ⟨wk, 0, none⟩), .agg (IV x), .pointer (some ⟨gw, 0, none⟩), .pointer (some ⟨gx, 0, none⟩), .slice none 0 0, .pointer (some ⟨g5, 0, none⟩), u6, .pointer (some ⟨go, 0, none⟩), .pointer (some ⟨gy, 0, none⟩), u9, u10, u11, u12, u13, u14, u15, u16, u17, u18, u19, u20, .pointer (some ⟨g5, 6, none⟩), .agg (DV res.deps), .func (.func 85) #[] #[.pointer (some ⟨go + 1, 0, none⟩)], .agg (IV y), undef, undef, undef, undef, undef, undef, undef, undef, undef, undef, undef, undef, undef, undef, undef, undef, undef], defers := [] })
      rfl (enters_of Try.func85 (by kernel_rfl) rfl) (fun _ => rfl) (Gives.part fun H hS => itemsG (go + 1) res.deps (fun i hi => by have := HD.out i hi; omega) _ H hS) HT0.out ?calm ?calmX ?assign ?body ?done ?stop
    case calm => exact fun k => calmL_cons (exR_calm fun u => packR_calm (calmL_cons (rowR_calm _ _ _) (calmL_cons (vecR_calm _ _ _ _ _ _) (calmL_nil _)))) (calmL_nil _)
    case calmX => exact fun _ _ => calmL_cons (noR_calm _) (calmL_nil _)
    case assign =>
      intro lr k y W1 G1 K hx T1 hK
      have T2 := T1.new (IV y) 35
      have HT2 := Lib.hid T2
      clear T1 T2 HT0
      gi_wp2
      exact hK _ _ _ ⟨_, rfl, rfl⟩ HT2.out
    case body =>
      rintro lr k y _ _ W1 G1 hx ⟨gy, rfl, rfl⟩ T1 hread
      obtain ⟨F', w', TL⟩ := hread T1
      have TL : Sts w' F' W1 (rowR gy (IV y) :: itmR go (((itemsL res.deps).take k).filter (waitB q x)) :: rowR (go + 1) (DV res.deps) :: rowR g5 (CV res) :: rowR gw #[.pointer (some ⟨wk, 0, none⟩)] :: rowR wk X :: rowR b #[.pointer (some ⟨gc, 0, none⟩), .pointer (some ⟨gd, 0, none⟩)] :: rowR gx (IV x) :: rowsIRK gc m :: rowsIRL gd q :: R) := TL
      have TLo := (TL.ord [4, 5, 7, 0, 6, 8, 9, 1, 2, 3]).drew
      have FS : ∀ W' R', Sts w' F' W' (rowR gw #[.pointer (some ⟨wk, 0, none⟩)] :: rowR wk X :: rowR gx (IV x) :: rowR gy (IV y) :: R') → (W'.cell? ⟨gw, 0, none⟩ = some (.pointer (some ⟨wk, 0, none⟩)) ∧ W'.cell? ⟨wk, 0, none⟩ = some (.pointer (some ⟨b, 0, none⟩)) ∧ row? W' gx = some (IV x) ∧ row? W' gy = some (IV y)) := fun W' R' T => ⟨row_cell T.row 0, by rw [row_cell T.row1]; exact hX, T.row2, T.row3⟩
      have S0 := FS _ _ TLo
      have HFS := Lib.hid FS; have HTL := Lib.hid TLo; have HT := Lib.hid T1.drew
      have hlk : (((itemsL res.deps).take k).filter (waitB q x)).length ≤ 1000 := Nat.le_trans (List.length_filter_le _ _) (by rw [List.length_take]; omega)
      have HTF := Lib.hid (take_filter (p := waitB q x) hx)
      have hwb : waitB q x y = ((!eqA (IV y) (IV x)) && (!(getML q y).isSome)) := rfl
      have HWB := Lib.hid hwb
      have hov := grOverR b gc gd m q hq y
      clear FS TL TLo T1 hread HT0 hx hwb
      generalize ((itemsL res.deps).take k).filter (waitB q x) = LT at *
      generalize hovv : (getML q y).isSome = ov at *
      have HOV := Lib.hid hov; clear hov hovv
      gi_wp2_with fail
      refine wpIn_region_held (fun W' => W'.cell? ⟨gw, 0, none⟩ = some (.pointer (some ⟨wk, 0, none⟩)) ∧ W'.cell? ⟨wk, 0, none⟩ = some (.pointer (some ⟨b, 0, none⟩)) ∧ row? W' gx = some (IV x) ∧ row? W' gy = some (IV y)) (by kernel_rfl) (by kernel_rfl) S0 (fun hHeld => ?_)
      clear S0
      refine tkH 0 rfl ?_
      simp only [Act.put, List.setIfInBounds_toArray, List.set_cons_zero, List.set_cons_succ]
      refine tkH 1 rfl ?_
      go_frame
      cases heq : eqA (IV y) (IV x)
      case true =>
        have hp : waitB q x y = false := by rw [HWB.out, heq]; rfl
        have htf := HTF.out
        rw [hp, if_neg (by simp)] at htf
        have HTF2 := Lib.hid htf; clear htf hp HTF HWB HTL HFS
        refine tkH 2 rfl ?_
        simp only [Act.put, List.setIfInBounds_toArray, List.set_cons_zero, List.set_cons_succ]
        refine tkH 3 rfl ?_
        go_frame
        refine skH 4 rfl ?_
        simp only [Act.put, List.setIfInBounds_toArray, List.set_cons_zero, List.set_cons_succ]
        refine skH 5 rfl ?_
        go_frame
        refine skH 6 rfl ?_
        go_frame
        refine skH 7 rfl ?_
        go_frame
        refine skH 8 rfl ?_
        go_frame
        refine skH 9 rfl ?_
        go_frame
        refine skH 10 rfl ?_
        go_frame
        refine tkH 11 rfl ?_
        simp only [Act.put, List.setIfInBounds_toArray, List.set_cons_zero, List.set_cons_succ]
        refine wpAnyH_done (by kernel_rfl) ?_ _
        refine noOut_normalG ?_
        try simp only [Exit.then]
        have H6 := Lib.hid HT.out.drop
        clear HT
        gi_wp2
        show Sts W1 G1 _ [itmR go (((itemsL res.deps).take (k + 1)).filter (waitB q x))]
        rw [HTF2.out]
        exact H6.out
      case false =>
        refine tkH 2 rfl ?_
        simp only [Act.put, List.setIfInBounds_toArray, List.set_cons_zero, List.set_cons_succ]
        refine tkH 3 rfl ?_
        go_frame
        refine tkH 4 rfl ?_
        go_frame
        refine tkH 5 rfl ?_
        go_frame
        refine tkH 6 rfl ?_
        go_frame
        refine tkH 7 rfl ?_
        go_frame
        refine tkH 8 rfl ?_
        go_frame
        refine wpAnyH_ready (rs := [9]) (by kernel_rfl) (by simp) ?_
        refine AllReadyH.cons (o := _) rfl (fun K hK => ?_) AllReadyH.nil
        go_simp
        have TO := HTL.out.ord [4, 5, 6, 0, 1, 2, 3]
        refine (HOV.out.at (R := rowR gw #[.pointer (some ⟨wk, 0, none⟩)] :: rowR wk X :: rowR gx (IV x) :: rowR gy (IV y) :: itmR go LT :: rowR (go + 1) (DV res.deps) :: rowR g5 (CV res) :: R) TO).mono ?_
        clear TO
        rintro e9 w9 ⟨rfl, hb⟩
        have T := HT.out.pure hb
        have TL := HTL.out.pure hb
        clear hb HT HTL HOV
        refine hK.out _ _ (HFS.out _ _ TL) (fun hHeld => ?_)
        clear hK K HFS TL
        have HT := Lib.hid T; clear T
        cases ov
        case true =>
          have hp : waitB q x y = false := by rw [HWB.out, heq]; rfl
          have htf := HTF.out
          rw [hp, if_neg (by simp)] at htf
          have HTF2 := Lib.hid htf; clear htf hp HTF HWB
          refine tkH 10 rfl ?_
          simp only [Act.put, List.setIfInBounds_toArray, List.set_cons_zero, List.set_cons_succ]
          refine tkH 11 rfl ?_
          go_frame
          refine wpAnyH_done (by kernel_rfl) ?_ _
          refine noOut_normalG ?_
          try simp only [Exit.then]
          have H6 := Lib.hid HT.out.drop
          clear HT
          gi_wp2
          show Sts W1 G1 _ [itmR go (((itemsL res.deps).take (k + 1)).filter (waitB q x))]
          rw [HTF2.out]
          exact H6.out
        case false =>
          have hp : waitB q x y = true := by rw [HWB.out, heq]; rfl
          have htf := HTF.out
          rw [hp, if_pos rfl] at htf
          have HTF2 := Lib.hid htf; clear htf hp HTF HWB
          refine tkH 10 rfl ?_
          simp only [Act.put, List.setIfInBounds_toArray, List.set_cons_zero, List.set_cons_succ]
          refine tkH 11 rfl ?_
          go_frame
          refine wpAnyH_done (by kernel_rfl) ?_ _
          refine noOut_normalG ?_
          try simp only [Exit.then]
          have T3 := HT.out.swap
          obtain ⟨u, T2⟩ := T3.itmOpen
          clear T3 HT
          have ry := T2.row2; have ly := row_lt ry
          have r0 := T2.row; have l0 := row_lt r0; have c0 := row_cell r0 0; have f0 := row_frozen r0 0
          obtain ⟨i0, hi, hz0, hz1, hz2⟩ := itm_i
          have TA := T2.new (IV y) 35
          have hnw := Lib.hid (news_row TA.row)
          have TA := Lib.hid (TA.ord [2, 0, 1, 3])
          have h63 : LT.length + 1 ≤ maxLen := by unfold maxLen; omega
          have hby : (LT.length + 1) * 16 ≤ 140737488355328 := by omega
          have HOK := Lib.hid (itm_one y)
          clear T2
          gi_wp2_with (gi_at_builtin; refine wpListIn_append_vecG rfl _ _ 30 rfl 35 i0 (.agg (IV noItem)) 2 16 Try.underlying30 hi hz0 hz1 hz2 rfl (by decide) _ _ _ rfl TA.out ⟨_, 0, none⟩ 1 1 (IV y).toList rfl rfl hnw.out HOK.out ?c3 ?c4 ?_)
          case c3 => exact h63
          case c4 => exact hby
          intro v8 w8 T9
          obtain ⟨A9, c9, rfl⟩ := vec_shape2 T9
          clear TA hnw r0 ry l0 ly c0 f0 h63 hby
          have r0 := T9.row2; have l0 := row_lt r0; have c0 := row_cell r0 0; have f0 := row_frozen r0 0
          have T10 := (T9.ord [2, 0, 1, 3]).setCell 0 (.slice A9 (LT.length + 1) c9)
          have HT := Lib.hid T10; clear T9 T10
          gi_wp2
          show Sts W1 G1 _ [itmR go (((itemsL res.deps).take (k + 1)).filter (waitB q x))]
          rw [HTF2.out]
          have T11 := (HT.out.ord [2, 3, 0, 1]).drop.drop
          refine Sts.itmShut (u := .slice A9 (LT.length + 1) c9) ?_
          rw [List.length_append, show vl IV (LT ++ [y]) = vl IV LT ++ (IV y).toList from vl_snoc IV LT y]
          exact T11
    case done =>
      intro D1 W1 T1
      rw [List.take_length, ← HW.out] at T1
      have T1 : Sts w F W1 (objR D1 (.deferred (some [])) :: itmR go (waitsM m q x) :: rowR (go + 1) (DV res.deps) :: rowR g5 (CV res) :: rowR gw #[.pointer (some ⟨wk, 0, none⟩)] :: rowR wk X :: rowR b #[.pointer (some ⟨gc, 0, none⟩), .pointer (some ⟨gd, 0, none⟩)] :: rowR gx (IV x) :: rowsIRK gc m :: rowsIRL gd q :: R) := T1
      obtain ⟨u, T2⟩ := (T1.swap).itmOpen
      have r0 := T2.row; have l0 := row_lt r0; have c0 := row_cell r0 0
      have T3 := T2.ord [2, 0, 1]
      have hD := T3.obj
      have T4 := (T3.putObj (.deferred none)).drop
      have T5 := (T4.ord [0, 2, 3, 4, 7, 1, 5, 6, 8, 9]).drop.drop.drop.drop.drop
      have HT := Lib.hid T5; have HDD := Lib.hid hD; clear T1 T2 T3 T4 T5 hD HT0
      go_wp2
      exact retM1 HDD.out (results_tmp rfl _ _ _) ⟨u, rfl, HT.out⟩ rfl
    case stop =>
      intro D1 c1 k W1 _ _ T1
      exact (Sts.no T1.drop).elim
end
end Go.Proofs.Ytnjgjhjilolanaa
/- A map of the call's own as a thing: a function from keys. Nothing of the program stands here. -/
namespace Go.Proofs.Ytnjgjhjilolanaa
open Go.RowKit
open Go.Maps (Keyed)
set_option linter.unusedVariables false
/-- How an element reads: as itself. -/
def RV (v : Value) : Option (DataW Value × List MemPlace) := some (.held v, [])
/-- What is asked of keys. -/
structure KeyOk {α : Type} (P : Program) (k : TypeId) (kv : α → Value) (ok : α → Prop) : Prop where
  lit : ∀ x, ok x → ∃ l, keyOf P k (kv x) = some l
  inj : ∀ x y l, ok x → ok y → keyOf P k (kv x) = some l → keyOf P k (kv y) = some l → x = y
  keyed : Keyed P k
section
variable {α β : Type}
def mapIs (P : Program) (k : TypeId) (kv : α → Value) (ev : β → Value) (ok : α → Prop) (W : World) (b n : Nat) (f : α → Option β) : Prop :=
  ∃ D : DataW Value, W.ownsMap P k RV b n D ∧ ∀ x l, ok x → keyOf P k (kv x) = some l → match f x with
    | none => Maps.has D l = false
    | some y => Maps.has D l = true ∧ ∀ z, D.atKey l z = .held (ev y)
/-- A map in block b, of at most n entries. -/
def mapR (P : Program) (k : TypeId) (kv : α → Value) (ev : β → Value) (ok : α → Prop) (b n : Nat) (f : α → Option β) : Res where
  sat F W := (∀ j, F j ↔ j = b) ∧ mapIs P k kv ev ok W b n f
  stay := fun {F W W'} h ⟨hF, D, ⟨es, clock, hb, rest⟩, hD⟩ => ⟨hF, D, ⟨es, clock, by rw [h b ((hF b).2 rfl)]; exact hb, rest⟩, hD⟩
  lt := fun ⟨hF, D, hown, hD⟩ j hj => by rw [(hF j).1 hj]; exact hown.lt
variable {P : Program} {k t e : TypeId} {kv : α → Value} {ev : β → Value} {ok : α → Prop} {w W : World} {F : Nat → Prop} {R L : List Res} {b n : Nat} {f : α → Option β}
theorem mapIs.look (K : KeyOk P k kv ok) (ht : P.underlying t = some (.map k e)) {z : Value} (hz : ∀ w, (zeroValue e).run P w = .ok z w) (h : mapIs P k kv ev ok W b n f) (x : α) (hx : ok x) :
    (Instr.lookup t (.map (some b)) (kv x) true).run P W = .ok (.tuple #[(match f x with | none => z | some y => ev y), .bool (f x).isSome]) W := by
  obtain ⟨D, hown, hD⟩ := h
  obtain ⟨l, hl⟩ := K.lit x hx
  obtain ⟨v, ps, hrun, hv⟩ := hown.look_ok K.keyed ht (hz W) (zd := .held z) (zp := []) rfl hl
  have hd := hD x l hx hl
  unfold RV at hv
  simp only [Option.some.injEq, Prod.mk.injEq] at hv
  rw [hrun]
  cases hf : f x with
  | none =>
    rw [hf] at hd
    simp only at hd
    rw [hd]
    rw [Maps.atKey_of_not_has hd] at hv
    injection hv.1 with e1
    rw [e1]; rfl
  | some y =>
    rw [hf] at hd
    simp only at hd
    rw [hd.1]
    rw [hd.2] at hv
    injection hv.1 with e1
    rw [e1]; rfl
theorem mapIs.look1 (K : KeyOk P k kv ok) (ht : P.underlying t = some (.map k e)) {z : Value} (hz : ∀ w, (zeroValue e).run P w = .ok z w) (h : mapIs P k kv ev ok W b n f) (x : α) (hx : ok x) :
    (Instr.lookup t (.map (some b)) (kv x) false).run P W = .ok (match f x with | none => z | some y => ev y) W := by
  obtain ⟨D, hown, hD⟩ := h
  obtain ⟨l, hl⟩ := K.lit x hx
  obtain ⟨v, ps, hrun, hv⟩ := hown.lookup K.keyed ht (hz W) (zd := .held z) (zp := []) rfl hl
  have hd := hD x l hx hl
  unfold RV at hv
  simp only [Option.some.injEq, Prod.mk.injEq] at hv
  rw [hrun]
  cases hf : f x with
  | none =>
    rw [hf] at hd
    simp only at hd
    rw [Maps.atKey_of_not_has hd] at hv
    injection hv.1 with e1
    rw [e1]
  | some y =>
    rw [hf] at hd
    simp only at hd
    rw [hd.2] at hv
    injection hv.1 with e1
    rw [e1]
open Classical in
noncomputable def putF (f : α → Option β) (x : α) (y : β) : α → Option β := fun x' => if x' = x then some y else f x'
theorem putF_same (f : α → Option β) (x : α) (y : β) : putF f x y x = some y := by unfold putF; rw [if_pos rfl]
theorem putF_other (f : α → Option β) {x x' : α} (y : β) (h : x' ≠ x) : putF f x y x' = f x' := by unfold putF; rw [if_neg h]
theorem mapIs.put (K : KeyOk P k kv ok) (ht : P.underlying t = some (.map k e)) (h : mapIs P k kv ev ok W b n f) (hn : n < maxLen) (x : α) (hx : ok x) (y : β) :
    ∃ W', (Instr.mapUpdate t (.map (some b)) (kv x) (ev y)).run P W = .ok () W' ∧ mapIs P k kv ev ok W' b (n + 1) (putF f x y) ∧ W.grownBy W' (some b) := by
  obtain ⟨D, hown, hD⟩ := h
  obtain ⟨l, hl⟩ := K.lit x hx
  obtain ⟨W', hrun, hown', hg⟩ := hown.update K.keyed ht hn hl (d := .held (ev y)) (ps := []) (val := ev y) rfl
  have hk : WideAt.IsKeyLit l := K.keyed.key hl
  refine ⟨W', hrun, ⟨_, hown', fun x' l' hx' hl' => ?_⟩, hg⟩
  by_cases hxx : x' = x
  · subst hxx
    have : l' = l := Option.some.inj (hl'.symm.trans hl)
    subst this
    rw [putF_same]
    exact ⟨Maps.has_put_same hown.isMap hk _, fun z => Maps.atKey_put_same hown.isMap hk _ _⟩
  · have hne : l' ≠ l := fun e => hxx (K.inj x' x l hx' hx (e ▸ hl') hl)
    rw [putF_other f y hxx]
    have hd := hD x' l' hx' hl'
    cases hf : f x' with
    | none =>
      rw [hf] at hd
      simp only at hd ⊢
      rw [Maps.has_put_other hne]; exact hd
    | some y' =>
      rw [hf] at hd
      simp only at hd ⊢
      exact ⟨by rw [Maps.has_put_other hne]; exact hd.1, fun z => by rw [Maps.atKey_put_other hne]; exact hd.2 z⟩
theorem Sts.map (T : Sts w F W (mapR P k kv ev ok b n f :: R)) : mapIs P k kv ev ok W b n f := let ⟨_, ha⟩ := T.at0; ha.2
end
end Go.Proofs.Ytnjgjhjilolanaa
/- A map of the call's own, and how many entries it has. Nothing of the program stands here. -/
namespace Go.Proofs.Ytnjgjhjilolanaa
open Go.RowKit
open Go.Maps (Keyed)
set_option linter.unusedVariables false
section
variable {α β : Type}
def mapIsC (P : Program) (k : TypeId) (kv : α → Value) (ev : β → Value) (ok : α → Prop) (W : World) (b n c : Nat) (f : α → Option β) : Prop :=
  ∃ D : DataW Value, W.ownsMap P k RV b n D ∧ Maps.size D = c ∧ ∀ x l, ok x → keyOf P k (kv x) = some l → match f x with
    | none => Maps.has D l = false
    | some y => Maps.has D l = true ∧ ∀ z, D.atKey l z = .held (ev y)
/-- A map in block b, of c entries. -/
def mapCR (P : Program) (k : TypeId) (kv : α → Value) (ev : β → Value) (ok : α → Prop) (b n c : Nat) (f : α → Option β) : Res where
  sat F W := (∀ j, F j ↔ j = b) ∧ mapIsC P k kv ev ok W b n c f
  stay := fun {F W W'} h ⟨hF, D, ⟨es, clock, hb, rest⟩, hD⟩ => ⟨hF, D, ⟨es, clock, by rw [h b ((hF b).2 rfl)]; exact hb, rest⟩, hD⟩
  lt := fun ⟨hF, D, hown, hD⟩ j hj => by rw [(hF j).1 hj]; exact hown.lt
variable {P : Program} {k t e : TypeId} {kv : α → Value} {ev : β → Value} {ok : α → Prop} {w W : World} {F : Nat → Prop} {R L : List Res} {b n c : Nat} {f : α → Option β}
theorem mapIsC.is (h : mapIsC P k kv ev ok W b n c f) : mapIs P k kv ev ok W b n f := let ⟨D, h1, _, h3⟩ := h; ⟨D, h1, h3⟩
theorem mapIsC.len (h : mapIsC P k kv ev ok W b n c f) (ht : P.underlying t = some (.map k e)) (ty : TypeId) : (Builtin.len_ #[t] ty #[.map (some b)]).run P W = .ok (.int .i64 c) W := by
  obtain ⟨D, h1, h2, _⟩ := h
  rw [h1.len ht ty, h2]
theorem mapIsC.put (K : KeyOk P k kv ok) (ht : P.underlying t = some (.map k e)) (h : mapIsC P k kv ev ok W b n c f) (hn : n < maxLen) (x : α) (hx : ok x) (y : β) :
    ∃ W', (Instr.mapUpdate t (.map (some b)) (kv x) (ev y)).run P W = .ok () W' ∧ mapIsC P k kv ev ok W' b (n + 1) (if (f x).isSome then c else c + 1) (putF f x y) ∧ W.grownBy W' (some b) := by
  obtain ⟨D, hown, hsz, hD⟩ := h
  obtain ⟨l, hl⟩ := K.lit x hx
  obtain ⟨W', hrun, hown', hg⟩ := hown.update K.keyed ht hn hl (d := .held (ev y)) (ps := []) (val := ev y) rfl
  have hk : WideAt.IsKeyLit l := K.keyed.key hl
  refine ⟨W', hrun, ⟨_, hown', ?_, fun x' l' hx' hl' => ?_⟩, hg⟩
  · rw [Maps.size_put (hown.tidy K.keyed), hsz]
    have hd := hD x l hx hl
    cases hf : f x with
    | none => rw [hf] at hd; simp only at hd; rw [hd]; rfl
    | some y' => rw [hf] at hd; simp only at hd; rw [hd.1]; rfl
  by_cases hxx : x' = x
  · subst hxx
    have : l' = l := Option.some.inj (hl'.symm.trans hl)
    subst this
    rw [putF_same]
    exact ⟨Maps.has_put_same hown.isMap hk _, fun z => Maps.atKey_put_same hown.isMap hk _ _⟩
  · have hne : l' ≠ l := fun e => hxx (K.inj x' x l hx' hx (e ▸ hl') hl)
    rw [putF_other f y hxx]
    have hd := hD x' l' hx' hl'
    cases hf : f x' with
    | none =>
      rw [hf] at hd
      simp only at hd ⊢
      rw [Maps.has_put_other hne]; exact hd
    | some y' =>
      rw [hf] at hd
      simp only at hd ⊢
      exact ⟨by rw [Maps.has_put_other hne]; exact hd.1, fun z => by rw [Maps.atKey_put_other hne]; exact hd.2 z⟩
theorem Sts.mapC (T : Sts w F W (mapCR P k kv ev ok b n c f :: R)) : mapIsC P k kv ev ok W b n c f := let ⟨_, ha⟩ := T.at0; ha.2
theorem Sts.mapCNew (T : Sts w F W L) : Sts w F (W.alloc (.map #[] 0)) (mapCR P k kv ev ok W.heap.size 0 0 (fun _ => none) :: L) := by
  obtain ⟨⟨G, hs, hG⟩, m⟩ := T.keep (.map #[] 0)
  obtain ⟨⟨G0, hs0, hg0⟩, m0⟩ := T
  have hlt := hs0.lt
  have hs1 : Sat (W.alloc (.map #[] 0)) L G0 := hs0.stay fun j hj => Below.heap_alloc _ _ _ (hlt j hj)
  refine ⟨⟨fun j => j = W.heap.size ∨ G0 j, ⟨fun j => j = W.heap.size, G0, ⟨fun _ => Iff.rfl, .map [], World.ownsMap_made W P k RV, rfl, fun x l _ _ => rfl⟩, hs1, ?_, fun _ => Iff.rfl⟩, ?_⟩, m⟩
  · rintro j rfl h; have := hlt _ h; omega
  · rintro j (rfl | h)
    · right; exact m0.size
    · exact hg0 j h
theorem Sts.mapCPut (T : Sts w F W (mapCR P k kv ev ok b n c f :: R)) (K : KeyOk P k kv ok) (ht : P.underlying t = some (.map k e)) (hn : n < maxLen) (x : α) (hx : ok x) (y : β) :
    ∃ W', (Instr.mapUpdate t (.map (some b)) (kv x) (ev y)).run P W = .ok () W' ∧ Sts w F W' (mapCR P k kv ev ok b (n + 1) (if (f x).isSome then c else c + 1) (putF f x y) :: R) ∧ W'.heap.size = W.heap.size := by
  obtain ⟨D, hown, hsz, hD⟩ := T.mapC
  obtain ⟨l, hl⟩ := K.lit x hx
  obtain ⟨W1, hrun1, _, ht1⟩ := hown.store K.keyed ht hn hl (d := .held (ev y)) (ps := []) (val := ev y) rfl
  obtain ⟨W', hrun, hm, hg⟩ := T.mapC.put K ht hn x hx y
  have he : W1 = W' := by rw [hrun] at hrun1; injection hrun1 with _ e; exact e.symm
  refine ⟨W', hrun, T.turn fun A ha => ⟨fun j => j = b, ⟨fun _ => Iff.rfl, hm⟩, fun j hj => .inl ((ha.1 j).2 hj), hg.os, hg.tape, hg.output, hg.size, fun j hj hn => hg.block j hj fun e => hn ((ha.1 j).2 (by injection e))⟩, ?_⟩
  subst he
  obtain ⟨es, c, es', c', hb, rfl⟩ := ht1
  simp [Go.ChangeMaps.setBlock]
end
end Go.Proofs.Ytnjgjhjilolanaa
/- A map's entry is made ready, then stored. Nothing of the program stands here. -/
namespace Go.Proofs.Ytnjgjhjilolanaa
open Go.RowKit
open Go.Maps (Keyed)
open Go.WideMaps (KeyLaw)
open Go.ChangeMaps (setBlock)
set_option linter.unusedVariables false
section
variable {α β : Type} {P : Program} {k t e : TypeId} {kv : α → Value} {ev : β → Value} {ok : α → Prop} {w W : World} {F : Nat → Prop} {R L : List Res} {b n c : Nat} {f : α → Option β}
theorem mapC_entry (T : Sts w F W (mapCR P k kv ev ok b n c f :: R)) (K : KeyOk P k kv ok) (KL : KeyLaw P k) (ht : P.underlying t = some (.map k e)) {z : Value} (hz : ∀ u : World, (zeroValue e).run P u = .ok z u) (hn : n < maxLen) (x : α) (hx : ok x) (y : β) :
    ∃ v0 st W1 W2, (Instr.mapEntry t (.map (some b)) (kv x)).run P W = .ok (.tuple #[v0, .int .i64 st]) W1 ∧ (Instr.entryStore t (.map (some b)) (.int .i64 st) (ev y)).run P W1 = .ok () W2 ∧
      Sts w F W2 (mapCR P k kv ev ok b (n + 1) (if (f x).isSome then c else c + 1) (putF f x y) :: R) ∧ W2.heap.size = W.heap.size ∧ (∀ j, j ≠ b → W1.heap[j]? = W.heap[j]?) ∧ W1.heap.size = W.heap.size := by
  obtain ⟨W9, hput, T9, hsz⟩ := T.mapCPut K ht hn x hx y
  obtain ⟨D, ⟨es, clock, hb, Fi, hle, hD⟩, -⟩ := T.mapC
  obtain ⟨l, hl⟩ := K.lit x hx
  obtain ⟨v0, st, es1, c1, he, -, hs⟩ := Go.WideElems.entry_then_store KL ht hz hb Fi hl
  have hb1 : (setBlock W b (.map es1 c1)).heap[b]? = some (.map es1 c1) := Go.ChangeMaps.heap_setBlock_same hb _
  obtain ⟨es2, c2, h1, h2⟩ := hs (setBlock W b (.map es1 c1)) (ev y) hb1
  have he9 : setBlock W b (.map es2 c2) = W9 := by rw [h2] at hput; injection hput
  refine ⟨v0, st, setBlock W b (.map es1 c1), W9, he, ?_, T9, hsz, fun j hj => Go.ChangeMaps.heap_setBlock_other hb _ hj, by simp [setBlock]⟩
  rw [← he9]
  have : setBlock (setBlock W b (.map es1 c1)) b (.map es2 c2) = setBlock W b (.map es2 c2) := by simp [setBlock]
  rw [← this]
  exact h1
theorem row_other {W W1 : World} {b g : Nat} {X : Array Value} (h : ∀ j, j ≠ b → W1.heap[j]? = W.heap[j]?) (hr : row? W g = some X) (hg : g ≠ b) : row? W1 g = some X := by
  unfold row? at hr ⊢
  rw [h g hg]; exact hr
end
end Go.Proofs.Ytnjgjhjilolanaa
