/- Several texts in one. -/
import Derived.Test.YtnjgjhjilolanaaV35
import Derived.Test.YtnjgjhjilolanaaV4
/- Layer 18: an item's part, as the document finds it. -/
namespace Go.Proofs.Ytnjgjhjilolanaa
open Go.RowKit Go.Shelf
set_option linter.unusedVariables false
set_option maxRecDepth 20000
attribute [local go_sem] row_alloc row_drew row_drewN row_ext row_setCell row_setRow size_ext setRow_alloc setRow_drew loadOf storeOf piece_lit loadVal_at storeVal_at allOne_lit buildOf buildRes_some
attribute [local go_sem high] cell_alloc frozen_alloc setCell_alloc cell_ext frozen_ext cell_setRow frozen_setRow
attribute [local go_sem ↓] TDeed_ld0 TDeed_st0 TDeed_fd0 TDeed_bd0
attribute [local go_sem] TDeed_size TDeed_one TDeed_piece TDeed_c0 TDeed_c1 TDeed_c2 TDeed_c3 TDeed_c4 TDeed_c5 TDeed_set_kind TDeed_set_key TDeed_set_val TDeed_set_ver TDeed_set_ses TDeed_set_num TDeed_ld TDeed_st TDeed_f_kind TDeed_f_key TDeed_f_val TDeed_f_ver TDeed_f_ses TDeed_f_num TDeed_bd TDeed_fl TDeed_fl_kind TDeed_fl_key TDeed_fl_val TDeed_fl_ver TDeed_fl_ses TDeed_fl_num
attribute [local go_sem high] TDeed_eql TDeed_neq
attribute [local go_sem ↓] index_deps0 load_deps0 store_deps0
attribute [local go_sem] DV_piece DV_size DV_one index_deps load_deps store_deps
attribute [local go_sem high] TDeps_eql TDeps_neq
attribute [local go_sem ↓] TCall_ld0 TCall_st0 TCall_fd0 TCall_bd0
attribute [local go_sem] TCall_size TCall_one TCall_piece TCall_c0 TCall_c1 TCall_c2 TCall_c3 TCall_c4 TCall_c5 TCall_c6 TCall_c7 TCall_c8 TCall_c9 TCall_c10 TCall_c11 TCall_c12 TCall_c13 TCall_p_deed TCall_put_deed TCall_p_deps TCall_put_deps TCall_set_seq TCall_ld TCall_st TCall_f_deed TCall_f_deps TCall_f_seq TCall_bd TCall_fl TCall_fl_deed TCall_fl_deps TCall_fl_seq
attribute [local go_sem high] TCall_eql TCall_neq
attribute [local go_sem ↓] TItem_ld0 TItem_st0 TItem_fd0 TItem_bd0
attribute [local go_sem] TItem_size TItem_one TItem_piece TItem_c0 TItem_c1 TItem_set_rep TItem_set_num TItem_ld TItem_st TItem_f_rep TItem_f_num TItem_bd TItem_fl TItem_fl_rep TItem_fl_num
attribute [local go_sem high] TItem_eql TItem_neq
attribute [local go_sem ↓] itm_slice0
attribute [local go_sem] itm_slice1
theorem itm_sliceE (w : World) : (buildSem 30 0 #[]).run Try.prog w = .ok (.slice (some ⟨w.heap.size, 0, none⟩) 0 0) (w.alloc (.cells #[] 35)) := by kernel_rfl
attribute [local go_sem] itm_sliceE
theorem step_append_inE {α : Type} {V : α → Array Value} {P : Program} {w W : World} {F : Nat → Prop} {R : List Res} {ops : Array Oper} {o : Oper} {a : Act} {K : Act → World → Prop} {Q : Exit → Act → World → Prop} {E : Prop} (hgd : o.guard = none) (s x : Operand) (t : TypeId)
    (ho : o.op = .call { callee := .builtin .append, args := #[s, x], argTypes := #[t, t] })
    (e : TypeId) (i : TypeInfo) (z : Value) (size bytes : Nat) (ht : P.underlying t = some (.slice e)) (hi : P.info? e = some i) (hz : i.zero = some z)
    (hsize : i.size = size) (hby : i.bytes = bytes) (hzs : z.cells.size = size) (hsz : 0 < size)
    (g0 c0 n : Nat) (xs : List Value) (hs : a.eval s = .slice (some ⟨g0, 0, none⟩) n c0) (T : Sts w F W (vecR e size (.slice (some ⟨g0, 0, none⟩) n c0) n xs :: R))
    (A : Option Addr) (c m : Nat) (l : List α) (hm : l.length = m) (hx : a.eval x = .slice A m c) (hr : RowsIn W A size V l) (hV : ∀ x, (V x).size = size) (h1 : ∀ x, ∀ u ∈ (V x).toList, u.oneCell' = true)
    (h63 : n + m ≤ maxLen) (hbytes : (n + m) * bytes ≤ 140737488355328)
    (h : ∀ g cap w', Sts w F w' (vecR e size (.slice (some ⟨g, 0, none⟩) (n + m) cap) (n + m) (xs ++ vl V l) :: R) → K (a.put o.dst (.slice (some ⟨g, 0, none⟩) (n + m) cap)) w') :
    if Region.wanted o (yielded ops a.tmps) = true then Oper.wp P o a W K Q else E := by
  subst hm
  exact step_append_in hgd s x t ho e i z size bytes ht hi hz hsize hby hzs hsz g0 c0 n xs hs T A c l hx hr (Below.refl _ _) hV (fun x _ => h1 x) h63 hbytes h
/-- A slice of the call's own lies at its address. -/
theorem vec_in {α : Type} {V : α → Array Value} {size : Nat} (hV : ∀ x, (V x).size = size) {e : TypeId} {A : Option Addr} {n c : Nat} {l : List α} {w W : World} {F : Nat → Prop} {R : List Res} (hn : l.length = n) (T : Sts w F W (vecR e size (.slice A n c) n (vl V l) :: R)) (h0 : 0 < size) (hl : n ≤ 1000000) : RowsIn W A size V l := by
  subst hn
  obtain ⟨A', c', hv, hA, -, -⟩ := vec_rows hV T h0 (by omega)
  injection hv with e1
  subst e1
  exact hA
theorem RowsIn.cutIf {α : Type} {w : World} {g n cp k : Nat} {V : α → Array Value} {l : List α} (h : RowsIn w (some ⟨g, 0, none⟩) n V l) (hl : l.length ≤ cp) : RowsIn w (if cp = k then some ⟨g, 0, none⟩ else some ⟨g, k * n, none⟩) n V (l.drop k) := by
  split
  · rename_i e
    have hd : l.drop k = [] := List.drop_eq_nil_of_le (by omega)
    rw [hd]
    exact ⟨fun h => rfl, fun a ha j hj => by simp at hj, by simp⟩
  · have h1 := h.cut k
    rw [add_none, Nat.zero_add] at h1
    exact h1
noncomputable def partF (m : RowsMK) (q : RowsML) (x : Item) (p : List Item) (y : Item) : List Item := if (eqA (IV y) (IV x) || !inB x (reachL m q y)) = true then p else insL m p y
theorem partL_fold (m : RowsMK) (q : RowsML) (x : Item) : partL m q x = (reachL m q x).foldl (partF m q x) [x] := rfl
theorem fold_take {α β : Type} (f : β → α → β) (l : List α) (b : β) {i : Nat} {y : α} (h : l[i]? = some y) : (l.take (i + 1)).foldl f b = f ((l.take i).foldl f b) y := by
  rw [List.take_add_one, h, List.foldl_append]
  rfl
theorem vl_one {α : Type} (V : α → Array Value) (x : α) : vl V [x] = (V x).toList := by
  have := vl_snoc V [] x
  rw [vl_nil] at this
  exact this
theorem insL_at {m : RowsMK} {p : List Item} {y : Item} {k : Nat} (hk : k ≤ p.length) (hb : ∀ j z, j < k → p[j]? = some z → befB m z y = true) (he : ∀ z, p[k]? = some z → befB m z y = false) : insL m p y = p.take k ++ y :: p.drop k := by
  have h1 : p.takeWhile (fun z => befB m z y) = p.take k ∧ p.dropWhile (fun z => befB m z y) = p.drop k := by
    have ha : ∀ z ∈ p.take k, befB m z y = true := fun z hz => by
      obtain ⟨j, hj, rfl⟩ := List.getElem_of_mem hz
      rw [List.length_take] at hj
      rw [List.getElem_take]
      exact hb j _ (by omega) (List.getElem?_eq_getElem _)
    have hs : p = p.take k ++ p.drop k := (List.take_append_drop k p).symm
    have hd : (p.drop k).takeWhile (fun z => befB m z y) = [] ∧ (p.drop k).dropWhile (fun z => befB m z y) = p.drop k := by
      cases hh : p.drop k with
      | nil => exact ⟨rfl, rfl⟩
      | cons a t =>
        have : p[k]? = some a := by
          have := congrArg (·[0]?) hh
          simpa using this
        have := he a this
        rw [List.takeWhile_cons_of_neg (by simp [this]), List.dropWhile_cons_of_neg (by simp [this])]
        exact ⟨rfl, rfl⟩
    constructor
    · conv => lhs; rw [hs]
      rw [List.takeWhile_append_of_pos ha, hd.1, List.append_nil]
    · conv => lhs; rw [hs]
      rw [List.dropWhile_append_of_pos ha, hd.2]
  unfold insL
  rw [h1.1, h1.2]
theorem reach_com {m : RowsMK} {q : RowsML} {its : List Item} (G : GInv m its) {x y : Item} (h : x ∈ reachL m q y) : (getMK m y).isSome = true := by
  obtain ⟨z, h1, h2⟩ := (reach_mem G).1 h
  cases hc : (getMK m y).isSome with
  | true => rfl
  | false =>
    have := h1.dead hc
    subst this
    rw [waits_none hc] at h2
    simp at h2
theorem part_com {m : RowsMK} {q : RowsML} {its : List Item} (G : GInv m its) {x : Item} (hx : (getMK m x).isSome = true) : ∀ (l p : List Item), (∀ z ∈ p, (getMK m z).isSome = true) → ∀ z ∈ l.foldl (partF m q x) p, (getMK m z).isSome = true
  | [], p, h => h
  | y :: l, p, h => part_com G hx l (partF m q x p y) fun z hz => by
    unfold partF at hz
    split at hz
    · exact h z hz
    · rename_i hc
      rcases insL_mem.1 hz with rfl | hz
      · refine reach_com (q := q) G (x := x) (inB_iff.1 ?_)
        cases hi : inB x (reachL m q z) with
        | true => rfl
        | false => rw [hi] at hc; simp at hc
      · exact h z hz
theorem insL_len (m : RowsMK) (p : List Item) (y : Item) : (insL m p y).length = p.length + 1 := by
  have h := congrArg List.length (List.takeWhile_append_dropWhile (p := fun z => befB m z y) (l := p))
  unfold insL
  rw [List.length_append] at h
  rw [List.length_append, List.length_cons]
  omega
theorem part_len {m : RowsMK} {q : RowsML} {x : Item} : ∀ (l p : List Item), (l.foldl (partF m q x) p).length ≤ p.length + l.length ∧ p.length ≤ (l.foldl (partF m q x) p).length
  | [], p => by simp
  | y :: l, p => by
    have h := part_len (m := m) (q := q) (x := x) l (partF m q x p y)
    have h1 : (partF m q x p y).length ≤ p.length + 1 ∧ p.length ≤ (partF m q x p y).length := by
      unfold partF
      split
      · omega
      · rw [insL_len]; omega
    rw [List.foldl_cons, List.length_cons]
    omega
theorem com_mem {m : RowsMK} {q : RowsML} {items : List Item} {calls : List Call} {dn : List Item} (h : DocOk m q items calls dn) {x : Item} (hx : (getMK m x).isSome = true) : x ∈ items := by
  rw [h.get] at hx
  rw [← idxN_lt, ← h.lc]
  cases hc : calls[idxN x items]? with
  | none => rw [hc] at hx; cases hx
  | some c => exact (List.getElem?_eq_some_iff.1 hc).1
section
variable {w W : World} {F : Nat → Prop} {R : List Res}
set_option maxHeartbeats 16000000 in
theorem docPartT {m : RowsMK} {q : RowsML} {its : List Item} (G : GInv m its) (g : Nat) (vi vc vd : Value) (items : List Item) (calls : List Call) (dn : List Item) (hD : DocOk m q items calls dn) (x : Item) (hx : (getMK m x).isSome = true)
    (T : Sts w F W (docL g vi vc vd items calls dn ++ R)) :
    Calls Try.prog 67 #[.pointer (some ⟨g, 0, none⟩), .agg (IV x)] W fun e W' => ∃ v, e = .returned v ∧ Sts w F W' (vecR 35 2 v (partL m q x).length (vl IV (partL m q x)) :: (docL g vi vc vd items calls dn ++ R)) := by
  have T1 : Sts w F W (rowR g (docC vi vc vd) :: vecR 35 2 vi items.length (vl IV items) :: vecR 47 14 vc calls.length (vl CV calls) :: vecR 35 2 vd dn.length (vl IV dn) :: R) := T
  have T2 := T1.new (IV x) 35
  have rx := T2.row; have lx := row_lt rx
  have T3 := T2.vecNew (IV x) 35 2 1 rfl (by unfold maxLen; omega)
  simp only [World.size_alloc] at T3
  have HT := Lib.hid T3; have HD := Lib.hid hD; have HG := Lib.hid G; have HX := Lib.hid hx
  clear T T1 T2 T3 hD G hx
  obtain ⟨i0, hi, hz0, hz1, hz2⟩ := itm_i
  go_enter Try.func67, Try.ntmps67
  go_upto_region 2 with fail
  generalize W.heap.size + 1 = gp at *
  generalize (W.alloc _).alloc _ = w2 at *
  generalize W.heap.size = gx at *
  have T3 : Sts w F w2 (rowR g (docC vi vc vd) :: vecR 35 2 vi items.length (vl IV items) :: vecR 47 14 vc calls.length (vl CV calls) :: vecR 35 2 vd dn.length (vl IV dn) :: vecR 35 2 (.slice (some ⟨gp, 0, none⟩) 1 1) [x].length (vl IV [x]) :: rowR gx (IV x) :: R) := by rw [vl_one]; exact HT.out.ord [2, 3, 4, 5, 0, 1]
  clear HT rx lx
  have rx := (T3.ord [5, 0, 1, 2, 3, 4]).row; have lx := row_lt rx
  have HRC := Lib.hid (docReachT HG.out g vi vc vd items calls dn HD.out x T3)
  clear T3
  go_wp2_with fail
  refine HRC.out.mono ?_
  clear HRC rx lx
  rintro e3 w3 ⟨vl0, rfl, T⟩
  have T : Sts w F w3 (vecR 35 2 vl0 (reachL m q x).length (vl IV (reachL m q x)) :: rowR g (docC vi vc vd) :: vecR 35 2 vi items.length (vl IV items) :: vecR 47 14 vc calls.length (vl CV calls) :: vecR 35 2 vd dn.length (vl IV dn) :: vecR 35 2 (.slice (some ⟨gp, 0, none⟩) 1 1) [x].length (vl IV [x]) :: rowR gx (IV x) :: R) := T
  have hL448 : (reachL m q x).length ≤ 448 := (reach_inv (q := q) (x := x) HG.out).len
  have hpf := partL_fold m q x
  generalize reachL m q x = L at *
  have HPF := Lib.hid hpf; clear hpf
  obtain ⟨nL, hnL⟩ : ∃ v, v = L.length := ⟨_, rfl⟩
  rw [← hnL] at T hL448
  obtain ⟨AL, cL, rfl⟩ := vec_shape2 T
  have HNL := Lib.hid hnL
  have HT := Lib.hid (T.ord [5, 0, 6, 1, 2, 3, 4])
  clear T hnL
  go_wp2_with fail
  go_loopw [5, 15] (fun u5 u15 wr => ∃ (i : Nat) (p : List Item) (gp cp : Nat), u15 = .int .i64 i ∧ u5 = .slice (some ⟨gp, 0, none⟩) p.length cp ∧ i ≤ nL ∧ p = (L.take i).foldl (partF m q x) [x] ∧ Sts w F wr (vecR 35 2 (.slice (some ⟨gp, 0, none⟩) p.length cp) p.length (vl IV p) :: vecR 35 2 (.slice AL nL cL) nL (vl IV L) :: rowR gx (IV x) :: rowR g (docC vi vc vd) :: vecR 35 2 vi items.length (vl IV items) :: vecR 47 14 vc calls.length (vl CV calls) :: vecR 35 2 vd dn.length (vl IV dn) :: R)) (fun _ u15 _ => nL - (intOf u15).toNat)
  case atStart => exact ⟨0, [x], gp, 1, rfl, rfl, by omega, by simp, HT.out⟩
  case round =>
    clear HT
    obtain ⟨i, p, gp, cp, hrel⟩ := hrel
    obtain ⟨rfl, rfl, hin, hp, T⟩ := hrel
    have hpl : p.length ≤ 500 ∧ 1 ≤ p.length := by
      have h := part_len (m := m) (q := q) (x := x) (L.take i) [x]
      rw [← hp, List.length_take, List.length_singleton] at h
      omega
    have HPL := Lib.hid hpl; have HP := Lib.hid hp
    clear hpl hp
    by_cases hi1 : i < nL
    · have hi2 : (i : Int) < (nL : Int) := by omega
      have hi0 : (0 : Int) ≤ (i : Int) := by omega
      obtain ⟨y, hy⟩ : ∃ y, L[i]? = some y := ⟨L[i]'(by rw [← HNL.out]; exact hi1), List.getElem?_eq_getElem _⟩
      have hpn := fold_take (partF m q x) L [x] hy
      rw [← HP.out] at hpn
      obtain ⟨gL, rfl, hld⟩ := vec_load (P := Try.prog) (e := 35) TItem_size (by omega) TItem_und rfl (by kernel_rfl) (T.ord [1, 0]) HNL.out hy (by omega)
      have T2 := T.new (IV y) 35
      have HT := Lib.hid T2; have HPN := Lib.hid hpn; have HY := Lib.hid hy
      clear T T2 hpn hy
      go_upto_region 5 with fail
      generalize wr.alloc _ = w4 at *
      generalize wr.heap.size = gy at *
      clear hld
      have ry := HT.out.row; have ly := row_lt ry
      have rx := (HT.out.ord [3, 0, 1, 2]).row; have lx := row_lt rx
      have hpf : partF m q x p y = if (eqA (IV y) (IV x) || !inB x (reachL m q y)) = true then p else insL m p y := rfl
      have HPF2 := Lib.hid hpf; clear hpf
      cases heq : eqA (IV y) (IV x)
      case true =>
        have hn2 := HPN.out
        rw [HPF2.out, heq, if_pos (by rfl)] at hn2
        have HN2 := Lib.hid hn2; clear hn2 HPN HPF2
        go_quiet (fail)
        go_wp2_with fail
        go_roundw
        case rel => exact ⟨i + 1, p, gp, cp, by go_num, rfl, by omega, HN2.out.symm, (HT.out.drewN _).drop⟩
        case measure => simp [intOf]; omega
      case false =>
        rw [heq] at HPF2
        have FS : ∀ W' R', Sts w F W' (rowR gy (IV y) :: rowR gx (IV x) :: R') → (row? W' gy = some (IV y) ∧ row? W' gx = some (IV x)) := fun W' R' T => ⟨T.row, T.row1⟩
        have HFS := Lib.hid FS
        have HT2 := Lib.hid (HT.out.ord [0, 3, 1, 2]).drew
        have S0 := FS _ _ HT2.out
        clear FS HT rx lx ry ly
        refine wp_region_held_drew (S := fun W' => (row? W' gy = some (IV y) ∧ row? W' gx = some (IV x))) (by kernel_rfl) S0 (fun hHeld => ?_)
        clear S0
        refine tkH 0 rfl (v := ?_) ?_ ?_
        rotate_left
        · intro w h; (try dsimp only at h); go_simp; try with_reducible rfl
        simp only [Act.put, List.getElem_toArray, List.getElem_cons_zero, List.setIfInBounds_toArray, List.set_cons_zero, List.set_cons_succ]
        refine tkH 1 rfl (v := ?_) ?_ ?_
        rotate_left
        · intro w h; (try dsimp only at h); go_simp; try with_reducible rfl
        go_frame
        refine tkH 2 rfl (v := ?_) ?_ ?_
        rotate_left
        · intro w h; (try dsimp only at h); go_simp; try with_reducible rfl
        go_frame
        refine tkH 3 rfl (v := ?_) ?_ ?_
        rotate_left
        · intro w h; (try dsimp only at h); go_simp; try with_reducible rfl
        go_frame
        refine tkH 4 rfl (v := ?_) ?_ ?_
        rotate_left
        · intro w h; (try dsimp only at h); go_simp; try with_reducible rfl
        go_frame
        refine tkH 5 rfl (v := ?_) ?_ ?_
        rotate_left
        · intro w h; (try dsimp only at h); go_simp; try with_reducible rfl
        go_frame
        refine tkH 7 rfl (v := ?_) ?_ ?_
        rotate_left
        · intro w h; (try dsimp only at h); go_simp; try with_reducible rfl
        go_frame
        refine wpAnyH_ready (rs := [6]) (by kernel_rfl) (by simp) ?_
        refine AllReadyH.cons (o := _) rfl (fun K hK => ?_) AllReadyH.nil
        go_simp
        refine (docReachT HG.out g vi vc vd items calls dn HD.out y (R := rowR gy (IV y) :: rowR gx (IV x) :: vecR 35 2 (.slice (some ⟨gp, 0, none⟩) p.length cp) p.length (vl IV p) :: vecR 35 2 (.slice (some ⟨gL, 0, none⟩) nL cL) nL (vl IV L) :: R) (by have T0 := HT2.out.ord [4, 5, 6, 7, 0, 1, 2, 3]; exact T0)).mono ?_
        clear HT2
        rintro e6 w6 ⟨v6, rfl, T⟩
        have T : Sts w F w6 (vecR 35 2 v6 (reachL m q y).length (vl IV (reachL m q y)) :: rowR g (docC vi vc vd) :: vecR 35 2 vi items.length (vl IV items) :: vecR 47 14 vc calls.length (vl CV calls) :: vecR 35 2 vd dn.length (vl IV dn) :: rowR gy (IV y) :: rowR gx (IV x) :: vecR 35 2 (.slice (some ⟨gp, 0, none⟩) p.length cp) p.length (vl IV p) :: vecR 35 2 (.slice (some ⟨gL, 0, none⟩) nL cL) nL (vl IV L) :: R) := T
        have T2 := T.ord [5, 6, 0, 1, 2, 3, 4, 7, 8]
        refine hK.out _ _ (HFS.out _ _ T2) (fun hHeld => ?_)
        have HHS := Lib.hid (docHasR v6 (reachL m q y) (by have := (reach_inv (q := q) (x := y) HG.out).len; omega) x)
        clear hK K T
        generalize hhs : inB x (reachL m q y) = hs at *
        have HHV := Lib.hid hhs; clear hhs
        have HT := Lib.hid T2; clear T2
        refine wpAnyH_ready (rs := [8]) (by kernel_rfl) (by simp) ?_
        refine AllReadyH.cons (o := _) rfl (fun K hK => ?_) AllReadyH.nil
        go_simp
        refine (HHS.out.at1 (by have T0 := HT.out.ord [2, 0, 1]; exact T0)).mono ?_
        rintro e8 w8 ⟨rfl, hb⟩
        have T := HT.out.pure hb
        refine hK.out _ _ (HFS.out _ _ T) (fun hHeld => ?_)
        clear hK K hb HT HHS HFS
        have HT := Lib.hid (T.ord [2, 0, 1]).drop
        clear T
        refine tkH 9 rfl (v := ?_) ?_ ?_
        rotate_left
        · intro w h; (try dsimp only at h); go_simp; try with_reducible rfl
        simp only [Act.put, List.getElem_toArray, List.getElem_cons_succ, List.getElem_cons_zero, List.setIfInBounds_toArray, List.set_cons_zero, List.set_cons_succ]
        refine tkH 10 rfl (v := ?_) ?_ ?_
        rotate_left
        · intro w h; (try dsimp only at h); go_simp; try with_reducible rfl
        go_frame
        refine wpAnyH_done (by kernel_rfl) ?_ _
        try simp only [Exit.then]
        cases hs
        case false =>
          have hn2 := HPN.out
          rw [HPF2.out, if_pos (by rfl)] at hn2
          have HN2 := Lib.hid hn2; clear hn2 HPN HPF2
          go_wp2_with fail
          go_roundw
          case rel => exact ⟨i + 1, p, gp, cp, by go_num, rfl, by omega, HN2.out.symm, (HT.out.ord [0, 6, 7, 1, 2, 3, 4, 5]).drop⟩
          case measure => simp [intOf]; omega
        case true =>
          have hn2 := HPN.out
          rw [HPF2.out, if_neg (by simp)] at hn2
          have hcm : ∀ z ∈ p, z ∈ items := fun z hz => com_mem HD.out (part_com HG.out (q := q) HX.out (L.take i) [x] (fun z hz => by simp at hz; subst hz; exact HX.out) z (by rw [← HP.out]; exact hz))
          have hcy : y ∈ items := com_mem HD.out (reach_com HG.out (inB_iff.1 HHV.out))
          have HN2 := Lib.hid hn2; have HCM := Lib.hid hcm; have HCY := Lib.hid hcy
          have HT2 := Lib.hid (HT.out.ord [0, 6, 2, 3, 4, 5, 7, 1])
          clear hn2 HPN HPF2 HT hcm hcy
          go_wp2_with fail
          go_loopw [8] (fun u8 wx => ∃ k : Nat, u8 = .int .i64 k ∧ k ≤ p.length ∧ (∀ j z, j < k → p[j]? = some z → befB m z y = true) ∧ Sts w F wx (rowR gy (IV y) :: vecR 35 2 (.slice (some ⟨gp, 0, none⟩) p.length cp) p.length (vl IV p) :: rowR g (docC vi vc vd) :: vecR 35 2 vi items.length (vl IV items) :: vecR 47 14 vc calls.length (vl CV calls) :: vecR 35 2 vd dn.length (vl IV dn) :: vecR 35 2 (.slice (some ⟨gL, 0, none⟩) nL cL) nL (vl IV L) :: rowR gx (IV x) :: R)) (fun u8 _ => p.length - (intOf u8).toNat)
          case atStart => exact ⟨0, rfl, by omega, fun j z hj => by omega, HT2.out⟩
          case round =>
            clear HT2
            obtain ⟨k, hrel⟩ := hrel
            obtain ⟨rfl, hkp, hbf, T⟩ := hrel
            have HBF := Lib.hid hbf; clear hbf
            have HT2 := Lib.hid T.drew; have HKP := Lib.hid hkp
            clear T hkp
            go_upto_region 7 with fail
            go_cut [42] from 30 to 42 (fun u42 wx => Sts w F wx [] ∧ ∃ bb : Bool, u42 = .bool bb ∧ (bb = true → k < p.length ∧ ∀ z, p[k]? = some z → befB m z y = true) ∧ (bb = false → ∀ z, p[k]? = some z → befB m z y = false) ∧ Sts w F wx (rowR gy (IV y) :: vecR 35 2 (.slice (some ⟨gp, 0, none⟩) p.length cp) p.length (vl IV p) :: rowR g (docC vi vc vd) :: vecR 35 2 vi items.length (vl IV items) :: vecR 47 14 vc calls.length (vl CV calls) :: vecR 35 2 vd dn.length (vl IV dn) :: vecR 35 2 (.slice (some ⟨gL, 0, none⟩) nL cL) nL (vl IV L) :: rowR gx (IV x) :: R))
            case first =>
              -- FIRST{
              by_cases hk1 : k < p.length
              · have hk2 : (k : Int) < (p.length : Int) := by omega
                have hk0 : (0 : Int) ≤ (k : Int) := by omega
                obtain ⟨z, hz⟩ : ∃ z, p[k]? = some z := ⟨p[k]'(by omega), List.getElem?_eq_getElem _⟩
                have FS : ∀ W' R', Sts w F W' (rowR gy (IV y) :: vecR 35 2 (.slice (some ⟨gp, 0, none⟩) p.length cp) p.length (vl IV p) :: R') → (row? W' gy = some (IV y) ∧ loadVal Try.prog 35 2 W' (.pointer (some ⟨gp, k * 2, none⟩)) = .ok (.agg (IV z)) W') := fun W' R' T => by
                  obtain ⟨g2, e, h⟩ := vec_load (P := Try.prog) (e := 35) TItem_size (by omega) TItem_und rfl (by kernel_rfl) (T.ord [1, 0]) rfl hz (by have := HPL.out; omega)
                  injection e with e
                  injection e with e
                  subst e
                  exact ⟨T.row, h⟩
                have HFS := Lib.hid FS
                have S0 := FS _ _ HT2.out
                have hzm : z ∈ items := HCM.out z (List.mem_of_getElem? hz)
                have HBE := Lib.hid (docBeforeR g vi vc vd items calls dn HD.out.len HD.out.lc HD.out.get z y hzm HCY.out)
                obtain ⟨bb, hbb⟩ : ∃ v, v = befB m z y := ⟨_, rfl⟩
                rw [← hbb] at HBE
                have HBB := Lib.hid hbb; have HZ := Lib.hid hz; have HK1 := Lib.hid hk1
                clear FS hbb hz hzm
                refine wp_region_held_drew (S := fun W' => (row? W' gy = some (IV y) ∧ loadVal Try.prog 35 2 W' (.pointer (some ⟨gp, k * 2, none⟩)) = .ok (.agg (IV z)) W')) (by kernel_rfl) S0 (fun hHeld => ?_)
                clear S0
                refine tkH 0 rfl (v := ?_) ?_ ?_
                rotate_left
                · intro w h; (try dsimp only at h); go_simp; try with_reducible rfl
                simp only [Act.put, List.getElem_toArray, List.getElem_cons_zero, List.setIfInBounds_toArray, List.set_cons_zero, List.set_cons_succ]
                refine tkH 1 rfl (v := ?_) ?_ ?_
                rotate_left
                · intro w h; (try dsimp only at h); go_simp; try with_reducible rfl
                go_frame
                refine tkH 2 rfl (v := ?_) ?_ ?_
                rotate_left
                · intro w h; (try dsimp only at h); go_simp; try with_reducible rfl
                go_frame
                refine tkH 3 rfl (v := ?_) ?_ ?_
                rotate_left
                · intro w h; (try dsimp only at h); go_simp; try with_reducible rfl
                go_frame
                refine tkH 4 rfl (v := ?_) ?_ ?_
                rotate_left
                · intro w h; (try dsimp only at h); go_simp; try with_reducible rfl
                go_frame
                refine tkH 5 rfl (v := ?_) ?_ ?_
                rotate_left
                · intro w h; (try dsimp only at h); go_simp; try with_reducible rfl
                go_frame
                refine tkH 6 rfl (v := ?_) ?_ ?_
                rotate_left
                · intro w h; (try dsimp only at h); go_simp; try with_reducible rfl
                go_frame
                refine tkH 7 rfl (v := ?_) ?_ ?_
                rotate_left
                · intro w h; (try dsimp only at h); go_simp; try with_reducible rfl
                go_frame
                refine tkH 8 rfl (v := ?_) ?_ ?_
                rotate_left
                · intro w h; (try dsimp only at h); go_simp; try with_reducible rfl
                go_frame
                refine tkH 9 rfl (v := ?_) ?_ ?_
                rotate_left
                · intro w h; (try dsimp only at h); go_simp; try with_reducible rfl
                go_frame
                refine tkH 10 rfl (v := ?_) ?_ ?_
                rotate_left
                · intro w h; (try dsimp only at h); go_simp; try with_reducible rfl
                go_frame
                refine wpAnyH_ready (rs := [11]) (by kernel_rfl) (by simp) ?_
                refine AllReadyH.cons (o := _) rfl (fun K hK => ?_) AllReadyH.nil
                go_simp
                refine (HBE.out.at (R := rowR gy (IV y) :: _) (by have T0 := HT2.out.ord [2, 3, 4, 5, 0, 1]; exact T0)).mono ?_
                rintro e8 w8 ⟨rfl, hb⟩
                have T := HT2.out.pure hb
                refine hK.out _ _ (HFS.out _ _ T) (fun hHeld => ?_)
                clear hK K hb HT2 HBE HFS hk1 hk2 hk0
                have HT := Lib.hid T
                clear T
                refine tkH 12 rfl (v := ?_) ?_ ?_
                rotate_left
                · intro w h; (try dsimp only at h); go_simp; try with_reducible rfl
                simp only [Act.put, List.getElem_toArray, List.getElem_cons_succ, List.getElem_cons_zero, List.setIfInBounds_toArray, List.set_cons_zero, List.set_cons_succ]
                refine wpAnyH_done (by kernel_rfl) ?_ _
                simp only [Exit.then]
                go_step
                go_meet
                case rel => exact ⟨HT.out.nil, bb, rfl, fun hb => ⟨HK1.out, fun z' hz' => (by rw [HZ.out] at hz'; injection hz' with hz'; subst hz'; rw [← HBB.out]; exact hb)⟩, fun hb z' hz' => (by rw [HZ.out] at hz'; injection hz' with hz'; subst hz'; rw [← HBB.out]; exact hb), HT.out⟩
              · have hk2 : ¬ (k : Int) < (p.length : Int) := by omega
                have hk3 : p[k]? = none := List.getElem?_eq_none (by omega)
                have HK3 := Lib.hid hk3
                clear hk3
                refine wp_region_held_drew (S := fun W' => True) (by kernel_rfl) trivial (fun hHeld => ?_)
                refine tkH 0 rfl (v := ?_) ?_ ?_
                rotate_left
                · intro w h; (try dsimp only at h); go_simp; try with_reducible rfl
                simp only [Act.put, List.getElem_toArray, List.getElem_cons_zero, List.setIfInBounds_toArray, List.set_cons_zero, List.set_cons_succ]
                refine tkH 1 rfl (v := ?_) ?_ ?_
                rotate_left
                · intro w h; (try dsimp only at h); go_simp; try with_reducible rfl
                go_frame
                refine tkH 2 rfl (v := ?_) ?_ ?_
                rotate_left
                · intro w h; (try dsimp only at h); go_simp; try with_reducible rfl
                go_frame
                refine tkH 3 rfl (v := ?_) ?_ ?_
                rotate_left
                · intro w h; (try dsimp only at h); go_simp; try with_reducible rfl
                go_frame
                refine tkH 4 rfl (v := ?_) ?_ ?_
                rotate_left
                · intro w h; (try dsimp only at h); go_simp; try with_reducible rfl
                go_frame
                refine skH 5 rfl ?_
                simp only [Act.put, List.getElem_toArray, List.getElem_cons_succ, List.getElem_cons_zero, List.setIfInBounds_toArray, List.set_cons_zero, List.set_cons_succ]
                refine skH 6 rfl ?_
                go_frame
                refine skH 7 rfl ?_
                go_frame
                refine skH 8 rfl ?_
                go_frame
                refine skH 9 rfl ?_
                go_frame
                refine skH 10 rfl ?_
                go_frame
                refine skH 11 rfl ?_
                go_frame
                refine tkH 12 rfl (v := ?_) ?_ ?_
                rotate_left
                · intro w h; (try dsimp only at h); go_simp; try with_reducible rfl
                simp only [Act.put, List.getElem_toArray, List.getElem_cons_succ, List.getElem_cons_zero, List.setIfInBounds_toArray, List.set_cons_zero, List.set_cons_succ]
                refine wpAnyH_done (by kernel_rfl) ?_ _
                simp only [Exit.then]
                go_step
                go_meet
                case rel => exact ⟨HT2.out.nil, false, rfl, fun hb => (by cases hb), fun _ z hz => (by rw [HK3.out] at hz; cases hz), HT2.out⟩
              -- }FIRST
            case rest =>
              obtain ⟨-, bb, rfl, h1, h2, T⟩ := hcut
              clear HT2
              have H1 := Lib.hid h1; have H2 := Lib.hid h2; have HT := Lib.hid T
              clear h1 h2 T
              cases bb
              case true =>
                have hk1 := (H1.out rfl).1
                have hw : IntKind.i64.wrap ((k : Int) + 1) = ((k + 1 : Nat) : Int) := by rw [IntKind.wrap_i64] <;> (have := HPL.out; omega)
                go_wp2_with fail
                go_roundw
                case rel => exact ⟨k + 1, rfl, hk1, fun j z hj hz => by
                  rcases Nat.lt_succ_iff_lt_or_eq.1 hj with h | h
                  · exact HBF.out j z h hz
                  · subst h; exact (H1.out rfl).2 z hz, HT.out⟩
                case measure => simp [intOf]; omega
              case false =>
                have hins := insL_at HKP.out HBF.out (H2.out rfl)
                have HINS := Lib.hid hins
                clear hins HBF H1 H2
                go_upto_region 9 with fail
                have hcp : p.length ≤ cp := by
                  rcases (HT.out.ord [1, 0]).vec.2 with ⟨h, _⟩ | ⟨g2, cap, cur, h, _, _, h3, _⟩
                  · cases h
                  · injection h with _ _ h
                    subst h; exact h3
                have HCP := Lib.hid hcp; clear hcp
                have FS : ∀ W' R', Sts w F W' (rowR gy (IV y) :: R') → row? W' gy = some (IV y) := fun W' R' T => T.row
                have HFS := Lib.hid FS
                have HT2 := Lib.hid HT.out.drew
                have S0 := FS _ _ HT2.out
                clear FS HT
                refine wp_region_held_drew (S := fun W' => row? W' gy = some (IV y)) (by kernel_rfl) S0 (fun hHeld => ?_)
                clear S0
                have hk1 := HKP.out; have hk2 := HCP.out
                have hk3 : k ≤ cp := by omega
                have hk4 : (k : Int) ≤ (cp : Int) := by omega
                have hk5 : (k : Int) ≤ (p.length : Int) := by omega
                have hk6 : (0 : Int) ≤ (k : Int) := by omega
                have hk7 : (p.length : Int) ≤ (cp : Int) := by omega
                refine tkH 1 rfl (v := ?_) ?_ ?_
                rotate_left
                · intro w h; (try dsimp only at h); go_simp; try with_reducible rfl
                simp only [Act.put, List.getElem_toArray, List.getElem_cons_succ, List.getElem_cons_zero, List.setIfInBounds_toArray, List.set_cons_zero, List.set_cons_succ]
                refine tkH 2 rfl (v := ?_) ?_ ?_
                rotate_left
                · intro w h; (try dsimp only at h); go_simp; try with_reducible rfl
                go_frame
                refine tkH 3 rfl (v := ?_) ?_ ?_
                rotate_left
                · intro w h; (try dsimp only at h); go_simp; try with_reducible rfl
                go_frame
                refine tkH 5 rfl (v := ?_) ?_ ?_
                rotate_left
                · intro w h; (try dsimp only at h); go_simp; try with_reducible rfl
                go_frame
                refine tkH 8 rfl (v := ?_) ?_ ?_
                rotate_left
                · intro w h; (try dsimp only at h); go_simp; try with_reducible rfl
                go_frame
                refine tkH 9 rfl (v := ?_) ?_ ?_
                rotate_left
                · intro w h; (try dsimp only at h); go_simp; try with_reducible rfl
                go_frame
                refine tkH 10 rfl (v := ?_) ?_ ?_
                rotate_left
                · intro w h; (try dsimp only at h); go_simp; try with_reducible rfl
                go_frame
                have HT := HT2; clear HT2
                generalize wc.drew = w20 at *
                refine wpAnyH_ready (rs := [0, 6]) (by kernel_rfl) (by simp) ?_
                refine AllReadyH.cons (o := _) rfl (fun K hK => ?_) ?_
                · go_simp
                  have TE := HT.out.vecNew #[] 35 2 0 rfl (by unfold maxLen; omega)
                  refine hK.out _ _ (HFS.out _ _ (TE.ord [1, 0])) (fun hHeld => ?_)
                  clear hK K HT
                  have HT := Lib.hid TE; clear TE
                  generalize World.alloc w20 _ = w21 at *
                  generalize (w20).heap.size = gE at *
                  refine wpAnyH_ready (rs := [4, 6]) (by kernel_rfl) (by simp) ?_
                  refine AllReadyH.cons (o := _) rfl (fun K hK => ?_) ?_
                  · have TE := HT.out
                    have hro := (vec_in TItem_size rfl (TE.ord [2, 0, 1]) (by omega) (by have := HPL.out; omega)).take k
                    refine step_append_inE (by rfl) _ _ _ (by rfl) 35 i0 _ 2 16 Try.underlying30 hi hz0 hz1 hz2 rfl (by omega) _ 0 0 [] (by rfl) TE _ cp k (p.take k) (by rw [List.length_take]; have := HKP.out; omega) (by rfl) hro TItem_size itm_one (by unfold maxLen; have := HKP.out; have := HPL.out; omega) (by have := HKP.out; have := HPL.out; omega) ?_
                    intro g23 c23 w23 TF
                    rw [Nat.zero_add, List.nil_append] at TF
                    rw [Nat.zero_add]
                    refine hK.out _ _ (HFS.out _ _ (TF.ord [1, 0])) (fun hHeld => ?_)
                    clear hK K HT TE hro
                    have HT := Lib.hid TF; clear TF
                    simp only [Act.put, List.getElem_toArray, List.getElem_cons_zero, List.getElem_cons_succ, List.setIfInBounds_toArray, List.set_cons_zero, List.set_cons_succ]
                    refine wpAnyH_ready (rs := [6]) (by kernel_rfl) (by simp) ?_
                    refine AllReadyH.cons (o := _) rfl (fun K hK => ?_) AllReadyH.nil
                    go_simp
                    have TE := HT.out.vecNew (IV y) 35 2 1 rfl (by unfold maxLen; omega)
                    rw [← vl_one] at TE
                    refine hK.out _ _ (HFS.out _ _ (TE.ord [2, 0, 1])) (fun hHeld => ?_)
                    clear hK K HT
                    have HT := Lib.hid TE; clear TE
                    generalize World.alloc w23 _ = w22 at *
                    generalize (w23).heap.size = gY at *
                    refine wpAnyH_ready (rs := [7]) (by kernel_rfl) (by simp) ?_
                    refine AllReadyH.cons (o := _) rfl (fun K hK => ?_) AllReadyH.nil
                    have TE := HT.out.ord [1, 0]
                    have hro := vec_in (A := some ⟨gY, 0, none⟩) TItem_size rfl HT.out (by omega) (by simp)
                    refine step_append_inE (by rfl) _ _ _ (by rfl) 35 i0 _ 2 16 Try.underlying30 hi hz0 hz1 hz2 rfl (by omega) g23 c23 k (vl IV (p.take k)) (by rfl) TE _ 1 1 [y] rfl (by rfl) hro TItem_size itm_one (by unfold maxLen; have := HKP.out; have := HPL.out; omega) (by have := HKP.out; have := HPL.out; omega) ?_
                    intro g24 c24 w24 TF
                    refine hK.out _ _ (HFS.out _ _ (TF.ord [2, 0, 1])) (fun hHeld => ?_)
                    clear hK K HT TE hro
                    have HT := Lib.hid (TF.ord [1, 0]).drop; clear TF
                    simp only [Act.put, List.getElem_toArray, List.getElem_cons_zero, List.getElem_cons_succ, List.setIfInBounds_toArray, List.set_cons_zero, List.set_cons_succ]
                    refine wpAnyH_ready (rs := [11]) (by kernel_rfl) (by simp) ?_
                    refine AllReadyH.cons (o := _) rfl (fun K hK => ?_) AllReadyH.nil
                    have TE := HT.out
                    have hro := (vec_in (A := some ⟨gp, 0, none⟩) TItem_size rfl (TE.ord [2, 0, 1]) (by omega) (by have := HPL.out; omega)).cutIf (k := k) HCP.out
                    refine step_append_inE (by rfl) _ _ _ (by rfl) 35 i0 _ 2 16 Try.underlying30 hi hz0 hz1 hz2 rfl (by omega) g24 c24 (k + 1) (vl IV (p.take k) ++ vl IV [y]) (by rfl) TE _ (cp - k) (p.length - k) (p.drop k) (by rw [List.length_drop]) (by rfl) hro TItem_size itm_one (by unfold maxLen; have := HKP.out; have := HPL.out; omega) (by have := HKP.out; have := HPL.out; omega) ?_
                    intro g25 c25 w25 TF
                    refine hK.out _ _ (HFS.out _ _ (TF.ord [1, 0])) (fun hHeld => ?_)
                    clear hK K HT TE hro
                    have HT := Lib.hid TF; clear TF
                    simp only [Act.put, List.getElem_toArray, List.getElem_cons_zero, List.getElem_cons_succ, List.setIfInBounds_toArray, List.set_cons_zero, List.set_cons_succ]
                    refine tkH 12 rfl (v := ?_) ?_ ?_
                    rotate_left
                    · intro w h; (try dsimp only at h); go_simp; try with_reducible rfl
                    simp only [Act.put, List.getElem_toArray, List.getElem_cons_succ, List.getElem_cons_zero, List.setIfInBounds_toArray, List.set_cons_zero, List.set_cons_succ]
                    refine wpAnyH_done (by kernel_rfl) ?_ _
                    try simp only [Exit.then]
                    have hl2 : k + 1 + (p.length - k) = (insL m p y).length := by rw [insL_len]; have := HKP.out; omega
                    have hv2 : vl IV (p.take k) ++ vl IV [y] ++ vl IV (p.drop k) = vl IV (insL m p y) := by
                      rw [HINS.out, List.append_assoc]
                      have e : p.take k ++ y :: p.drop k = p.take k ++ ([y] ++ p.drop k) := rfl
                      rw [e]
                      unfold vl
                      rw [flatV_append, flatV_append, Array.toList_append, Array.toList_append]
                    have TE := (HT.out.ord [1, 2, 0, 7, 8, 3, 4, 5, 6]).drop.drop
                    rw [hl2, hv2] at TE
                    rw [hl2]
                    have HT2 := Lib.hid TE
                    clear hl2 hv2 TE HT HFS
                    go_wp2_with fail
                    go_roundw
                    case rel => exact ⟨i + 1, insL m p y, _, _, by go_num, rfl, by omega, HN2.out.symm, HT2.out⟩
                    case measure => simp [intOf]; omega
                  · refine AllReadyH.cons (o := _) rfl (fun K hK => ?_) AllReadyH.nil
                    go_simp
                    have TE := HT.out.vecNew (IV y) 35 2 1 rfl (by unfold maxLen; omega)
                    rw [← vl_one] at TE
                    refine hK.out _ _ (HFS.out _ _ (TE.ord [2, 0, 1])) (fun hHeld => ?_)
                    clear hK K HT
                    have HT := Lib.hid TE; clear TE
                    generalize World.alloc w21 _ = w22 at *
                    generalize (w21).heap.size = gY at *
                    have HT0 := HT; clear HT
                    have HT := Lib.hid (HT0.out.ord [1, 0]); clear HT0
                    refine wpAnyH_ready (rs := [4]) (by kernel_rfl) (by simp) ?_
                    refine AllReadyH.cons (o := _) rfl (fun K hK => ?_) AllReadyH.nil
                    have TE := HT.out
                    have hro := (vec_in TItem_size rfl (TE.ord [3, 0, 1, 2]) (by omega) (by have := HPL.out; omega)).take k
                    refine step_append_inE (by rfl) _ _ _ (by rfl) 35 i0 _ 2 16 Try.underlying30 hi hz0 hz1 hz2 rfl (by omega) _ 0 0 [] (by rfl) TE _ cp k (p.take k) (by rw [List.length_take]; have := HKP.out; omega) (by rfl) hro TItem_size itm_one (by unfold maxLen; have := HKP.out; have := HPL.out; omega) (by have := HKP.out; have := HPL.out; omega) ?_
                    intro g23 c23 w23 TF
                    rw [Nat.zero_add, List.nil_append] at TF
                    rw [Nat.zero_add]
                    refine hK.out _ _ (HFS.out _ _ (TF.ord [2, 0, 1])) (fun hHeld => ?_)
                    clear hK K HT TE hro
                    have HT := Lib.hid TF; clear TF
                    simp only [Act.put, List.getElem_toArray, List.getElem_cons_zero, List.getElem_cons_succ, List.setIfInBounds_toArray, List.set_cons_zero, List.set_cons_succ]
                    have HT0 := HT; clear HT
                    have HT := Lib.hid (HT0.out.ord [1, 0]); clear HT0
                    refine wpAnyH_ready (rs := [7]) (by kernel_rfl) (by simp) ?_
                    refine AllReadyH.cons (o := _) rfl (fun K hK => ?_) AllReadyH.nil
                    have TE := HT.out.ord [1, 0]
                    have hro := vec_in (A := some ⟨gY, 0, none⟩) TItem_size rfl HT.out (by omega) (by simp)
                    refine step_append_inE (by rfl) _ _ _ (by rfl) 35 i0 _ 2 16 Try.underlying30 hi hz0 hz1 hz2 rfl (by omega) g23 c23 k (vl IV (p.take k)) (by rfl) TE _ 1 1 [y] rfl (by rfl) hro TItem_size itm_one (by unfold maxLen; have := HKP.out; have := HPL.out; omega) (by have := HKP.out; have := HPL.out; omega) ?_
                    intro g24 c24 w24 TF
                    refine hK.out _ _ (HFS.out _ _ (TF.ord [2, 0, 1])) (fun hHeld => ?_)
                    clear hK K HT TE hro
                    have HT := Lib.hid (TF.ord [1, 0]).drop; clear TF
                    simp only [Act.put, List.getElem_toArray, List.getElem_cons_zero, List.getElem_cons_succ, List.setIfInBounds_toArray, List.set_cons_zero, List.set_cons_succ]
                    refine wpAnyH_ready (rs := [11]) (by kernel_rfl) (by simp) ?_
                    refine AllReadyH.cons (o := _) rfl (fun K hK => ?_) AllReadyH.nil
                    have TE := HT.out
                    have hro := (vec_in (A := some ⟨gp, 0, none⟩) TItem_size rfl (TE.ord [2, 0, 1]) (by omega) (by have := HPL.out; omega)).cutIf (k := k) HCP.out
                    refine step_append_inE (by rfl) _ _ _ (by rfl) 35 i0 _ 2 16 Try.underlying30 hi hz0 hz1 hz2 rfl (by omega) g24 c24 (k + 1) (vl IV (p.take k) ++ vl IV [y]) (by rfl) TE _ (cp - k) (p.length - k) (p.drop k) (by rw [List.length_drop]) (by rfl) hro TItem_size itm_one (by unfold maxLen; have := HKP.out; have := HPL.out; omega) (by have := HKP.out; have := HPL.out; omega) ?_
                    intro g25 c25 w25 TF
                    refine hK.out _ _ (HFS.out _ _ (TF.ord [1, 0])) (fun hHeld => ?_)
                    clear hK K HT TE hro
                    have HT := Lib.hid TF; clear TF
                    simp only [Act.put, List.getElem_toArray, List.getElem_cons_zero, List.getElem_cons_succ, List.setIfInBounds_toArray, List.set_cons_zero, List.set_cons_succ]
                    refine tkH 12 rfl (v := ?_) ?_ ?_
                    rotate_left
                    · intro w h; (try dsimp only at h); go_simp; try with_reducible rfl
                    simp only [Act.put, List.getElem_toArray, List.getElem_cons_succ, List.getElem_cons_zero, List.setIfInBounds_toArray, List.set_cons_zero, List.set_cons_succ]
                    refine wpAnyH_done (by kernel_rfl) ?_ _
                    try simp only [Exit.then]
                    have hl2 : k + 1 + (p.length - k) = (insL m p y).length := by rw [insL_len]; have := HKP.out; omega
                    have hv2 : vl IV (p.take k) ++ vl IV [y] ++ vl IV (p.drop k) = vl IV (insL m p y) := by
                      rw [HINS.out, List.append_assoc]
                      have e : p.take k ++ y :: p.drop k = p.take k ++ ([y] ++ p.drop k) := rfl
                      rw [e]
                      unfold vl
                      rw [flatV_append, flatV_append, Array.toList_append, Array.toList_append]
                    have TE := (HT.out.ord [1, 2, 0, 7, 8, 3, 4, 5, 6]).drop.drop
                    rw [hl2, hv2] at TE
                    rw [hl2]
                    have HT2 := Lib.hid TE
                    clear hl2 hv2 TE HT HFS
                    go_wp2_with fail
                    go_roundw
                    case rel => exact ⟨i + 1, insL m p y, _, _, by go_num, rfl, by omega, HN2.out.symm, HT2.out⟩
                    case measure => simp [intOf]; omega
                · refine AllReadyH.cons (o := _) rfl (fun K hK => ?_) AllReadyH.nil
                  go_simp
                  have TE := HT.out.vecNew (IV y) 35 2 1 rfl (by unfold maxLen; omega)
                  rw [← vl_one] at TE
                  refine hK.out _ _ (HFS.out _ _ (TE.ord [1, 0])) (fun hHeld => ?_)
                  clear hK K HT
                  have HT := Lib.hid TE; clear TE
                  generalize World.alloc w20 _ = w22 at *
                  generalize (w20).heap.size = gY at *
                  refine wpAnyH_ready (rs := [0]) (by kernel_rfl) (by simp) ?_
                  refine AllReadyH.cons (o := _) rfl (fun K hK => ?_) AllReadyH.nil
                  go_simp
                  have TE := HT.out.vecNew #[] 35 2 0 rfl (by unfold maxLen; omega)
                  refine hK.out _ _ (HFS.out _ _ (TE.ord [2, 0, 1])) (fun hHeld => ?_)
                  clear hK K HT
                  have HT := Lib.hid TE; clear TE
                  generalize World.alloc w22 _ = w21 at *
                  generalize (w22).heap.size = gE at *
                  refine wpAnyH_ready (rs := [4]) (by kernel_rfl) (by simp) ?_
                  refine AllReadyH.cons (o := _) rfl (fun K hK => ?_) AllReadyH.nil
                  have TE := HT.out
                  have hro := (vec_in TItem_size rfl (TE.ord [3, 0, 1, 2]) (by omega) (by have := HPL.out; omega)).take k
                  refine step_append_inE (by rfl) _ _ _ (by rfl) 35 i0 _ 2 16 Try.underlying30 hi hz0 hz1 hz2 rfl (by omega) _ 0 0 [] (by rfl) TE _ cp k (p.take k) (by rw [List.length_take]; have := HKP.out; omega) (by rfl) hro TItem_size itm_one (by unfold maxLen; have := HKP.out; have := HPL.out; omega) (by have := HKP.out; have := HPL.out; omega) ?_
                  intro g23 c23 w23 TF
                  rw [Nat.zero_add, List.nil_append] at TF
                  rw [Nat.zero_add]
                  refine hK.out _ _ (HFS.out _ _ (TF.ord [2, 0, 1])) (fun hHeld => ?_)
                  clear hK K HT TE hro
                  have HT := Lib.hid TF; clear TF
                  simp only [Act.put, List.getElem_toArray, List.getElem_cons_zero, List.getElem_cons_succ, List.setIfInBounds_toArray, List.set_cons_zero, List.set_cons_succ]
                  have HT0 := HT; clear HT
                  have HT := Lib.hid (HT0.out.ord [1, 0]); clear HT0
                  refine wpAnyH_ready (rs := [7]) (by kernel_rfl) (by simp) ?_
                  refine AllReadyH.cons (o := _) rfl (fun K hK => ?_) AllReadyH.nil
                  have TE := HT.out.ord [1, 0]
                  have hro := vec_in (A := some ⟨gY, 0, none⟩) TItem_size rfl HT.out (by omega) (by simp)
                  refine step_append_inE (by rfl) _ _ _ (by rfl) 35 i0 _ 2 16 Try.underlying30 hi hz0 hz1 hz2 rfl (by omega) g23 c23 k (vl IV (p.take k)) (by rfl) TE _ 1 1 [y] rfl (by rfl) hro TItem_size itm_one (by unfold maxLen; have := HKP.out; have := HPL.out; omega) (by have := HKP.out; have := HPL.out; omega) ?_
                  intro g24 c24 w24 TF
                  refine hK.out _ _ (HFS.out _ _ (TF.ord [2, 0, 1])) (fun hHeld => ?_)
                  clear hK K HT TE hro
                  have HT := Lib.hid (TF.ord [1, 0]).drop; clear TF
                  simp only [Act.put, List.getElem_toArray, List.getElem_cons_zero, List.getElem_cons_succ, List.setIfInBounds_toArray, List.set_cons_zero, List.set_cons_succ]
                  refine wpAnyH_ready (rs := [11]) (by kernel_rfl) (by simp) ?_
                  refine AllReadyH.cons (o := _) rfl (fun K hK => ?_) AllReadyH.nil
                  have TE := HT.out
                  have hro := (vec_in (A := some ⟨gp, 0, none⟩) TItem_size rfl (TE.ord [2, 0, 1]) (by omega) (by have := HPL.out; omega)).cutIf (k := k) HCP.out
                  refine step_append_inE (by rfl) _ _ _ (by rfl) 35 i0 _ 2 16 Try.underlying30 hi hz0 hz1 hz2 rfl (by omega) g24 c24 (k + 1) (vl IV (p.take k) ++ vl IV [y]) (by rfl) TE _ (cp - k) (p.length - k) (p.drop k) (by rw [List.length_drop]) (by rfl) hro TItem_size itm_one (by unfold maxLen; have := HKP.out; have := HPL.out; omega) (by have := HKP.out; have := HPL.out; omega) ?_
                  intro g25 c25 w25 TF
                  refine hK.out _ _ (HFS.out _ _ (TF.ord [1, 0])) (fun hHeld => ?_)
                  clear hK K HT TE hro
                  have HT := Lib.hid TF; clear TF
                  simp only [Act.put, List.getElem_toArray, List.getElem_cons_zero, List.getElem_cons_succ, List.setIfInBounds_toArray, List.set_cons_zero, List.set_cons_succ]
                  refine tkH 12 rfl (v := ?_) ?_ ?_
                  rotate_left
                  · intro w h; (try dsimp only at h); go_simp; try with_reducible rfl
                  simp only [Act.put, List.getElem_toArray, List.getElem_cons_succ, List.getElem_cons_zero, List.setIfInBounds_toArray, List.set_cons_zero, List.set_cons_succ]
                  refine wpAnyH_done (by kernel_rfl) ?_ _
                  try simp only [Exit.then]
                  have hl2 : k + 1 + (p.length - k) = (insL m p y).length := by rw [insL_len]; have := HKP.out; omega
                  have hv2 : vl IV (p.take k) ++ vl IV [y] ++ vl IV (p.drop k) = vl IV (insL m p y) := by
                    rw [HINS.out, List.append_assoc]
                    have e : p.take k ++ y :: p.drop k = p.take k ++ ([y] ++ p.drop k) := rfl
                    rw [e]
                    unfold vl
                    rw [flatV_append, flatV_append, Array.toList_append, Array.toList_append]
                  have TE := (HT.out.ord [1, 2, 0, 7, 8, 3, 4, 5, 6]).drop.drop
                  rw [hl2, hv2] at TE
                  rw [hl2]
                  have HT2 := Lib.hid TE
                  clear hl2 hv2 TE HT HFS
                  go_wp2_with fail
                  go_roundw
                  case rel => exact ⟨i + 1, insL m p y, _, _, by go_num, rfl, by omega, HN2.out.symm, HT2.out⟩
                  case measure => simp [intOf]; omega
    · have hi2 : ¬ (i : Int) < (nL : Int) := by omega
      have hp2 := HP.out
      rw [List.take_of_length_le (by rw [← HNL.out]; omega), ← HPF.out] at hp2
      have HP2 := Lib.hid hp2; have HT := Lib.hid T
      clear T hp2
      go_wp2_with fail
      go_ret
      have T9 := ((HT.out.ord [1, 2, 0]).drop.drop)
      rw [← HP2.out]
      exact ⟨_, rfl, T9⟩
end
end Go.Proofs.Ytnjgjhjilolanaa
