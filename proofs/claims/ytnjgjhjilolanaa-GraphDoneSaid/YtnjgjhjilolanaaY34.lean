/- Several texts in one. -/
import Derived.Test.YtnjgjhjilolanaaY33
import Derived.Test.YtnjgjhjilolanaaY21
import Derived.Test.YtnjgjhjilolanaaY24
import Derived.Test.YtnjgjhjilolanaaY25
/- Items in a slice of the call's own, sorted in their place by a graph's order: up to 49 of them. -/
namespace Go.Proofs.Ytnjgjhjilolanaa
open Go.RowKit Go.Shelf
open Go.Sort (insertionSort pdq bitsLen)
set_option linter.unusedVariables false
set_option maxRecDepth 20000
attribute [local go_sem] row_alloc row_drew row_drewN row_ext row_setCell row_setRow size_ext setRow_alloc setRow_drew loadOf storeOf piece_lit loadVal_at storeVal_at allOne_lit buildOf buildRes_some
attribute [local go_sem high] cell_alloc frozen_alloc setCell_alloc cell_ext frozen_ext cell_setRow frozen_setRow
attribute [local go_sem ↓] TDeed_ld0 TDeed_st0 TDeed_fd0 TDeed_bd0
attribute [local go_sem] TDeed_size TDeed_one TDeed_piece TDeed_c0 TDeed_c1 TDeed_c2 TDeed_c3 TDeed_c4 TDeed_c5 TDeed_set_kind TDeed_set_key TDeed_set_val TDeed_set_ver TDeed_set_ses TDeed_set_num TDeed_ld TDeed_st TDeed_f_kind TDeed_f_key TDeed_f_val TDeed_f_ver TDeed_f_ses TDeed_f_num TDeed_bd TDeed_fl TDeed_fl_kind TDeed_fl_key TDeed_fl_val TDeed_fl_ver TDeed_fl_ses TDeed_fl_num
attribute [local go_sem high] TDeed_eql TDeed_neq
attribute [local go_sem ↓] index_deps0 load_deps0 store_deps0
attribute [local go_sem] DV_piece DV_size DV_one index_deps load_deps store_deps
attribute [local go_sem high] TDeps_eql TDeps_neq
attribute [local go_sem ↓] TCall_ld0 TCall_st0 TCall_fd0 TCall_bd0
attribute [local go_sem] TCall_size TCall_one TCall_piece TCall_c0 TCall_c1 TCall_c2 TCall_c3 TCall_c4 TCall_c5 TCall_c6 TCall_c7 TCall_c8 TCall_c9 TCall_c10 TCall_c11 TCall_c12 TCall_c13 TCall_p_deed TCall_put_deed TCall_p_deps TCall_put_deps TCall_set_seq TCall_ld TCall_st TCall_f_deed TCall_f_deps TCall_f_seq TCall_bd TCall_fl TCall_fl_deed TCall_fl_deps TCall_fl_seq
attribute [local go_sem high] TCall_eql TCall_neq
attribute [local go_sem ↓] TItem_ld0 TItem_st0 TItem_fd0 TItem_bd0
attribute [local go_sem] TItem_size TItem_one TItem_piece TItem_c0 TItem_c1 TItem_set_rep TItem_set_num TItem_ld TItem_st TItem_f_rep TItem_f_num TItem_bd TItem_fl TItem_fl_rep TItem_fl_num
attribute [local go_sem high] TItem_eql TItem_neq
theorem pdqAll {n : Nat} (hn : n < 50) : ∀ K, PdqAt n K
  | 0 => by
    intro w W F R b gc gd g c m q d a z lim hd haz hz hK hlim hm T
    have h := pdqSmallT hd a z lim haz hz (by omega) (by omega) hm T
    rw [pdq, if_pos (by omega)]
    exact h
  | K + 1 => pdqStep hn (pdqAll hn K)
theorem sorts49 : SortsTo 49 := by
  intro w W F R b gc gd g c m q d n hd h49 hm T
  have HT := Lib.hid T; clear T
  have HD := Lib.hid hd; clear hd
  have hk : n < 64 := by omega
  have hbl := bitsLen_le ⟨n, hk⟩
  dsimp only at hbl
  have HPQ := Lib.hid (pdqAll (n := n) (by omega) n w W F R b gc gd g c m q d 0 n (bitsLen n) HD.out (Nat.zero_le _) (Nat.le_refl _) (by omega) (by omega) hm HT.out)
  have HBL := Lib.hid hbl; clear hbl
  go_enter Try.func53, Try.ntmps53
  go_wp2_with fail
  refine (bitsLenT n hk _).mono ?_
  rintro e w5 ⟨rfl, rfl⟩
  go_wp2_with fail
  refine HPQ.out.mono ?_
  rintro e w5 ⟨rfl, T⟩
  have HT2 := Lib.hid T; clear T HT HPQ
  go_wp2
  go_end0
  exact ⟨rfl, HT2.out⟩
end Go.Proofs.Ytnjgjhjilolanaa
/- GraphOnce: what is committed stays, with its first call; what can't be isn't, and nothing is done by it. -/
namespace Go.Proofs.Ytnjgjhjilolanaa
open Go.RowKit Go.Shelf
set_option linter.unusedVariables false
set_option maxRecDepth 20000
attribute [local go_sem] Oper.semAt_some
attribute [local go_sem] row_alloc row_drew row_drewN row_ext row_setCell row_setRow size_ext setRow_alloc setRow_drew loadOf storeOf piece_lit loadVal_at storeVal_at allOne_lit buildOf buildRes_some
attribute [local go_sem high] cell_alloc frozen_alloc setCell_alloc cell_ext frozen_ext cell_setRow frozen_setRow
attribute [local go_sem ↓] TDeed_ld0 TDeed_st0 TDeed_fd0 TDeed_bd0
attribute [local go_sem] TDeed_size TDeed_one TDeed_piece TDeed_c0 TDeed_c1 TDeed_c2 TDeed_c3 TDeed_c4 TDeed_c5 TDeed_set_kind TDeed_set_key TDeed_set_val TDeed_set_ver TDeed_set_ses TDeed_set_num TDeed_ld TDeed_st TDeed_f_kind TDeed_f_key TDeed_f_val TDeed_f_ver TDeed_f_ses TDeed_f_num TDeed_bd TDeed_fl TDeed_fl_kind TDeed_fl_key TDeed_fl_val TDeed_fl_ver TDeed_fl_ses TDeed_fl_num
attribute [local go_sem high] TDeed_eql TDeed_neq
attribute [local go_sem ↓] index_deps0 load_deps0 store_deps0
attribute [local go_sem] DV_piece DV_size DV_one index_deps load_deps store_deps
attribute [local go_sem high] TDeps_eql TDeps_neq
attribute [local go_sem ↓] TCall_ld0 TCall_st0 TCall_fd0 TCall_bd0
attribute [local go_sem] TCall_size TCall_one TCall_piece TCall_c0 TCall_c1 TCall_c2 TCall_c3 TCall_c4 TCall_c5 TCall_c6 TCall_c7 TCall_c8 TCall_c9 TCall_c10 TCall_c11 TCall_c12 TCall_c13 TCall_p_deed TCall_put_deed TCall_p_deps TCall_put_deps TCall_set_seq TCall_ld TCall_st TCall_f_deed TCall_f_deps TCall_f_seq TCall_bd TCall_fl TCall_fl_deed TCall_fl_deps TCall_fl_seq
attribute [local go_sem high] TCall_eql TCall_neq
attribute [local go_sem ↓] TItem_ld0 TItem_st0 TItem_fd0 TItem_bd0
attribute [local go_sem] TItem_size TItem_one TItem_piece TItem_c0 TItem_c1 TItem_set_rep TItem_set_num TItem_ld TItem_st TItem_f_rep TItem_f_num TItem_bd TItem_fl TItem_fl_rep TItem_fl_num
attribute [local go_sem high] TItem_eql TItem_neq
theorem vec_load {α : Type} {V : α → Array Value} {size : Nat} {P : Program} {e : TypeId} {td : TypeDesc} {w W : World} {F : Nat → Prop} {R : List Res} {A : Option Addr} {k c : Nat} {l : List α} {i : Nat} {y : α} (hV : ∀ x, (V x).size = size) (h0 : 0 < size) (hu : P.underlying e = some td) (hd : td.isRow = true) (hi : (P.info? e).map (·.size) = some size) (T : Sts w F W (vecR e size (.slice A k c) k (vl V l) :: R)) (hk : k = l.length) (hy : l[i]? = some y) (hl : k ≤ 1000000) :
    ∃ g, A = some ⟨g, 0, none⟩ ∧ loadVal P e size W (.pointer (some ⟨g, i * size, none⟩)) = .ok (.agg (V y)) W := by
  subst hk
  obtain ⟨A', c', hv, hA, -, hA0⟩ := vec_rows hV T h0 (by omega)
  injection hv with e1 e2 e3
  subst e1
  obtain ⟨hil, rfl⟩ := List.getElem?_eq_some_iff.1 hy
  cases hh : A with
  | none => have := hA.nil hh; subst this; simp at hil
  | some a =>
    obtain ⟨g, rfl⟩ := hA0 a hh
    have hld := hA.load (P := P) (T := e) hV hu hd hi (Below.refl _ _) hh hil
    rw [add_none, Nat.zero_add] at hld
    exact ⟨g, rfl, hld⟩
end Go.Proofs.Ytnjgjhjilolanaa
/- GraphDone: what is to be done, once done, isn't any more, and nothing of it for any other item. -/
namespace Go.Proofs.Ytnjgjhjilolanaa
open Go.RowKit Go.Shelf
set_option linter.unusedVariables false
set_option maxRecDepth 20000
attribute [local go_sem] Oper.semAt_some
attribute [local go_sem] row_alloc row_drew row_drewN row_ext row_setCell row_setRow size_ext setRow_alloc setRow_drew loadOf storeOf piece_lit loadVal_at storeVal_at allOne_lit buildOf buildRes_some
attribute [local go_sem high] cell_alloc frozen_alloc setCell_alloc cell_ext frozen_ext cell_setRow frozen_setRow
attribute [local go_sem ↓] TDeed_ld0 TDeed_st0 TDeed_fd0 TDeed_bd0
attribute [local go_sem] TDeed_size TDeed_one TDeed_piece TDeed_c0 TDeed_c1 TDeed_c2 TDeed_c3 TDeed_c4 TDeed_c5 TDeed_set_kind TDeed_set_key TDeed_set_val TDeed_set_ver TDeed_set_ses TDeed_set_num TDeed_ld TDeed_st TDeed_f_kind TDeed_f_key TDeed_f_val TDeed_f_ver TDeed_f_ses TDeed_f_num TDeed_bd TDeed_fl TDeed_fl_kind TDeed_fl_key TDeed_fl_val TDeed_fl_ver TDeed_fl_ses TDeed_fl_num
attribute [local go_sem high] TDeed_eql TDeed_neq
attribute [local go_sem ↓] index_deps0 load_deps0 store_deps0
attribute [local go_sem] DV_piece DV_size DV_one index_deps load_deps store_deps
attribute [local go_sem high] TDeps_eql TDeps_neq
attribute [local go_sem ↓] TCall_ld0 TCall_st0 TCall_fd0 TCall_bd0
attribute [local go_sem] TCall_size TCall_one TCall_piece TCall_c0 TCall_c1 TCall_c2 TCall_c3 TCall_c4 TCall_c5 TCall_c6 TCall_c7 TCall_c8 TCall_c9 TCall_c10 TCall_c11 TCall_c12 TCall_c13 TCall_p_deed TCall_put_deed TCall_p_deps TCall_put_deps TCall_set_seq TCall_ld TCall_st TCall_f_deed TCall_f_deps TCall_f_seq TCall_bd TCall_fl TCall_fl_deed TCall_fl_deps TCall_fl_seq
attribute [local go_sem high] TCall_eql TCall_neq
attribute [local go_sem ↓] TItem_ld0 TItem_st0 TItem_fd0 TItem_bd0
attribute [local go_sem] TItem_size TItem_one TItem_piece TItem_c0 TItem_c1 TItem_set_rep TItem_set_num TItem_ld TItem_st TItem_f_rep TItem_f_num TItem_bd TItem_fl TItem_fl_rep TItem_fl_num
attribute [local go_sem high] TItem_eql TItem_neq
attribute [local go_sem] mkMapW
theorem doneM_append (q : RowsML) (a c : List Item) : doneM q (a ++ c) = doneM (doneM q a) c := by unfold doneM; rw [List.foldl_append]
theorem doneM_over : ∀ (l : List Item) (q : RowsML), (∀ y ∈ l, goodI y q.n = true) → ∀ y, (getML (doneM q l) y).isSome = true ↔ (getML q y).isSome = true ∨ y ∈ l
  | [], q, h, y => by simp [doneM]
  | x :: l, q, h, y => by
    have hx : goodI x q.n = true := h x (by simp)
    have h1 := doneM_over l (setML q x true) (fun z hz => by rw [setML_n]; exact h z (by simp [hz])) y
    rw [show doneM q (x :: l) = doneM (setML q x true) l from rfl, h1]
    by_cases e : x = y
    · subst e; rw [getML_set_same _ hx]; simp
    · rw [getML_set_other _ hx e]
      have e2 : ¬ y = x := fun e' => e e'.symm
      simp [e2]
section
variable {w W : World} {F : Nat → Prop} {R : List Res}
theorem map_split {α β : Type} (f : α → β) {l : List α} {k : Nat} {a : α} (hk : l[k]? = some a) : (l.map f).Perm (f a :: (l.take k ++ l.drop (k + 1)).map f) := by
  obtain ⟨hkl, rfl⟩ := List.getElem?_eq_some_iff.1 hk
  have h : l = l.take k ++ l[k] :: l.drop (k + 1) := by
    rw [← List.drop_eq_getElem_cons hkl, List.take_append_drop]
  conv => lhs; rw [h]
  rw [List.map_append, List.map_cons, List.map_append]
  exact List.perm_middle
theorem Sts.pick {α : Type} {f : α → Res} {l : List α} {k : Nat} {a : α} (hk : l[k]? = some a) (T : Sts w F W (packR (l.map f) :: R)) : Sts w F W (f a :: packR ((l.take k ++ l.drop (k + 1)).map f) :: R) := by
  have T1 := T.unpack
  have T2 : Sts w F W (f a :: ((l.take k ++ l.drop (k + 1)).map f ++ R)) := T1.perm ((map_split f hk).append_right R)
  exact T2.pack1
theorem Sts.unpick {α : Type} {f : α → Res} {l : List α} {k : Nat} {a : α} (hk : l[k]? = some a) (T : Sts w F W (f a :: packR ((l.take k ++ l.drop (k + 1)).map f) :: R)) : Sts w F W (packR (l.map f) :: R) := by
  have T1 := T.unpack1
  have T2 : Sts w F W (l.map f ++ R) := T1.perm ((map_split f hk).symm.append_right R)
  exact Sts.pack T2
/-- A part's slice. -/
def ptR (p : Value × List Item) : Res := vecR 35 2 p.1 p.2.length (vl IV p.2)
theorem Sts.paOpen2 {v : Value} {pa : List (List Item)} (T : Sts w F W (paR v pa :: R)) : ∃ (pv : List (Value × List Item)) (A : Option Addr) (c : Nat), pv.map (·.2) = pa ∧ v = .slice A pv.length c ∧ Sts w F W (vecR 30 1 (.slice A pv.length c) pv.length (vl PV pv) :: packR (pv.map ptR) :: R) := by
  obtain ⟨pv, h, T1⟩ := T.paOpen
  obtain ⟨A, c, rfl⟩ := vec_shape2 T1
  exact ⟨pv, A, c, h, rfl, T1.pack1⟩
/-- What a part's slice is, where it stands. -/
theorem part_at {A : Option Addr} {c : Nat} {pv : List (Value × List Item)} (T : Sts w F W (vecR 30 1 (.slice A pv.length c) pv.length (vl PV pv) :: packR (pv.map ptR) :: R)) {k : Nat} {p : Value × List Item} (hk : pv[k]? = some p) :
    ∃ gp B d, A = some ⟨gp, 0, none⟩ ∧ W.cell? ⟨gp, k, none⟩ = some (.slice B p.2.length d) ∧ p.1 = .slice B p.2.length d := by
  obtain ⟨hkl, rfl⟩ := List.getElem?_eq_some_iff.1 hk
  obtain ⟨gp, c', hv, -, hcell⟩ := vec_cell PV_size T (by omega) hkl
  injection hv with e1 e2 e3
  have T2 : Sts w F W (ptR pv[k] :: _) := (T.swap).pick hk
  obtain ⟨B, d, hb⟩ := vec_shape2 (show Sts w F W (vecR 35 2 pv[k].1 pv[k].2.length (vl IV pv[k].2) :: _) from T2)
  refine ⟨gp, B, d, e1, ?_, hb⟩
  have := hcell 0 pv[k].1 rfl
  rw [Nat.mul_one, Nat.add_zero] at this
  rw [this, hb]
theorem part_item {A : Option Addr} {c : Nat} {pv : List (Value × List Item)} (T : Sts w F W (vecR 30 1 (.slice A pv.length c) pv.length (vl PV pv) :: packR (pv.map ptR) :: R)) {k : Nat} {p : Value × List Item} (hk : pv[k]? = some p) {B : Option Addr} {d : Nat} (hp : p.1 = .slice B p.2.length d) (hl : p.2.length ≤ 1000000) {i : Nat} {y : Item} (hy : p.2[i]? = some y) :
    ∃ gi, B = some ⟨gi, 0, none⟩ ∧ loadVal Try.prog 35 2 W (.pointer (some ⟨gi, i * 2, none⟩)) = .ok (.agg (IV y)) W := by
  have T2 : Sts w F W (ptR p :: _) := (T.swap).pick hk
  have hq : ptR p = vecR 35 2 (.slice B p.2.length d) p.2.length (vl IV p.2) := by unfold ptR; rw [hp]
  rw [hq] at T2
  exact vec_load (P := Try.prog) (e := 35) TItem_size (by omega) TItem_und rfl (by kernel_rfl) T2 rfl hy hl
set_option maxHeartbeats 32000000 in
theorem law_done (n : Int) (A : Option Addr) (c : Nat) (l : List GStep) (W : World) (hl : RowsIn W A 17 GSV l) :
    Calls Try.prog 3 #[.int .i64 n, .slice A l.length c] W fun e W' => e = .returned (.bool true) ∧ Below W.heap.size W W' := by
  have hlen := hl.len
  have HL := Lib.hid hl; clear hl
  have T := Sts.start0 W
  have HAL := Lib.hid (alive18 T)
  clear T
  go_enter Try.func3, Try.ntmps3
  go_wp2_with fail
  refine HAL.out.mono ?_
  clear HAL
  rintro e1 w1 ⟨rfl, T⟩
  have HT := Lib.hid T; clear T
  obtain ⟨gb, hgb⟩ : ∃ v, v = greatG n l.length := ⟨_, rfl⟩
  have HG := Lib.hid (fun w => great18 n A l.length c (by omega) w)
  rw [← hgb] at HG
  have HGB := Lib.hid hgb; clear hgb
  go_wp2_with fail
  refine (HG.out _).mono ?_
  clear HG
  rintro e2 w2 ⟨rfl, rfl⟩
  cases gb
  case true =>
    go_wp2
    go_ret
    exact ⟨rfl, HT.out.below⟩
  case false =>
    obtain ⟨hn, hl25⟩ := great_no HGB.out.symm
    have HBD := Lib.hid (buildT n hn A c l HL.out hl25 HT.out)
    have hHN := Lib.hid hn; clear hn
    go_wp2_with fail
    refine HBD.out.mono ?_
    clear HBD HT
    rintro e3 w3 ⟨b, gc, gd, g, vi, vc, vd, m, q0, items, calls, dn, rfl, hB, T⟩
    have T : Sts W (fun _ => False) w3 (rowR g (docC vi vc vd) :: vecR 35 2 vi items.length (vl IV items) :: vecR 47 14 vc calls.length (vl CV calls) :: vecR 35 2 vd dn.length (vl IV dn) :: rowR b #[.pointer (some ⟨gc, 0, none⟩), .pointer (some ⟨gd, 0, none⟩)] :: rowsIRK gc m :: rowsIRL gd q0 :: []) := T
    obtain ⟨Ai, ci, rfl⟩ := vec_shape2 (T.ord [1, 0])
    obtain ⟨ni, hni⟩ : ∃ v, v = items.length := ⟨_, rfl⟩
    have hni25 : ni ≤ 25 := by rw [hni]; have := hB.lei; omega
    rw [← hni] at T
    have G := hB.inv (by have := hHN.out; omega)
    have hmn : m.n = n := hB.mn
    have hqn0 : q0.n = n := hB.qn
    have HG := Lib.hid G; have HMN := Lib.hid hmn; have HQ0 := Lib.hid hqn0
    have HIS := Lib.hid (fun x (hx : x ∈ items) => (hB.is x).2 hx)
    clear G hmn hqn0 hB
    generalize hDD : vecR 47 14 vc calls.length (vl CV calls) :: vecR 35 2 vd dn.length (vl IV dn) :: ([] : List Res) = DD at *
    have T1 := T.ord [4, 5, 6, 0, 1, 2, 3]
    have T2 : Sts W (fun _ => False) w3 (rowR b #[.pointer (some ⟨gc, 0, none⟩), .pointer (some ⟨gd, 0, none⟩)] :: rowsIRK gc m :: rowsIRL gd q0 :: rowR g (docC (.slice Ai ni ci) vc vd) :: vecR 35 2 (.slice Ai ni ci) ni (vl IV items) :: DD) := by rw [← hDD]; exact T1
    clear T T1 hDD
    have T3 : Sts W (fun _ => False) _ (bitR _ 0 0 (fun _ => none) :: _) := T2.mapCNew (P := Try.prog) (k := 35) (kv := fun x : Item => Value.agg (IV x)) (ev := fun i : Bool => Value.bool i) (ok := InI)
    have T4 := T3.ord [1, 2, 3, 4, 0, 5]
    have HT := Lib.hid T4; have HNI := Lib.hid hni
    clear T2 T3 T4 hni
    go_upto_region 7 with fail
    generalize hw4 : w3.alloc _ = w4 at *
    generalize w3.heap.size = gm at *
    clear hw4
    have hr := (HT.out.ord [3, 0, 1, 2]).row; have hlt := row_lt hr
    have c0 : w4.cell? ⟨g, 0, none⟩ = some (.slice Ai ni ci) := by rw [row_cell hr 0]; rfl
    go_wp2_with fail
    go_loopw [39] (fun u39 wr => ∃ (i nn cc : Nat) (q : RowsML) (f : Item → Option Bool), u39 = .int .i64 i ∧ i ≤ ni ∧ nn ≤ 1000 * i ∧ q.n = n ∧ (∀ y, (f y).isSome = true → (getML q y).isSome = true) ∧ Sts W (fun _ => False) wr (rowR b #[.pointer (some ⟨gc, 0, none⟩), .pointer (some ⟨gd, 0, none⟩)] :: rowsIRK gc m :: rowsIRL gd q :: rowR g (docC (.slice Ai ni ci) vc vd) :: bitR gm nn cc f :: vecR 35 2 (.slice Ai ni ci) ni (vl IV items) :: DD)) (fun u39 _ => ni - (intOf u39).toNat)
    case atStart =>
      refine ⟨0, 0, 0, q0, fun _ => none, rfl, Nat.zero_le _, Nat.le_refl _, HQ0.out, fun y hy => by simp at hy, ?_⟩
      exact HT.out
    case round =>
      clear HT hr hlt c0
      obtain ⟨i, nn, cc, q, f, rfl, hi, hnn, hqn, hgone, T⟩ := hrel
      have HQN := Lib.hid hqn; have HGONE := Lib.hid hgone
      clear hqn hgone
      by_cases hin : i < ni
      · have hin' : (i : Int) < (ni : Int) := by omega
        have hi0 : (0 : Int) ≤ (i : Int) := by omega
        obtain ⟨x, hx⟩ : ∃ x, items[i]? = some x := ⟨items[i]'(by rw [← HNI.out]; exact hin), List.getElem?_eq_getElem _⟩
        have hxis : (getMK m x).isSome = true := HIS.out x (List.mem_of_getElem? hx)
        obtain ⟨gi, rfl, hld⟩ := vec_load (P := Try.prog) (e := 35) TItem_size (by omega) TItem_und rfl (by kernel_rfl) (T.ord [5, 0, 1, 2, 3, 4]) HNI.out hx (by omega)
        have T2 : Sts W (fun _ => False) (wr.alloc (.cells (IV x) 35)) (grL b gc gd m q ++ rowR wr.heap.size (IV x) :: bitR gm nn cc f :: rowR g (docC (.slice (some ⟨gi, 0, none⟩) ni ci) vc vd) :: vecR 35 2 (.slice (some ⟨gi, 0, none⟩) ni ci) ni (vl IV items) :: DD) := by
          have T0 := (T.new (IV x) 35).ord [1, 2, 3, 0, 5, 4, 6]
          exact T0
        have hmb : 0 ≤ m.n ∧ m.n ≤ 7 := by rw [HMN.out]; have := hHN.out; omega
        have hqb : 0 ≤ q.n ∧ q.n ≤ 7 := by rw [HQN.out]; have := hHN.out; omega
        have hK : SortsTo items.length := fun w W F R b gc gd g c m q d n h1 h2 h3 T => sorts49 w W F R b gc gd g c m q d n h1 (by have := HNI.out; omega) h3 T
        have HO := Lib.hid (grOrderT (its := items) hK (by have := HNI.out; omega) HG.out hmb hqb x T2)
        have T2' : Sts W (fun _ => False) (wr.alloc (.cells (IV x) 35)) (rowR b #[.pointer (some ⟨gc, 0, none⟩), .pointer (some ⟨gd, 0, none⟩)] :: rowsIRK gc m :: rowsIRL gd q :: rowR wr.heap.size (IV x) :: bitR gm nn cc f :: rowR g (docC (.slice (some ⟨gi, 0, none⟩) ni ci) vc vd) :: vecR 35 2 (.slice (some ⟨gi, 0, none⟩) ni ci) ni (vl IV items) :: DD) := T2
        have hrx := T2'.row3; have hlx := row_lt hrx
        have HXIS := Lib.hid hxis; have HK := Lib.hid hK; have HMB := Lib.hid hmb
        clear T T2 T2' hx hxis hK hmb hqb
        go_upto_region 10 with fail
        generalize hw5 : wr.alloc _ = w5 at *
        generalize wr.heap.size = gx at *
        clear hw5 hld
        go_wp2_with fail
        refine HO.out.mono ?_
        clear HO hrx hlx
        rintro e6 w6 ⟨vp, vm, P, M, rfl, hO, T⟩
        have hF := ord_facts HG.out HXIS.out hO
        obtain ⟨pv, Ap, cp, hpv, rfl, T1⟩ := T.paOpen2
        clear T
        have T1 : Sts W (fun _ => False) w6 (vecR 30 1 (.slice Ap pv.length cp) pv.length (vl PV pv) :: packR (pv.map ptR) :: vecR 35 2 vm M.length (vl IV M) :: rowR b #[.pointer (some ⟨gc, 0, none⟩), .pointer (some ⟨gd, 0, none⟩)] :: rowsIRK gc m :: rowsIRL gd q :: rowR gx (IV x) :: bitR gm nn cc f :: rowR g (docC (.slice (some ⟨gi, 0, none⟩) ni ci) vc vd) :: vecR 35 2 (.slice (some ⟨gi, 0, none⟩) ni ci) ni (vl IV items) :: DD) := T1
        obtain ⟨Am, cm, rfl⟩ := vec_shape2 (T1.ord [2, 0, 1])
        have hPl : pv.length ≤ 25 := by
          have := hF.2.2.2.2.1
          rw [← hpv, List.length_map] at this
          have := HNI.out
          omega
        have HF := Lib.hid hF; have HPV := Lib.hid hpv; have HOO := Lib.hid hO
        clear hF hpv hO
        generalize hRR : vecR 35 2 (.slice Am M.length cm) M.length (vl IV M) :: rowR gx (IV x) :: rowR g (docC (.slice (some ⟨gi, 0, none⟩) ni ci) vc vd) :: vecR 35 2 (.slice (some ⟨gi, 0, none⟩) ni ci) ni (vl IV items) :: DD = RR at *
        have T2 : Sts W (fun _ => False) w6 (vecR 30 1 (.slice Ap pv.length cp) pv.length (vl PV pv) :: packR (pv.map ptR) :: bitR gm nn cc f :: rowR b #[.pointer (some ⟨gc, 0, none⟩), .pointer (some ⟨gd, 0, none⟩)] :: rowsIRK gc m :: rowsIRL gd q :: RR) := by
          rw [← hRR]
          exact T1.ord [0, 1, 7, 3, 4, 5, 2, 6, 8]
        have HRR := Lib.hid hRR
        have HT := Lib.hid T2
        clear T1 T2 hRR
        obtain ⟨np, hnp⟩ : ∃ k, k = pv.length := ⟨_, rfl⟩
        have hnp25 : np ≤ 25 := by omega
        have HNP := Lib.hid hnp
        obtain ⟨vpv, hvpv⟩ : ∃ v : Value, v = .slice Ap pv.length cp := ⟨_, rfl⟩
        have HPL := Lib.hid (show ∀ p ∈ pv, p.2.length ≤ 25 from fun p hp => by
          have := HF.out.2.2.2.2.2 p.2 (by rw [← HPV.out]; exact List.mem_map.2 ⟨p, hp, rfl⟩)
          have := HNI.out
          omega)
        have hsl : (Value.slice Ap pv.length cp) = .slice Ap np cp := by rw [hnp]
        rw [hsl]
        clear hsl hvpv hPl hnp
        go_wp2_with fail
        go_loopw [51] (fun u51 wx => ∃ (k nn1 cc1 : Nat) (f1 : Item → Option Bool), u51 = .int .i64 k ∧ k ≤ np ∧ nn1 ≤ nn + 25 * k ∧ (∀ y, (f1 y).isSome = true ↔ (f y).isSome = true ∨ y ∈ (P.take k).flatten) ∧ Sts W (fun _ => False) wx (vecR 30 1 (.slice Ap pv.length cp) pv.length (vl PV pv) :: packR (pv.map ptR) :: bitR gm nn1 cc1 f1 :: rowR b #[.pointer (some ⟨gc, 0, none⟩), .pointer (some ⟨gd, 0, none⟩)] :: rowsIRK gc m :: rowsIRL gd q :: RR)) (fun u51 _ => np - (intOf u51).toNat)
        case atStart => exact ⟨0, nn, cc, f, rfl, Nat.zero_le _, Nat.le_refl _, fun y => by simp, HT.out⟩
        case round =>
          clear HT
          obtain ⟨k, nn1, cc1, f1, rfl, hk, hnn1, hf1, T⟩ := hrel
          have HF1 := Lib.hid hf1; clear hf1
          by_cases hkn : k < np
          · have hkn' : (k : Int) < (np : Int) := by omega
            have hk0 : (0 : Int) ≤ (k : Int) := by omega
            obtain ⟨p, hp⟩ : ∃ p, pv[k]? = some p := ⟨pv[k]'(by rw [← HNP.out]; exact hkn), List.getElem?_eq_getElem _⟩
            obtain ⟨gp, B, dB, rfl, hcell, hpB⟩ := part_at T hp
            have hlt := World.block_lt_of_cell? _ _ hcell
            obtain ⟨lp, hlp⟩ : ∃ v, v = p.2.length := ⟨_, rfl⟩
            have hlp25 : lp ≤ 25 := by rw [hlp]; exact HPL.out p (List.mem_of_getElem? hp)
            rw [← hlp] at hcell
            have HT := Lib.hid T; have HP := Lib.hid hp; have HPB := Lib.hid hpB; have HLP := Lib.hid hlp
            clear T hp hpB hlp
            have HPK := Lib.hid (show P[k]? = some p.2 by rw [← HPV.out, List.getElem?_map, HP.out]; rfl)
            have HNEW := Lib.hid (show ∀ j y, p.2[j]? = some y → (getML q y).isSome = false ∧ (getMK m y).isSome = true ∧ y ∉ (P.take k).flatten ∧ y ∉ p.2.take j from fun j y hj => by
              have hyp : y ∈ p.2 := List.mem_of_getElem? hj
              have hyP : y ∈ P.flatten := List.mem_flatten.2 ⟨p.2, List.mem_of_getElem? HPK.out, hyp⟩
              have h1 := HF.out.2.1 y hyP
              obtain ⟨hkP, hpk⟩ := List.getElem?_eq_some_iff.1 HPK.out
              have hsp : P = P.take k ++ p.2 :: P.drop (k + 1) := by
                rw [← hpk, ← List.drop_eq_getElem_cons hkP, List.take_append_drop]
              have hnd := HF.out.1
              rw [hsp, List.flatten_append, List.flatten_cons, List.nodup_append] at hnd
              obtain ⟨hnd1, hnd2, hnd3⟩ := hnd
              refine ⟨h1.1, h1.2, fun hc => hnd3 y hc y (List.mem_append.2 (.inl hyp)) rfl, fun hc => ?_⟩
              have hnd4 := (List.nodup_append.1 hnd2).1
              obtain ⟨hjl, rfl⟩ := List.getElem?_eq_some_iff.1 hj
              have hsp2 : p.2 = p.2.take j ++ p.2[j] :: p.2.drop (j + 1) := by
                rw [← List.drop_eq_getElem_cons hjl, List.take_append_drop]
              have hnd5 := hnd4
              rw [hsp2, List.nodup_append] at hnd5
              exact hnd5.2.2 _ hc _ List.mem_cons_self rfl)
            go_wp2_with fail
            clear hlt hcell
            go_loopw [57] (fun u57 wy => ∃ (j nn2 cc2 : Nat) (f2 : Item → Option Bool), u57 = .int .i64 j ∧ j ≤ lp ∧ nn2 ≤ nn1 + j ∧ (∀ y, (f2 y).isSome = true ↔ (f1 y).isSome = true ∨ y ∈ p.2.take j) ∧ Sts W (fun _ => False) wy (vecR 30 1 (.slice (some ⟨gp, 0, none⟩) pv.length cp) pv.length (vl PV pv) :: packR (pv.map ptR) :: bitR gm nn2 cc2 f2 :: rowR b #[.pointer (some ⟨gc, 0, none⟩), .pointer (some ⟨gd, 0, none⟩)] :: rowsIRK gc m :: rowsIRL gd q :: RR)) (fun u57 _ => lp - (intOf u57).toNat)
            case atStart => exact ⟨0, nn1, cc1, f1, rfl, Nat.zero_le _, Nat.le_refl _, fun y => by simp, HT.out⟩
            case round =>
              clear HT
              obtain ⟨j, nn2, cc2, f2, rfl, hj, hnn2, hf2, T⟩ := hrel
              have HF2 := Lib.hid hf2; clear hf2
              by_cases hjl : j < lp
              · have hjl' : (j : Int) < (lp : Int) := by omega
                have hj0 : (0 : Int) ≤ (j : Int) := by omega
                obtain ⟨y, hy⟩ : ∃ y, p.2[j]? = some y := ⟨p.2[j]'(by rw [← HLP.out]; exact hjl), List.getElem?_eq_getElem _⟩
                obtain ⟨giy, rfl, hld⟩ := part_item T HP.out HPB.out (by rw [← HLP.out]; omega) hy
                obtain ⟨hyo, hyi, hyP, hyj⟩ := HNEW.out j y hy
                have hyf : (f2 y).isSome = false := by
                  cases hc : (f2 y).isSome with
                  | false => rfl
                  | true =>
                    rcases (HF2.out y).1 hc with h1 | h1
                    · rcases (HF1.out y).1 h1 with h2 | h2
                      · rw [HGONE.out y h2] at hyo; cases hyo
                      · exact absurd h2 hyP
                    · exact absurd h1 hyj
                have hvb : valB f2 y = false := by
                  unfold valB
                  cases hc : f2 y with
                  | none => rfl
                  | some v => rw [hc] at hyf; cases hyf
                have hyI : InI y := HG.out.fits y (HG.out.mem y hyi)
                have T2 := (T.new (IV y) 35).ord [1, 2, 0, 3]
                have HT := Lib.hid T2
                have hry := HT.out.row2; have hly := row_lt hry
                have hlk := (HT.out.ord [3, 0, 1, 2]).lookB y hyI
                rw [hvb] at hlk
                have HOV := Lib.hid (grOverR b gc gd m q (by rw [HQN.out]; have := hHN.out; omega) y)
                rw [hyo] at HOV
                have HYI := Lib.hid hyI; have HY := Lib.hid hy
                clear T T2 hy hyo hyi hyP hyj hyf hvb hyI
                go_upto_region 17 with fail
                generalize hw7 : wr.alloc _ = w7 at *
                generalize wr.heap.size = gy at *
                clear hw7 hld
                go_wp2_with fail
                refine (HOV.out.at (R := vecR 30 1 _ _ _ :: _) (by have T0 := HT.out.ord [4, 5, 6, 0, 1, 2, 3]; exact T0)).mono ?_
                clear HOV hry hly hlk
                rintro e8 w8 ⟨rfl, hb⟩
                have T := HT.out.pure hb
                clear hb HT
                have hry := T.row2; have hly := row_lt hry
                obtain ⟨w10, h10, T10, hsz⟩ := (T.ord [3, 0, 1, 2]).mapCPut itemOk Try.underlying29 (by have hmx : maxLen = 9223372036854775807 := rfl; omega) y HYI.out true
                have HT := Lib.hid (T10.ord [3, 1, 2, 0]).drop
                clear T T10 hsz
                go_wp2
                go_roundw
                case rel => exact ⟨j + 1, nn2 + 1, _, putF f2 y true, by go_num, by omega, by omega, fun z => by
                  rw [putF_isSome, HF2.out z]
                  obtain ⟨hjl2, hyj⟩ := List.getElem?_eq_some_iff.1 HY.out
                  rw [List.take_succ_eq_append_getElem hjl2, hyj]
                  simp only [List.mem_append, List.mem_singleton]
                  constructor
                  · rintro (h | h | h)
                    · exact .inr (.inr h)
                    · exact .inl h
                    · exact .inr (.inl h)
                  · rintro (h | h | h)
                    · exact .inr (.inl h)
                    · exact .inr (.inr h)
                    · exact .inl h, HT.out⟩
                case measure => (simp [intOf]; try omega)
              · have hjl' : ¬ (j : Int) < (lp : Int) := by omega
                obtain rfl : j = lp := by omega
                have HT := Lib.hid T; clear T
                go_wp2
                go_roundw
                case rel => exact ⟨k + 1, nn2, cc2, f2, by go_num, by omega, by omega, fun y => by
                  have h1 := HF2.out y
                  have h2 := HF1.out y
                  have h3 : P.take (k + 1) = P.take k ++ [p.2] := by
                    obtain ⟨hkP, hpk⟩ := List.getElem?_eq_some_iff.1 HPK.out
                    rw [List.take_succ_eq_append_getElem hkP, hpk]
                  have h4 : p.2.take j = p.2 := List.take_of_length_le (by rw [← HLP.out]; exact Nat.le_refl _)
                  rw [h4] at h1
                  rw [h1, h2, h3, List.flatten_append, List.flatten_singleton, List.mem_append]
                  constructor
                  · rintro ((h | h) | h)
                    · exact .inl h
                    · exact .inr (.inl h)
                    · exact .inr (.inr h)
                  · rintro (h | h | h)
                    · exact .inl (.inl h)
                    · exact .inl (.inr h)
                    · exact .inr h, HT.out⟩
                case measure => (simp [intOf]; try omega)
          · have hkn' : ¬ (k : Int) < (np : Int) := by omega
            obtain rfl : k = np := by omega
            have HT := Lib.hid T; clear T
            go_wp2_with fail
            go_loopw [75] (fun u75 wy => ∃ k4 : Nat, u75 = .int .i64 k4 ∧ k4 ≤ k ∧ Sts W (fun _ => False) wy (vecR 30 1 (.slice Ap pv.length cp) pv.length (vl PV pv) :: packR (pv.map ptR) :: bitR gm nn1 cc1 f1 :: rowR b #[.pointer (some ⟨gc, 0, none⟩), .pointer (some ⟨gd, 0, none⟩)] :: rowsIRK gc m :: rowsIRL gd (doneM q (P.take k4).flatten) :: RR)) (fun u75 _ => k - (intOf u75).toNat)
            case atStart => exact ⟨0, rfl, Nat.zero_le _, HT.out⟩
            case round =>
              clear HT
              obtain ⟨k4, rfl, hk4, T⟩ := hrel
              by_cases hk4n : k4 < k
              · have hkn4 : (k4 : Int) < (k : Int) := by omega
                have hk40 : (0 : Int) ≤ (k4 : Int) := by omega
                obtain ⟨p, hp⟩ : ∃ p, pv[k4]? = some p := ⟨pv[k4]'(by rw [← HNP.out]; exact hk4n), List.getElem?_eq_getElem _⟩
                obtain ⟨gp, B, dB, rfl, hcell, hpB⟩ := part_at T hp
                have hlt := World.block_lt_of_cell? _ _ hcell
                have hPK : P[k4]? = some p.2 := by rw [← HPV.out, List.getElem?_map, hp]; rfl
                have hnx : doneM q (P.take (k4 + 1)).flatten = doneM (doneM q (P.take k4).flatten) p.2 := by
                  obtain ⟨hkP, hpk⟩ := List.getElem?_eq_some_iff.1 hPK
                  rw [List.take_succ_eq_append_getElem hkP, hpk, List.flatten_append, List.flatten_singleton, doneM_append]
                have T2 := (T.ord [1, 0]).pick hp
                have hq : ptR p = vecR 35 2 (.slice B p.2.length dB) p.2.length (vl IV p.2) := by unfold ptR; rw [hpB]
                rw [hq] at T2
                have T3 : Sts W (fun _ => False) wr (vecR 35 2 (.slice B p.2.length dB) p.2.length (vl IV p.2) :: (grL b gc gd m (doneM q (P.take k4).flatten) ++ packR ((pv.take k4 ++ pv.drop (k4 + 1)).map ptR) :: vecR 30 1 (.slice (some ⟨gp, 0, none⟩) pv.length cp) pv.length (vl PV pv) :: bitR gm nn1 cc1 f1 :: RR)) := by
                  have T0 := T2.ord [0, 4, 5, 6, 1, 2, 3]
                  exact T0
                have HD := Lib.hid (grDoneT (by rw [doneM_n, HQN.out]; have := hHN.out; omega) p.2 (by have := HPL.out p (List.mem_of_getElem? hp); omega) T3)
                have HQQ := Lib.hid hq; have HNX := Lib.hid hnx; have HP := Lib.hid hp
                clear T T2 T3 hp hpB hPK hnx hq
                go_wp2_with fail
                refine HD.out.mono ?_
                clear HD hcell hlt
                rintro e8 w8 ⟨rfl, T⟩
                rw [← HNX.out] at T
                have T4 : Sts W (fun _ => False) w8 (vecR 35 2 (.slice B p.2.length dB) p.2.length (vl IV p.2) :: rowR b #[.pointer (some ⟨gc, 0, none⟩), .pointer (some ⟨gd, 0, none⟩)] :: rowsIRK gc m :: rowsIRL gd (doneM q (P.take (k4 + 1)).flatten) :: packR ((pv.take k4 ++ pv.drop (k4 + 1)).map ptR) :: vecR 30 1 (.slice (some ⟨gp, 0, none⟩) pv.length cp) pv.length (vl PV pv) :: bitR gm nn1 cc1 f1 :: RR) := T
                rw [← HQQ.out] at T4
                have T5 := (T4.ord [0, 4, 5, 6, 1, 2, 3]).unpick HP.out
                have HT := Lib.hid (T5.ord [1, 0])
                clear T T4 T5
                go_wp2
                go_roundw
                case rel => exact ⟨k4 + 1, by go_num, by omega, HT.out⟩
                case measure => (simp [intOf]; try omega)
              · have hkn4 : ¬ (k4 : Int) < (k : Int) := by omega
                obtain rfl : k4 = k := by omega
                have htk : P.take k4 = P := List.take_of_length_le (by rw [← HPV.out, List.length_map, ← HNP.out]; exact Nat.le_refl _)
                rw [htk, ← HRR.out] at T
                have T : Sts W (fun _ => False) wr (vecR 30 1 (.slice Ap pv.length cp) pv.length (vl PV pv) :: packR (pv.map ptR) :: bitR gm nn1 cc1 f1 :: rowR b #[.pointer (some ⟨gc, 0, none⟩), .pointer (some ⟨gd, 0, none⟩)] :: rowsIRK gc m :: rowsIRL gd (doneM q P.flatten) :: vecR 35 2 (.slice Am M.length cm) M.length (vl IV M) :: rowR gx (IV x) :: rowR g (docC (.slice (some ⟨gi, 0, none⟩) ni ci) vc vd) :: vecR 35 2 (.slice (some ⟨gi, 0, none⟩) ni ci) ni (vl IV items) :: DD) := T
                have T2 := (T.ord [1, 0, 6, 3, 4, 5, 7, 2, 8, 9]).drop.drop.drop
                have hmb := HMB.out
                have hqd : (doneM q P.flatten).n = n := by rw [doneM_n, HQN.out]
                have hqb : 0 ≤ (doneM q P.flatten).n ∧ (doneM q P.flatten).n ≤ 7 := by rw [hqd]; have := hHN.out; omega
                have hov : ∀ y, (getML (doneM q P.flatten) y).isSome = true ↔ (getML q y).isSome = true ∨ y ∈ P.flatten := doneM_over _ _ (fun y hy => by
                  rw [HQN.out, ← HMN.out]; exact getMK_good (HF.out.2.1 y hy).2)
                have HO := Lib.hid (grOrderT (its := items) (b := b) (gc := gc) (gd := gd) (R := rowR gx (IV x) :: bitR gm nn1 cc1 f1 :: rowR g (docC (.slice (some ⟨gi, 0, none⟩) ni ci) vc vd) :: vecR 35 2 (.slice (some ⟨gi, 0, none⟩) ni ci) ni (vl IV items) :: DD) HK.out (by have := HNI.out; omega) HG.out hmb hqb x T2)
                have hrx := T2.row3; have hlx := row_lt hrx
                have HOV := Lib.hid hov; have HQD := Lib.hid hqd; have HQB := Lib.hid hqb
                clear T T2 htk hov hqd hqb hmb HRR
                go_wp2_with fail
                refine HO.out.mono ?_
                clear HO hrx hlx
                rintro e9 w9 ⟨vp2, vm2, P2, M2, rfl, hO2, T⟩
                obtain ⟨pv2, Ap2, cp2, hpv2, rfl, T1⟩ := T.paOpen2
                clear T
                have hpl2 : pv2.length = P2.length := by rw [← hpv2, List.length_map]
                rw [hpl2]
                have T2 : Sts W (fun _ => False) w9 (vecR 30 1 (.slice Ap2 pv2.length cp2) pv2.length (vl PV pv2) :: packR (pv2.map ptR) :: vecR 35 2 vm2 M2.length (vl IV M2) :: rowR b #[.pointer (some ⟨gc, 0, none⟩), .pointer (some ⟨gd, 0, none⟩)] :: rowsIRK gc m :: rowsIRL gd (doneM q P.flatten) :: rowR gx (IV x) :: bitR gm nn1 cc1 f1 :: rowR g (docC (.slice (some ⟨gi, 0, none⟩) ni ci) vc vd) :: vecR 35 2 (.slice (some ⟨gi, 0, none⟩) ni ci) ni (vl IV items) :: DD) := T1
                obtain ⟨Am2, cm2, rfl⟩ := vec_shape2 (T2.ord [2, 0, 1])
                have T3 : Sts W (fun _ => False) w9 (rowR b #[.pointer (some ⟨gc, 0, none⟩), .pointer (some ⟨gd, 0, none⟩)] :: rowsIRK gc m :: rowsIRL gd (doneM q P.flatten) :: rowR gx (IV x) :: bitR gm nn1 cc1 f1 :: rowR g (docC (.slice (some ⟨gi, 0, none⟩) ni ci) vc vd) :: vecR 35 2 (.slice (some ⟨gi, 0, none⟩) ni ci) ni (vl IV items) :: DD) := T2.drop.drop.drop
                have hrx := T3.row3; have hlx := row_lt hrx
                have HT := Lib.hid T3
                have hgone' : ∀ y, (f1 y).isSome = true → (getML (doneM q P.flatten) y).isSome = true := fun y hy => by
                  rw [HOV.out y]
                  rcases (HF1.out y).1 hy with h | h
                  · exact .inl (HGONE.out y h)
                  · refine .inr ?_
                    have h2 : P.take k4 = P := List.take_of_length_le (by rw [← HPV.out, List.length_map, ← HNP.out]; exact Nat.le_refl _)
                    rw [h2] at h; exact h
                have HGN := Lib.hid hgone'
                clear T1 T2 T3 hpv2 hpl2 hgone'
                by_cases hM : M = []
                · have hxo : (getML (doneM q P.flatten) x).isSome = true := by
                    rw [HOV.out x]
                    rcases HF.out.2.2.1 hM with h | h
                    · exact .inr h
                    · exact .inl h
                  have hPM : P2 = [] ∧ M2 = [] := by
                    rcases hO2 with ⟨_, h1, h2⟩ | ⟨⟨_, h1⟩, _⟩
                    · exact ⟨h1, h2⟩
                    · rw [hxo] at h1; cases h1
                  obtain ⟨rfl, rfl⟩ := hPM
                  have HOVR := Lib.hid (grOverR b gc gd m (doneM q P.flatten) HQB.out x)
                  rw [hxo] at HOVR
                  subst hM
                  clear hO2 hxo
                  simp only [List.length_nil]
                  go_wp2_with fail
                  refine (HOVR.out.at (R := rowR gx _ :: _) HT.out).mono ?_
                  clear HOVR hrx hlx
                  rintro e10 w10 ⟨rfl, hb⟩
                  have T := HT.out.pure hb
                  have HT2 := Lib.hid T; clear T hb HT
                  go_wp2
                  go_roundw
                  case rel => exact ⟨i + 1, nn1, cc1, doneM q P.flatten, f1, by go_num, by omega, by omega, HQD.out, HGN.out, (HT2.out.ord [3, 0, 1, 2, 5, 4]).drop⟩
                  case measure => (simp [intOf]; try omega)
                · have hP : P = [] := HF.out.2.2.2.1 hM
                  have hlm : M2.length = M.length := by
                    have h1 := HOO.out
                    have h2 := hO2
                    rw [hP] at h2
                    exact congrArg List.length (ord_unique h1 h2).2.symm
                  have hm0 : (0 : Int) < (M.length : Int) := by
                    have : M.length ≠ 0 := fun h => hM (List.eq_nil_of_length_eq_zero h)
                    omega
                  have hm1 : 0 < M.length := by omega
                  have hm2 : ((M.length : Int) == 0) = false := by rw [beq_eq_false_iff_ne]; omega
                  rw [hlm]
                  have HLM := Lib.hid hlm; have HMM := Lib.hid hM; have HPP := Lib.hid hP
                  clear hO2 hlm hM hP
                  generalize M.length = nm at *
                  go_wp2
                  go_roundw
                  case rel => exact ⟨i + 1, nn1, cc1, doneM q P.flatten, f1, by go_num, by omega, by omega, HQD.out, HGN.out, (HT.out.ord [3, 0, 1, 2, 5, 4]).drop⟩
                  case measure => (simp [intOf]; try omega)
      · have hin' : ¬ (i : Int) < (ni : Int) := by omega
        have HT := Lib.hid T; clear T
        go_wp2
        go_ret
        exact ⟨rfl, HT.out.below⟩
end
end Go.Proofs.Ytnjgjhjilolanaa
