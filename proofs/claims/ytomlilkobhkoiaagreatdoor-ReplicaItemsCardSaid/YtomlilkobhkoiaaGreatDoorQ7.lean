/- Several texts in one. -/
import Derived.Test.YtomlilkobhkoiaaGreatDoorQ6
import Derived.Test.YtomlilkobhkoiaaGreatDoorQ2
import Derived.Maps.OwnSet
import Derived.Test.YtomlilkobhkoiaaGreatDoorQ3
import Derived.DeepKeys4
import Derived.RangeFuncNested
import Derived.RangeFuncBound
import Derived.RangeFuncCalls
import Derived.RangeFuncLeaves
import Derived.Shelf.Abstract
import Derived.Shelf.RegionOpen
import Derived.OwnWalkIn
import Derived.TacticsInMore
import Derived.LoopNIn
import Derived.LoopIn
/- Layer 10: the wheel: Set. -/
namespace Go.Proofs.YtomlilkobhkoiaaGreatDoor
open Go.RowKit
set_option linter.unusedVariables false
set_option maxRecDepth 20000
attribute [local go_sem] row_alloc row_drew row_drewN row_ext row_setCell row_setRow size_ext setRow_alloc setRow_drew loadOf storeOf piece_lit loadVal_at storeVal_at allOne_lit buildOf buildRes_some
attribute [local go_sem high] cell_alloc frozen_alloc setCell_alloc cell_ext frozen_ext cell_setRow frozen_setRow
attribute [local go_sem ↓] TItem_ld0 TItem_st0 TItem_fd0 TItem_bd0
attribute [local go_sem] TItem_size TItem_one TItem_piece TItem_c0 TItem_c1 TItem_set_rep TItem_set_num TItem_ld TItem_st TItem_f_rep TItem_f_num TItem_bd TItem_fl TItem_fl_rep TItem_fl_num
attribute [local go_sem high] TItem_eql TItem_neq
attribute [local go_sem ↓] TSpoke_ld0 TSpoke_st0 TSpoke_fd0 TSpoke_bd0
attribute [local go_sem] TSpoke_size TSpoke_one TSpoke_piece TSpoke_c0 TSpoke_c1 TSpoke_c2 TSpoke_c3 TSpoke_p_key TSpoke_put_key TSpoke_set_due TSpoke_set_turn TSpoke_ld TSpoke_st TSpoke_f_key TSpoke_f_due TSpoke_f_turn TSpoke_bd TSpoke_fl TSpoke_fl_key TSpoke_fl_due TSpoke_fl_turn
attribute [local go_sem high] TSpoke_eql TSpoke_neq
attribute [local go_sem ↓] ite_slice0 spk_slice0
attribute [local go_sem] ite_slice1 spk_slice1
section
variable {w W : World} {F : Nat → Prop} {R : List Res} {v : Value} {l : List Spoke} {b : Nat}
set_option maxHeartbeats 8000000 in
theorem whSetT {turn : Nat} (hl : l.length ≤ 1000) (x : Item) (due : Int) (hno : ∀ s ∈ l, eqA (IV s.key) (IV x) = false) (hall : ∀ y ∈ l, y.due = due ∧ y.turn < (turn : Int)) (ht : turn ≤ 1000) (T : Sts w F W (rowR b #[v, .int .i64 turn] :: skR v l :: R)) :
    Calls Tryz.prog 41 #[.pointer (some ⟨b, 0, none⟩), .agg (IV x), .int .i64 due] W fun e W' => ∃ v', e = .returned (.tuple #[]) ∧ Sts w F W' (rowR b #[v', .int .i64 ((turn + 1 : Nat) : Int)] :: skR v' (l ++ [⟨x, due, turn⟩]) :: R) := by
  have T1 := (T.new (IV x) 33)
  have T2 : Sts w F ((W.alloc (.cells (IV x) 33)).alloc (.cells (IV x) 33)) (rowR (W.heap.size + 1) (IV x) :: rowR b #[v, .int .i64 turn] :: skR v l :: rowR W.heap.size (IV x) :: R) := by
    have := T1.new (IV x) 33
    rw [World.size_alloc] at this
    exact this.ord [0, 2, 3, 1]
  have r1 := T1.row; have l1 := row_lt r1
  have rb := T2.row1; have lb := row_lt rb
  have HD := Lib.hid (whDropT hl x (W.heap.size + 1) hno T2)
  have HBS := Lib.hid hall
  clear T T1 T2 hall
  go_enter Tryz.func41, Tryz.ntmps41
  go_wp2_with fail
  refine HD.out.mono ?_
  clear HD r1 l1 rb lb
  rintro e w3 ⟨rfl, T⟩
  generalize W.heap.size = gx at *
  have T := T.drop.ord [2, 0, 1]
  have rx := T.row; have lx := row_lt rx
  have rb := T.row1; have lb := row_lt rb; have cb := row_cell rb 1
  have HT := Lib.hid T; clear T
  go_upto_region 3 with fail
  go_region
  have T0 := HT.out.new (SKV ⟨x, due, turn⟩) 184
  have T1 := T0.drew.ord [2, 0, 1]
  clear rx lx rb lb cb HT T0
  generalize (w3.alloc (.cells (SKV ⟨x, due, turn⟩) 184)).drew = w4 at *
  generalize w3.heap.size = gs at *
  have rb := T1.row; have lb := row_lt rb; have cb := row_cell rb; have fb := row_frozen rb 1
  have hw : IntKind.i64.wrap ((turn : Int) + 1) = ((turn + 1 : Nat) : Int) := by rw [IntKind.wrap_i64] <;> omega
  have T2 := T1.setCell 1 (.int .i64 ((turn + 1 : Nat) : Int))
  have HT := Lib.hid T2; clear T1 T2
  obtain ⟨t1, ht1⟩ : ∃ t1, t1 = turn + 1 := ⟨_, rfl⟩
  have HT1 := Lib.hid ht1
  rw [← ht1] at hw HT
  clear ht1
  go_upto_region 5 with fail
  clear rb lb cb hw fb
  generalize w4.setCell ⟨b, 1, none⟩ _ = w6 at *
  have T : Sts w F w6 (rowR b #[v, .int .i64 t1] :: rowR gs (SKV ⟨x, due, turn⟩) :: rowR gx (IV x) :: skR v l :: R) := HT.out
  clear HT
  have FS : ∀ W' v' R', Sts w F W' (rowR b #[v', .int .i64 t1] :: rowR gs (SKV ⟨x, due, turn⟩) :: R') → (W'.cell? ⟨b, 0, none⟩ = some v' ∧ row? W' gs = some (SKV ⟨x, due, turn⟩)) := fun W' v' R' T' => ⟨row_cell T'.row 0, T'.row1⟩
  have HFS := Lib.hid FS
  have HT := Lib.hid T.drew
  have S0 := FS _ _ _ HT.out
  have HB := Lib.hid (whBinT hl ⟨x, due, turn⟩ HBS.out (R := rowR b #[v, .int .i64 t1] :: rowR gs (SKV ⟨x, due, turn⟩) :: rowR gx (IV x) :: R) (HT.out.ord [3, 0, 1, 2]))
  clear FS T
  refine wp_region_held_drew (S := fun W' => (W'.cell? ⟨b, 0, none⟩ = some v ∧ row? W' gs = some (SKV ⟨x, due, turn⟩))) (by kernel_rfl) S0 (fun hHeld => ?_)
  clear S0
  refine tkH 0 rfl ?_
  simp only [Act.put, List.setIfInBounds_toArray, List.set_cons_zero, List.set_cons_succ]
  refine tkH 1 rfl ?_
  go_frame
  refine tkH 2 rfl ?_
  go_frame
  refine tkH 3 rfl ?_
  go_frame
  refine tkH 4 rfl ?_
  go_frame
  refine wpAnyH_ready (rs := [5]) (by kernel_rfl) (by simp) ?_
  refine AllReadyH.cons (o := _) rfl (fun K hK => ?_) AllReadyH.nil
  go_simp
  refine HB.out.mono ?_
  clear HB HT
  rintro e5 w7 ⟨rfl, T⟩
  have HT := Lib.hid (T.ord [1, 2, 3, 0]); clear T
  refine hK.out _ _ (HFS.out _ _ _ HT.out) (fun hHeld => ?_)
  clear hK K
  refine tkH 6 rfl ?_
  simp only [Act.put, List.setIfInBounds_toArray, List.set_cons_zero, List.set_cons_succ]
  refine tkH 7 rfl ?_
  go_frame
  refine tkH 8 rfl ?_
  go_frame
  refine tkH 9 rfl ?_
  go_frame
  refine tkH 10 rfl ?_
  go_frame
  refine wpAnyH_done (by kernel_rfl) ?_ _
  try simp only [Exit.then]
  have HT0 := Lib.hid HT.out.drew
  have S0 := HFS.out _ _ _ HT0.out
  have HM := Lib.hid (show ∀ W' : World, (W'.cell? ⟨b, 0, none⟩ = some v ∧ row? W' gs = some (SKV ⟨x, due, turn⟩)) → True from fun _ _ => trivial)
  clear HT
  go_upto_region 6 with fail
  refine wp_region_stage (fun W' => (W'.cell? ⟨b, 0, none⟩ = some v ∧ row? W' gs = some (SKV ⟨x, due, turn⟩))) (fun _ => True) 11 (by kernel_rfl) S0 (fun hHeld => ?_)
  clear S0
  refine tk0 0 rfl ?_
  simp only [Act.put, List.setIfInBounds_toArray, List.set_cons_zero, List.set_cons_succ]
  refine tk0 1 rfl ?_
  go_frame
  refine tk0 2 rfl ?_
  go_frame
  refine tk0 3 rfl ?_
  go_frame
  refine tk0 4 rfl ?_
  go_frame
  refine tk0 5 rfl ?_
  go_frame
  refine tk0 6 rfl ?_
  go_frame
  generalize hw8 : w7.drew = w8 at *
  clear hw8
  refine wpAnyL_ready (rs := [7]) (by kernel_rfl) (by simp) ?_
  refine AllReadyL.cons0 (o := _) rfl (by kernel_rfl) (fun K hK => ?_) AllReadyL.nil
  have Ta := HT0.out.new (SKV ⟨x, due, turn⟩) 184
  have HTa := Lib.hid Ta; clear Ta HT0
  go_simp
  refine hK.out _ _ ?_ (fun hHeld => ?_)
  · exact HFS.out _ _ _ HTa.out.drop
  clear hK K
  refine wpAnyL_ready (rs := [8]) (by kernel_rfl) (by simp) ?_
  refine AllReadyL.cons0 (o := _) rfl (by kernel_rfl) (fun K hK => ?_) AllReadyL.nil
  have HI := Lib.hid (whInsT hl ⟨x, due, turn⟩ w8.heap.size (R := rowR b #[v, .int .i64 t1] :: rowR gs (SKV ⟨x, due, turn⟩) :: rowR gx (IV x) :: R) (HTa.out.ord [0, 4, 1, 2, 3]))
  clear HTa
  go_simp
  refine HI.out.mono ?_
  clear HI
  rintro e5 w12 ⟨v', rfl, T1⟩
  obtain ⟨A', c', hv', -⟩ := vec_form T1
  rw [show (l ++ [(⟨x, due, turn⟩ : Spoke)]).length = l.length + 1 by simp] at hv'
  subst hv'
  have T1 := T1.ord [1, 2, 3, 0]
  refine hK.out _ _ ?_ (fun hHeld => ?_)
  · exact HFS.out _ _ _ T1
  clear hK K
  refine tk1 9 HM.out rfl ?_
  simp only [Act.put, List.setIfInBounds_toArray, List.set_cons_zero, List.set_cons_succ]
  refine tk0 10 rfl ?_
  simp only [Act.put, List.setIfInBounds_toArray, List.set_cons_zero, List.set_cons_succ]
  have hf := row_frozen T1.row 0
  have T2 := T1.setCell 0 (.slice A' (l.length + 1) c')
  have HT2 := Lib.hid T2; clear T1 T2
  refine wpAnyL_ready (rs := [11]) (by kernel_rfl) (by simp) ?_
  refine AllReadyL.cons1 (o := _) rfl (by kernel_rfl) (fun K hK => ?_) AllReadyL.nil
  go_simp
  refine hK.out _ _ trivial (fun hHeld => ?_)
  clear hK K hf HFS HM
  refine wpAnyL_done (by kernel_rfl) ?_ _
  try simp only [Exit.then]
  go_wp2
  go_end0
  refine ⟨.slice A' (l.length + 1) c', rfl, ?_⟩
  rw [← HT1.out]
  have T9 := (HT2.out.ord [1, 2, 0, 3]).drop.drop
  exact T9
end
end Go.Proofs.YtomlilkobhkoiaaGreatDoor
/- A map of the call's own as a thing: a function from keys. Nothing of the program stands here. -/
namespace Go.Proofs.YtomlilkobhkoiaaGreatDoor
open Go.RowKit
open Go.Maps (Keyed)
set_option linter.unusedVariables false
/-- How an element reads: as itself. -/
def RV (v : Value) : Option (DataW Value × List MemPlace) := some (.held v, [])
/-- What is asked of keys. -/
structure KeyOk {α : Type} (P : Program) (k : TypeId) (kv : α → Value) (ok : α → Prop) : Prop where
  lit : ∀ x, ok x → ∃ l, keyOf P k (kv x) = some l
  inj : ∀ x y l, ok x → ok y → keyOf P k (kv x) = some l → keyOf P k (kv y) = some l → x = y
  keyed : Keyed P k
section
variable {α β : Type}
def mapIs (P : Program) (k : TypeId) (kv : α → Value) (ev : β → Value) (ok : α → Prop) (W : World) (b n : Nat) (f : α → Option β) : Prop :=
  ∃ D : DataW Value, W.ownsMap P k RV b n D ∧ ∀ x l, ok x → keyOf P k (kv x) = some l → match f x with
    | none => Maps.has D l = false
    | some y => Maps.has D l = true ∧ ∀ z, D.atKey l z = .held (ev y)
/-- A map in block b, of at most n entries. -/
def mapR (P : Program) (k : TypeId) (kv : α → Value) (ev : β → Value) (ok : α → Prop) (b n : Nat) (f : α → Option β) : Res where
  sat F W := (∀ j, F j ↔ j = b) ∧ mapIs P k kv ev ok W b n f
  stay := fun {F W W'} h ⟨hF, D, ⟨es, clock, hb, rest⟩, hD⟩ => ⟨hF, D, ⟨es, clock, by rw [h b ((hF b).2 rfl)]; exact hb, rest⟩, hD⟩
  lt := fun ⟨hF, D, hown, hD⟩ j hj => by rw [(hF j).1 hj]; exact hown.lt
variable {P : Program} {k t e : TypeId} {kv : α → Value} {ev : β → Value} {ok : α → Prop} {w W : World} {F : Nat → Prop} {R L : List Res} {b n : Nat} {f : α → Option β}
theorem mapIs.look1 (K : KeyOk P k kv ok) (ht : P.underlying t = some (.map k e)) {z : Value} (hz : ∀ w, (zeroValue e).run P w = .ok z w) (h : mapIs P k kv ev ok W b n f) (x : α) (hx : ok x) :
    (Instr.lookup t (.map (some b)) (kv x) false).run P W = .ok (match f x with | none => z | some y => ev y) W := by
  obtain ⟨D, hown, hD⟩ := h
  obtain ⟨l, hl⟩ := K.lit x hx
  obtain ⟨v, ps, hrun, hv⟩ := hown.lookup K.keyed ht (hz W) (zd := .held z) (zp := []) rfl hl
  have hd := hD x l hx hl
  unfold RV at hv
  simp only [Option.some.injEq, Prod.mk.injEq] at hv
  rw [hrun]
  cases hf : f x with
  | none =>
    rw [hf] at hd
    simp only at hd
    rw [Maps.atKey_of_not_has hd] at hv
    injection hv.1 with e1
    rw [e1]
  | some y =>
    rw [hf] at hd
    simp only at hd
    rw [hd.2] at hv
    injection hv.1 with e1
    rw [e1]
open Classical in
noncomputable def putF (f : α → Option β) (x : α) (y : β) : α → Option β := fun x' => if x' = x then some y else f x'
theorem putF_same (f : α → Option β) (x : α) (y : β) : putF f x y x = some y := by unfold putF; rw [if_pos rfl]
theorem putF_other (f : α → Option β) {x x' : α} (y : β) (h : x' ≠ x) : putF f x y x' = f x' := by unfold putF; rw [if_neg h]
theorem mapIs.put (K : KeyOk P k kv ok) (ht : P.underlying t = some (.map k e)) (h : mapIs P k kv ev ok W b n f) (hn : n < maxLen) (x : α) (hx : ok x) (y : β) :
    ∃ W', (Instr.mapUpdate t (.map (some b)) (kv x) (ev y)).run P W = .ok () W' ∧ mapIs P k kv ev ok W' b (n + 1) (putF f x y) ∧ W.grownBy W' (some b) := by
  obtain ⟨D, hown, hD⟩ := h
  obtain ⟨l, hl⟩ := K.lit x hx
  obtain ⟨W', hrun, hown', hg⟩ := hown.update K.keyed ht hn hl (d := .held (ev y)) (ps := []) (val := ev y) rfl
  have hk : WideAt.IsKeyLit l := K.keyed.key hl
  refine ⟨W', hrun, ⟨_, hown', fun x' l' hx' hl' => ?_⟩, hg⟩
  by_cases hxx : x' = x
  · subst hxx
    have : l' = l := Option.some.inj (hl'.symm.trans hl)
    subst this
    rw [putF_same]
    exact ⟨Maps.has_put_same hown.isMap hk _, fun z => Maps.atKey_put_same hown.isMap hk _ _⟩
  · have hne : l' ≠ l := fun e => hxx (K.inj x' x l hx' hx (e ▸ hl') hl)
    rw [putF_other f y hxx]
    have hd := hD x' l' hx' hl'
    cases hf : f x' with
    | none =>
      rw [hf] at hd
      simp only at hd ⊢
      rw [Maps.has_put_other hne]; exact hd
    | some y' =>
      rw [hf] at hd
      simp only at hd ⊢
      exact ⟨by rw [Maps.has_put_other hne]; exact hd.1, fun z => by rw [Maps.atKey_put_other hne]; exact hd.2 z⟩
theorem Sts.map (T : Sts w F W (mapR P k kv ev ok b n f :: R)) : mapIs P k kv ev ok W b n f := let ⟨_, ha⟩ := T.at0; ha.2
theorem Sts.mapNew (T : Sts w F W L) : Sts w F (W.alloc (.map #[] 0)) (mapR P k kv ev ok W.heap.size 0 (fun _ => none) :: L) := by
  obtain ⟨⟨G, hs, hG⟩, m⟩ := T.keep (.map #[] 0)
  obtain ⟨⟨G0, hs0, hg0⟩, m0⟩ := T
  have hlt := hs0.lt
  have hs1 : Sat (W.alloc (.map #[] 0)) L G0 := hs0.stay fun j hj => Below.heap_alloc _ _ _ (hlt j hj)
  refine ⟨⟨fun j => j = W.heap.size ∨ G0 j, ⟨fun j => j = W.heap.size, G0, ⟨fun _ => Iff.rfl, .map [], World.ownsMap_made W P k RV, fun x l _ _ => rfl⟩, hs1, ?_, fun _ => Iff.rfl⟩, ?_⟩, m⟩
  · rintro j rfl h; have := hlt _ h; omega
  · rintro j (rfl | h)
    · right; exact m0.size
    · exact hg0 j h
theorem Sts.mapPut (T : Sts w F W (mapR P k kv ev ok b n f :: R)) (K : KeyOk P k kv ok) (ht : P.underlying t = some (.map k e)) (hn : n < maxLen) (x : α) (hx : ok x) (y : β) :
    ∃ W', (Instr.mapUpdate t (.map (some b)) (kv x) (ev y)).run P W = .ok () W' ∧ Sts w F W' (mapR P k kv ev ok b (n + 1) (putF f x y) :: R) ∧ W'.heap.size = W.heap.size := by
  obtain ⟨D, hown, hD⟩ := T.map
  obtain ⟨l, hl⟩ := K.lit x hx
  obtain ⟨W1, hrun1, _, ht1⟩ := hown.store K.keyed ht hn hl (d := .held (ev y)) (ps := []) (val := ev y) rfl
  obtain ⟨W', hrun, hm, hg⟩ := T.map.put K ht hn x hx y
  have he : W1 = W' := by rw [hrun] at hrun1; injection hrun1 with _ e; exact e.symm
  refine ⟨W', hrun, T.turn fun A ha => ⟨fun j => j = b, ⟨fun _ => Iff.rfl, hm⟩, fun j hj => .inl ((ha.1 j).2 hj), hg.os, hg.tape, hg.output, hg.size, fun j hj hn => hg.block j hj fun e => hn ((ha.1 j).2 (by injection e))⟩, ?_⟩
  subst he
  obtain ⟨es, c, es', c', hb, rfl⟩ := ht1
  simp [Go.ChangeMaps.setBlock]
end
end Go.Proofs.YtomlilkobhkoiaaGreatDoor
/- Items as keys of maps. -/
namespace Go.Proofs.YtomlilkobhkoiaaGreatDoor
open Go.RowKit
open Go.Maps (Keyed)
set_option linter.unusedVariables false
set_option maxRecDepth 20000
def InI (x : Item) : Prop := (-9223372036854775808 ≤ x.rep ∧ x.rep ≤ 9223372036854775807) ∧ (-9223372036854775808 ≤ x.num ∧ x.num ≤ 9223372036854775807)
theorem wide_item : (match Tryz.prog.underlying 33 with | some (.array _ _) | some (.struct _) => true | _ => false) = true := by rw [Tryz.underlying33]
theorem row_item : (33 : TypeId) < Tryz.prog.types.size := of_decide_eq_true (by kernel_rfl)
theorem wf_int {n : Int} (h : -9223372036854775808 ≤ n ∧ n ≤ 9223372036854775807) : (Lit.int .i64 n).wf = true := by
  simp [Lit.wf, IntKind.min, IntKind.max, IntKind.signed, IntKind.bits]; omega
theorem keyLits_int {d : Nat} {n : Int} (h : -9223372036854775808 ≤ n ∧ n ≤ 9223372036854775807) : Tryz.prog.keyLits (d + 1) 3 [.int .i64 n] = some [.int .i64 n] := by
  simp [Program.keyLits, Tryz.underlying3, wf_int h]
theorem keyLits_item {x : Item} (h : InI x) (d : Nat) : Tryz.prog.keyLits (d + 2) 33 (IV x).toList = some [.int .i64 x.rep, .int .i64 x.num] := by
  have c1 : Tryz.prog.cellsOf 3 = 1 := by kernel_rfl
  have c2 : Tryz.prog.cellsOf 33 = 2 := by kernel_rfl
  have k1 := keyLits_int (d := d) h.1
  have k2 := keyLits_int (d := d) h.2
  unfold Program.keyLits
  simp only [Tryz.underlying33, c2]
  rw [if_pos ⟨rfl, by kernel_rfl⟩]
  simp only [List.mapM_cons, List.mapM_nil, c1, IV, List.drop_zero, List.drop_succ_cons, List.take_succ_cons, List.take_zero]
  simp [k1, k2]
theorem itemOk : KeyOk Tryz.prog 33 (fun x : Item => Value.agg (IV x)) InI where
  lit x hx := by
    refine ⟨.string (keyBytes [.int .i64 x.rep, .int .i64 x.num]), ?_⟩
    unfold keyOf
    rw [Tryz.underlying33]
    simp only
    rw [if_pos]
    · obtain ⟨d, hd⟩ : ∃ d, Tryz.prog.types.size + 1 = d + 2 := ⟨Tryz.prog.types.size - 1, by have : 0 < Tryz.prog.types.size := of_decide_eq_true (by kernel_rfl); omega⟩
      rw [hd]
      show Option.map _ (Tryz.prog.keyLits (d + 2) 33 (IV x).toList) = _
      rw [keyLits_item hx d]
      rfl
    · rw [Bool.and_eq_true]
      refine ⟨by kernel_rfl, ?_⟩
      have c2 : Tryz.prog.cellsOf 33 = 2 := by kernel_rfl
      simp [Value.formed, Tryz.underlying33, c2, IV]
  inj x y l hx hy h1 h2 := by
    have := keyOf_inj_deep (P := Tryz.prog) (m := 2) (tiled_of_laidOut laidOut 2 33 (by
      simp only [isVar, Bool.and_eq_true, decide_eq_true_eq]
      exact ⟨row_item, by rw [Tryz.underlying33]; rfl⟩) (by kernel_rfl)) wide_item h1 h2
    injection this with e
    obtain ⟨a, b⟩ := (TItem_ext x y).1 e
    cases x; cases y; simp_all
  keyed := Keyed.of_law (deep_law_laid laidOut (m := 2) (by omega) row_item (by kernel_rfl) wide_item)
end Go.Proofs.YtomlilkobhkoiaaGreatDoor
/- Layer 17: the pace: a new item of one's own is watched. -/
namespace Go.Proofs.YtomlilkobhkoiaaGreatDoor
open Go.RowKit
set_option linter.unusedVariables false
set_option maxRecDepth 20000
attribute [local go_sem] row_alloc row_drew row_drewN row_ext row_setCell row_setRow size_ext setRow_alloc setRow_drew loadOf storeOf piece_lit loadVal_at storeVal_at allOne_lit buildOf buildRes_some
attribute [local go_sem high] cell_alloc frozen_alloc setCell_alloc cell_ext frozen_ext cell_setRow frozen_setRow
attribute [local go_sem ↓] TItem_ld0 TItem_st0 TItem_fd0 TItem_bd0
attribute [local go_sem] TItem_size TItem_one TItem_piece TItem_c0 TItem_c1 TItem_set_rep TItem_set_num TItem_ld TItem_st TItem_f_rep TItem_f_num TItem_bd TItem_fl TItem_fl_rep TItem_fl_num
attribute [local go_sem high] TItem_eql TItem_neq
attribute [local go_sem ↓] TSpoke_ld0 TSpoke_st0 TSpoke_fd0 TSpoke_bd0
attribute [local go_sem] TSpoke_size TSpoke_one TSpoke_piece TSpoke_c0 TSpoke_c1 TSpoke_c2 TSpoke_c3 TSpoke_p_key TSpoke_put_key TSpoke_set_due TSpoke_set_turn TSpoke_ld TSpoke_st TSpoke_f_key TSpoke_f_due TSpoke_f_turn TSpoke_bd TSpoke_fl TSpoke_fl_key TSpoke_fl_due TSpoke_fl_turn
attribute [local go_sem high] TSpoke_eql TSpoke_neq
attribute [local go_sem ↓] ite_slice0 spk_slice0
attribute [local go_sem] ite_slice1 spk_slice1
/-- A pace's block, and how often items were taken over: never. -/
abbrev pcR (bp bw bt : Nat) (n self : Int) : Res := rowR bp #[.int .i64 n, .int .i64 self, .pointer (some ⟨bw, 0, none⟩), .map (some bt)]
abbrev trR (bt : Nat) : Res := mapR Tryz.prog 33 (fun x : Item => Value.agg (IV x)) (fun k : Int => Value.int .i64 k) InI bt 0 (fun _ => none)
theorem wait_any (n : Int) (h1 : 1 ≤ n) (h7 : n ≤ 7) (x : Item) (hx : InI x) : Ans Tryz.prog 42 #[.int .i64 n, .int .i64 x.rep, .agg (IV x), .int .i64 0] (.int .i64 4) := by
  intro W
  have hx1 := hx.1
  have T := (Sts.start0 W).new (IV x) 33
  have h2 : ¬ n < 1 := by omega
  have h3 : ¬ n = 0 := by omega
  have hw0 : IntKind.i64.wrap (x.rep - x.rep) = 0 := by rw [Int.sub_self]; rfl
  have hr := T.row; have hlt := row_lt hr; have hc := row_cell hr 0
  have HT := Lib.hid T; clear T
  go_enter Tryz.func42, Tryz.ntmps42
  go_wp2
  go_ret
  exact ⟨rfl, HT.out.below⟩
section
variable {w W : World} {F : Nat → Prop} {R : List Res} {v : Value} {l : List Spoke} {bp bw bt : Nat} {n self : Int}
theorem pcSeeNil (A : Option Addr) (c : Nat) (now : Int) (T : Sts w F W R) :
    Calls Tryz.prog 18 #[.pointer (some ⟨bp, 0, none⟩), .int .i64 now, .slice A 0 c] W fun e W' => e = .returned (.tuple #[]) ∧ Sts w F W' R := by
  have HT := Lib.hid T; clear T
  go_enter Tryz.func18, Tryz.ntmps18
  go_wp2_with fail
  go_loopw [12] (fun u12 wr => u12 = .int .i64 0 ∧ Sts w F wr R) (fun _ _ => 0)
  case atStart => exact ⟨rfl, HT.out⟩
  case round =>
    clear HT
    obtain ⟨rfl, T⟩ := hrel
    have HT := Lib.hid T; clear T
    go_wp2
    go_end0
    exact ⟨rfl, HT.out⟩
set_option maxHeartbeats 8000000 in
theorem pcSeeT {turn gk : Nat} (x : Item) (hx : InI x) (hn1 : 1 ≤ n) (hn7 : n ≤ 7) (hl : l.length ≤ 1000) (hno : ∀ s ∈ l, eqA (IV s.key) (IV x) = false) (hall : ∀ y ∈ l, y.due = 4 ∧ y.turn < (turn : Int)) (ht : turn ≤ 1000) (T : Sts w F W (rowR gk (IV x) :: pcR bp bw bt n x.rep :: rowR bw #[v, .int .i64 turn] :: skR v l :: trR bt :: R)) :
    Calls Tryz.prog 18 #[.pointer (some ⟨bp, 0, none⟩), .int .i64 0, .slice (some ⟨gk, 0, none⟩) 1 1] W fun e W' => ∃ v', e = .returned (.tuple #[]) ∧ Sts w F W' (pcR bp bw bt n x.rep :: rowR bw #[v', .int .i64 ((turn + 1 : Nat) : Int)] :: skR v' (l ++ [⟨x, 4, turn⟩]) :: trR bt :: R) := by
  have HT := Lib.hid T; clear T
  have HNO := Lib.hid hno; have HALL := Lib.hid hall; clear hno hall
  go_enter Tryz.func18, Tryz.ntmps18
  go_wp2_with fail
  go_loopw [12] (fun u12 wr => (u12 = .int .i64 0 ∧ Sts w F wr (rowR gk (IV x) :: pcR bp bw bt n x.rep :: rowR bw #[v, .int .i64 turn] :: skR v l :: trR bt :: R)) ∨ (u12 = .int .i64 1 ∧ ∃ v', Sts w F wr (pcR bp bw bt n x.rep :: rowR bw #[v', .int .i64 ((turn + 1 : Nat) : Int)] :: skR v' (l ++ [⟨x, 4, turn⟩]) :: trR bt :: R))) (fun u12 _ => 1 - (intOf u12).toNat)
  case atStart => exact .inl ⟨rfl, HT.out⟩
  case round =>
    clear HT
    rcases hrel with ⟨rfl, T⟩ | ⟨rfl, v', T⟩
    · have rk := T.row; have lk := row_lt rk; have ck := row_cell rk
      have T1 : Sts w F (wr.alloc (.cells (IV x) 33)) (pcR bp bw bt n x.rep :: rowR wr.heap.size (IV x) :: rowR bw #[v, .int .i64 turn] :: skR v l :: trR bt :: R) := ((T.new (IV x) 33).swap.drop).swap
      have r1 := T1.row1; have l1 := row_lt r1
      have FS : ∀ W' R' gx, Sts w F W' (pcR bp bw bt n x.rep :: rowR gx (IV x) :: R') → (W'.cell? ⟨bp, 0, none⟩ = some (.int .i64 n) ∧ W'.cell? ⟨bp, 1, none⟩ = some (.int .i64 x.rep) ∧ W'.cell? ⟨bp, 2, none⟩ = some (.pointer (some ⟨bw, 0, none⟩)) ∧ W'.cell? ⟨bp, 3, none⟩ = some (.map (some bt)) ∧ row? W' gx = some (IV x)) := fun W' R' gx T' => ⟨row_cell T'.row 0, row_cell T'.row 1, row_cell T'.row 2, row_cell T'.row 3, T'.row1⟩
      have HFS := Lib.hid FS
      have HT := Lib.hid T1.drew
      clear T T1 FS
      go_upto_region 4 with fail
      clear rk lk ck r1 l1
      generalize wr.alloc (.cells (IV x) 33) = w2 at *
      generalize wr.heap.size = gx at *
      have S0 := HFS.out _ _ _ HT.out
      have HD := Lib.hid (whDueT hl x HNO.out (R := pcR bp bw bt n x.rep :: rowR gx (IV x) :: trR bt :: R) (HT.out.ord [2, 3, 0, 1, 4]))
      refine wp_region_held_drew (S := fun W' => (W'.cell? ⟨bp, 0, none⟩ = some (.int .i64 n) ∧ W'.cell? ⟨bp, 1, none⟩ = some (.int .i64 x.rep) ∧ W'.cell? ⟨bp, 2, none⟩ = some (.pointer (some ⟨bw, 0, none⟩)) ∧ W'.cell? ⟨bp, 3, none⟩ = some (.map (some bt)) ∧ row? W' gx = some (IV x))) (by kernel_rfl) S0 (fun hHeld => ?_)
      clear S0
      refine tkH 0 rfl ?_
      simp only [Act.put, List.setIfInBounds_toArray, List.set_cons_zero, List.set_cons_succ]
      refine tkH 1 rfl ?_
      go_frame
      refine tkH 2 rfl ?_
      go_frame
      refine tkH 3 rfl ?_
      go_frame
      refine tkH 4 rfl ?_
      go_frame
      refine wpAnyH_ready (rs := [5]) (by kernel_rfl) (by simp) ?_
      refine AllReadyH.cons (o := _) rfl (fun K hK => ?_) AllReadyH.nil
      go_simp
      refine HD.out.mono ?_
      clear HD HT
      rintro e5 w7 ⟨rfl, T⟩
      have HT := Lib.hid (T.ord [2, 3, 0, 1, 4]); clear T
      refine hK.out _ _ (HFS.out _ _ _ HT.out) (fun hHeld => ?_)
      clear hK K
      refine tkH 6 rfl ?_
      simp only [Act.put, List.setIfInBounds_toArray, List.set_cons_zero, List.set_cons_succ]
      refine tkH 7 rfl ?_
      go_frame
      refine tkH 8 rfl ?_
      go_frame
      refine tkH 9 rfl ?_
      go_frame
      refine tkH 10 rfl ?_
      go_frame
      refine wpAnyH_done (by kernel_rfl) ?_ _
      try simp only [Exit.then]
      have FL : ∀ W' R', Sts w F W' (pcR bp bw bt n x.rep :: rowR gx (IV x) :: trR bt :: R') → (W'.cell? ⟨bp, 0, none⟩ = some (.int .i64 n) ∧ W'.cell? ⟨bp, 1, none⟩ = some (.int .i64 x.rep) ∧ W'.cell? ⟨bp, 2, none⟩ = some (.pointer (some ⟨bw, 0, none⟩)) ∧ W'.cell? ⟨bp, 3, none⟩ = some (.map (some bt)) ∧ row? W' gx = some (IV x) ∧ (Instr.lookup 99 (.map (some bt)) (.agg (IV x)) false).run Tryz.prog W' = .ok (.int .i64 0) W') := fun W' R' T' => ⟨row_cell T'.row 0, row_cell T'.row 1, row_cell T'.row 2, row_cell T'.row 3, T'.row1, (T'.ord [2, 0, 1]).map.look1 itemOk Tryz.underlying99 (z := .int .i64 0) (fun w => by kernel_rfl) x hx⟩
      have HFL := Lib.hid FL; clear FL HFS
      have HT0 := Lib.hid (HT.out.drew.ord [0, 1, 4, 2, 3]); clear HT
      have S0 := HFL.out _ _ HT0.out
      go_upto_region 6 with fail
      refine wp_region_held_drew (S := fun W' => (W'.cell? ⟨bp, 0, none⟩ = some (.int .i64 n) ∧ W'.cell? ⟨bp, 1, none⟩ = some (.int .i64 x.rep) ∧ W'.cell? ⟨bp, 2, none⟩ = some (.pointer (some ⟨bw, 0, none⟩)) ∧ W'.cell? ⟨bp, 3, none⟩ = some (.map (some bt)) ∧ row? W' gx = some (IV x) ∧ (Instr.lookup 99 (.map (some bt)) (.agg (IV x)) false).run Tryz.prog W' = .ok (.int .i64 0) W')) (by kernel_rfl) S0 (fun hHeld => ?_)
      clear S0
      refine tkH 0 rfl ?_
      simp only [Act.put, List.setIfInBounds_toArray, List.set_cons_zero, List.set_cons_succ]
      refine tkH 1 rfl ?_
      go_frame
      refine tkH 2 rfl ?_
      go_frame
      refine tkH 3 rfl ?_
      go_frame
      refine tkH 4 rfl ?_
      go_frame
      refine tkH 5 rfl ?_
      go_frame
      refine tkH 6 rfl ?_
      go_frame
      refine tkH 7 rfl ?_
      go_frame
      refine tkH 8 rfl ?_
      go_frame
      refine tkH 9 rfl ?_
      go_frame
      refine tkH 10 rfl ?_
      go_frame
      refine tkH 11 rfl ?_
      go_frame
      refine tkH 12 rfl ?_
      go_frame
      refine tkH 13 rfl ?_
      go_frame
      refine tkH 14 rfl ?_
      go_frame
      refine tkH 15 rfl ?_
      go_frame
      refine tkH 16 rfl ?_
      go_frame
      refine tkH 17 rfl ?_
      go_frame
      refine tkH 18 rfl ?_
      go_frame
      refine tkH 19 rfl ?_
      go_frame
      refine tkH 20 rfl ?_
      go_frame
      have HW := Lib.hid (wait_any n hn1 hn7 x hx)
      refine wpAnyH_ready (rs := [21]) (by kernel_rfl) (by simp) ?_
      refine AllReadyH.cons (o := _) rfl (fun K hK => ?_) AllReadyH.nil
      go_simp
      refine (HW.out.at HT0.out).mono ?_
      clear HW HT0
      rintro e5 w8 ⟨rfl, T⟩
      have HT := Lib.hid T; clear T
      refine hK.out _ _ (HFL.out _ _ HT.out) (fun hHeld => ?_)
      clear hK K
      refine tkH 22 rfl ?_
      simp only [Act.put, List.setIfInBounds_toArray, List.set_cons_zero, List.set_cons_succ]
      refine wpAnyH_ready (rs := [23]) (by kernel_rfl) (by simp) ?_
      refine AllReadyH.cons (o := _) rfl (fun K hK => ?_) AllReadyH.nil
      have HST := Lib.hid (whSetT (b := bw) (v := v) (turn := turn) hl x 4 HNO.out HALL.out ht (R := pcR bp bw bt n x.rep :: rowR gx (IV x) :: trR bt :: R) (HT.out.ord [3, 4, 0, 1, 2]))
      clear HT
      go_simp
      refine HST.out.mono ?_
      clear HST
      rintro e5 w9 ⟨v', rfl, T⟩
      have HT := Lib.hid (T.ord [2, 3, 4, 0, 1]); clear T
      refine hK.out _ _ (HFL.out _ _ HT.out) (fun hHeld => ?_)
      clear hK K
      refine wpAnyH_done (by kernel_rfl) ?_ _
      try simp only [Exit.then]
      go_wp2
      go_roundw
      case rel => exact .inr ⟨by go_num, v', (HT.out.swap.drop).ord [0, 2, 3, 1]⟩
      case measure => simp [intOf]
    · have HT := Lib.hid T; clear T
      go_wp2
      go_end0
      exact ⟨v', rfl, HT.out⟩
end
end Go.Proofs.YtomlilkobhkoiaaGreatDoor
/- Layers 17 to 21: what a replica is made of, new. -/
namespace Go.Proofs.YtomlilkobhkoiaaGreatDoor
open Go.RowKit
set_option linter.unusedVariables false
set_option maxRecDepth 20000
theorem mkMapR (t : TypeId) (w : World) : (Instr.makeMap t none).run Tryz.prog w = .ok (.map (some w.heap.size)) (w.alloc (.map #[] 0)) := rfl
attribute [local go_sem] mkMapR
attribute [local go_sem] row_alloc row_drew row_drewN row_ext row_setCell row_setRow size_ext setRow_alloc setRow_drew loadOf storeOf piece_lit loadVal_at storeVal_at allOne_lit buildOf buildRes_some
attribute [local go_sem high] cell_alloc frozen_alloc setCell_alloc cell_ext frozen_ext cell_setRow frozen_setRow
attribute [local go_sem ↓] TItem_ld0 TItem_st0 TItem_fd0 TItem_bd0
attribute [local go_sem] TItem_size TItem_one TItem_piece TItem_c0 TItem_c1 TItem_set_rep TItem_set_num TItem_ld TItem_st TItem_f_rep TItem_f_num TItem_bd TItem_fl TItem_fl_rep TItem_fl_num
attribute [local go_sem high] TItem_eql TItem_neq
attribute [local go_sem ↓] TSpoke_ld0 TSpoke_st0 TSpoke_fd0 TSpoke_bd0
attribute [local go_sem] TSpoke_size TSpoke_one TSpoke_piece TSpoke_c0 TSpoke_c1 TSpoke_c2 TSpoke_c3 TSpoke_p_key TSpoke_put_key TSpoke_set_due TSpoke_set_turn TSpoke_ld TSpoke_st TSpoke_f_key TSpoke_f_due TSpoke_f_turn TSpoke_bd TSpoke_fl TSpoke_fl_key TSpoke_fl_due TSpoke_fl_turn
attribute [local go_sem high] TSpoke_eql TSpoke_neq
section
variable {w W : World} {F : Nat → Prop} {R : List Res}
theorem pcNewT (n self : Int) (T : Sts w F W R) :
    Calls Tryz.prog 13 #[.int .i64 n, .int .i64 self] W fun e W' => ∃ bp bw bt, e = .returned (.pointer (some ⟨bp, 0, none⟩)) ∧ Sts w F W' (pcR bp bw bt n self :: rowR bw #[.slice none 0 0, .int .i64 0] :: skR (.slice none 0 0) [] :: trR bt :: R) := by
  have HW : Calls Tryz.prog 33 #[] W fun e W' => e = .returned (.pointer (some ⟨W.heap.size, 0, none⟩)) ∧ Sts w F W' (rowR W.heap.size #[.slice none 0 0, .int .i64 0] :: R) := by
    have HT := Lib.hid (T.new #[.slice none 0 0, .int .i64 0] 166); clear T
    go_enter Tryz.func33, Tryz.ntmps33
    go_wp2
    go_ret
    exact ⟨rfl, HT.out⟩
  have HW := Lib.hid HW; clear T
  go_enter Tryz.func13, Tryz.ntmps13
  go_wp2_with fail
  refine HW.out.mono ?_
  clear HW
  rintro e w1 ⟨rfl, T⟩
  generalize W.heap.size = bw at *
  have T1 : Sts w F (w1.alloc (.map #[] 0)) (trR w1.heap.size :: _) := T.mapNew (k := 33)
  have T2 := T1.new #[.int .i64 n, .int .i64 self, .pointer (some ⟨bw, 0, none⟩), .map (some w1.heap.size)] 101
  rw [World.size_alloc] at T2
  have T3 := (T2.vecNil 184 4).ord [1, 3, 0, 2]
  have HT := Lib.hid T3; clear T T1 T2 T3
  go_wp2
  go_ret
  exact ⟨_, bw, _, rfl, HT.out⟩
theorem inewT (n : Int) (h1 : 1 ≤ n) (h7 : n ≤ 7) (T : Sts w F W R) :
    Calls Tryz.prog 64 #[.int .i64 n] W fun e W' => ∃ g, e = .returned (.pointer (some ⟨g, 0, none⟩)) ∧ Sts w F W' R := by
  have h2 : ¬ n < 0 := by omega
  have h3 : ¬ (7 : Int) < n := by omega
  have HT := Lib.hid T; clear T
  go_enter Tryz.func64, Tryz.ntmps64
  go_wp2
  go_ret
  exact ⟨⟨_, rfl⟩, HT.out.keep _⟩
theorem inewB (n : Int) (h1 : 1 ≤ n) (h7 : n ≤ 7) (T : Sts w F W R) :
    Calls Tryz.prog 65 #[.int .i64 n] W fun e W' => ∃ g, e = .returned (.pointer (some ⟨g, 0, none⟩)) ∧ Sts w F W' R := by
  have h2 : ¬ n < 0 := by omega
  have h3 : ¬ (7 : Int) < n := by omega
  have HT := Lib.hid T; clear T
  go_enter Tryz.func65, Tryz.ntmps65
  go_wp2
  go_ret
  exact ⟨⟨_, rfl⟩, HT.out.keep _⟩
/-- A run in which nothing is committed. -/
abbrev rnR (br gg : Nat) : Res := rowR br #[.pointer (some ⟨gg, 0, none⟩), .slice none 0 0, .slice none 0 0]
theorem rnNewT (n : Int) (h1 : 1 ≤ n) (h7 : n ≤ 7) (T : Sts w F W R) :
    Calls Tryz.prog 14 #[.int .i64 n] W fun e W' => ∃ br gg, e = .returned (.pointer (some ⟨br, 0, none⟩)) ∧ Sts w F W' (rnR br gg :: R) := by
  have HG : Calls Tryz.prog 34 #[.int .i64 n] W fun e W' => ∃ g, e = .returned (.pointer (some ⟨g, 0, none⟩)) ∧ Sts w F W' R := by
    have H1 := Lib.hid (inewT n h1 h7 T); clear T
    go_enter Tryz.func34, Tryz.ntmps34
    go_wp2_with fail
    refine H1.out.mono ?_
    clear H1
    rintro e w1 ⟨g1, rfl, T⟩
    have H1 := Lib.hid (inewB n h1 h7 T); clear T
    go_wp2_with fail
    refine H1.out.mono ?_
    clear H1
    rintro e w1 ⟨g2, rfl, T⟩
    have HT := Lib.hid T; clear T
    go_wp2
    go_ret
    exact ⟨_, rfl, HT.out.keep _⟩
  have HG := Lib.hid HG; clear T
  go_enter Tryz.func14, Tryz.ntmps14
  go_wp2_with fail
  refine HG.out.mono ?_
  clear HG
  rintro e w1 ⟨g1, rfl, T⟩
  have HT := Lib.hid T; clear T
  go_wp2
  go_ret
  exact ⟨_, g1, rfl, HT.out.new _ _⟩
theorem clNewT (T : Sts w F W R) :
    Calls Tryz.prog 15 #[] W fun e W' => ∃ g, e = .returned (.pointer (some ⟨g, 0, none⟩)) ∧ Sts w F W' R := by
  have HG : Calls Tryz.prog 35 #[] W fun e W' => ∃ g, e = .returned (.pointer (some ⟨g, 0, none⟩)) ∧ Sts w F W' R := by
    have HT := Lib.hid T; clear T
    go_enter Tryz.func35, Tryz.ntmps35
    go_wp2
    go_ret
    exact ⟨_, rfl, (HT.out.keep _).keep _⟩
  have HG := Lib.hid HG; clear T
  go_enter Tryz.func15, Tryz.ntmps15
  go_wp2_with fail
  refine HG.out.mono ?_
  clear HG
  rintro e w1 ⟨g1, rfl, T⟩
  have HT := Lib.hid T; clear T
  go_wp2
  go_ret
  exact ⟨_, rfl, (HT.out.keep _).keep _⟩
end
end Go.Proofs.YtomlilkobhkoiaaGreatDoor
/- Loops over iterators: what lies in memory abides the loop's own records. Nothing of the program stands here. -/
namespace Go.Proofs.YtomlilkobhkoiaaGreatDoor
open Go.RowKit Go.Shelf
set_option linter.unusedVariables false
/-- All blocks of a thing are cells. -/
def Res.plain (r : Res) : Prop := ∀ {F : Nat → Prop} {W : World}, r.sat F W → ∀ k, F k → ∃ o, W.heap[k]? = some o ∧ o.isCells = true
def plainL (L : List Res) : Prop := ∀ r ∈ L, r.plain
theorem rowR_plain (g : Nat) (X : Array Value) : (rowR g X).plain := fun hs k hk => by
  rw [(hs.1 k).1 hk]
  obtain ⟨t, ht⟩ := row_some hs.2
  exact ⟨_, ht, rfl⟩
theorem vecR_plain (e : TypeId) (size : Nat) (v : Value) (n : Nat) (xs : List Value) : (vecR e size v n xs).plain := fun hs k hk => by
  have := (hs.2 k).1 hk
  rcases hs.1.2 with ⟨rfl, hn⟩ | ⟨g, cap, cur, rfl, hb, hg, rest⟩
  · simp [Value.ownBlock] at this
  · simp [Value.ownBlock] at this; subst this; exact ⟨_, hg, rfl⟩
theorem Sat.plain : ∀ {L : List Res}, plainL L → ∀ {F : Nat → Prop} {W : World}, Sat W L F → ∀ k, F k → ∃ o, W.heap[k]? = some o ∧ o.isCells = true
  | [], _, _, _, h, k, hk => (h k hk).elim
  | r :: L, hp, F, W, ⟨A, B, ha, hb, hd, hf⟩, k, hk => by
    rcases (hf k).1 hk with h | h
    · exact hp r (by simp) ha k h
    · exact Sat.plain (fun s hs => hp s (by simp [hs])) hb k h
section
variable {w W W' : World} {F G : Nat → Prop} {L R L' : List Res} {r s t u : Res}
theorem Sts.grown' (h : Sts w F W L) (hp : plainL L) {row : Option Nat} (hg : W.grownBy W' row) (hr : ∀ r, row = some r → w.heap.size ≤ r ∧ ∃ o : Obj, W.heap[r]? = some o ∧ o.isCells = false) : Sts w F W' L := by
  obtain ⟨⟨G, hs, hG⟩, m⟩ := h
  have hpl := hs.plain hp
  refine ⟨⟨G, hs.stay fun k hk => hg.block k (hs.lt k hk) fun e => ?_, hG⟩, hg.os.trans m.os, hg.tape.trans m.tape, hg.output.trans m.output, Nat.le_trans m.size hg.size, fun k hk hn => (hg.block k (Nat.lt_of_lt_of_le hk m.size) fun e => ?_).trans (m.block k hk hn)⟩
  · obtain ⟨_, o, ho, hc⟩ := hr k e.symm
    obtain ⟨o', ho', hc'⟩ := hpl k hk
    rw [ho] at ho'; injection ho' with e2; subst e2; rw [hc] at hc'; cases hc'
  · have := (hr k e.symm).1; omega
/-- What a loop's round knows of memory abides the loop's records. -/
theorem Sts.own {β : Type} (w : World) (F : Nat → Prop) {B : Nat} (L : β → List Res) (hp : ∀ s, plainL (L s)) (hB : w.heap.size ≤ B) : OwnFrom B (fun s W => Sts w F W (L s)) := fun s W W' row hs hg hr =>
  hs.grown' (hp s) hg fun r e => ⟨Nat.le_trans hB (hr r e).1, (hr r e).2⟩
/-- What a round leaves. -/
theorem Sts.keepsFrom (hs : Sat W L G) (hp : plainL L) (h : Sts W G W' L') (B : Nat) : KeepsFrom B W W' :=
  ⟨h.2.size, fun k o _ hk ho => by
    have hlt : k < W.heap.size := (Array.getElem?_eq_some_iff.1 hk).1
    rw [h.2.block k hlt fun hg => ?_]
    · exact hk
    · obtain ⟨o', ho', hc'⟩ := hs.plain hp k hg
      rw [hk] at ho'; injection ho' with e; subst e; rw [ho] at hc'; cases hc'⟩
theorem Sts.below_putObj {l : Nat} {o : Obj} (h : Sts w F W L) (hp : plainL L) (o' : Obj) (hl : w.heap.size ≤ l) (ho : W.heap[l]? = some o) (hc : o.isCells = false) : Sts w F (W.putObj l o') L :=
  h.grown' hp (grownBy_putObj' W l o') fun r e => by cases e; exact ⟨hl, o, ho, hc⟩
end
section
variable {n : Nat} {P : Program} {fn : Func} {R : Ending → World → Prop} {a : Act} {w : World} {v : Value}
/-- A return ahead of every loop over an iterator. -/
theorem retM0 (hr : (results fn a.tmps).run P w = .ok v w) (hR : R (.returned v) w) (hd : a.defers = []) : bodyPostM Fence.wide n P fn R .ret a w := by
  show LeavesInM _ _ _ _ _ _ a.defers _ _
  rw [hd]
  exact ⟨v, hr, hR⟩
/-- A return behind one. -/
theorem retM1 {D : Nat} {ar : Array Value} (hK : w.heap[D]? = some (.deferred (some []))) (hr : (results fn a.tmps).run P (w.putObj D (.deferred none)) = .ok v (w.putObj D (.deferred none))) (hR : R (.returned v) (w.putObj D (.deferred none))) (hd : a.defers = [{ target := .collected D, args := ar }]) : bodyPostM Fence.wide n P fn R .ret a w := by
  show LeavesInM _ _ _ _ _ _ a.defers _ _
  rw [hd]
  exact ⟨by simp, .inl ⟨_, _, rfl, run_takeDeferred hK, v, hr, hR⟩⟩
end
section
variable {w W W' : World} {F G : Nat → Prop} {L R L' : List Res} {r s t u : Res}
theorem Sts.put {D : Nat} {ds : Option (List Deferred)} (h : Sts w F W L) (hp : plainL L) (hD : w.heap.size ≤ D) (hK : W.heap[D]? = some (.deferred ds)) (o : Obj) : Sts w F (W.putObj D o) L := h.below_putObj hp o hD hK rfl
/-- A round's own part. -/
theorem Sts.round (h : Sts w F W L) (hp : plainL L) : ∃ G, Sts W G W L ∧ ∀ {W' L'}, Sts W G W' L' → Sts w F W' L' ∧ ∀ B, KeepsFrom B W W' := by
  obtain ⟨G, hG, k⟩ := Sts.call (L := L) (R := []) (by simpa using h)
  exact ⟨G, Sts.start hG, fun {W' L'} hS => ⟨by simpa using k hS, fun B => Sts.keepsFrom hG hp hS B⟩⟩
end
end Go.Proofs.YtomlilkobhkoiaaGreatDoor
