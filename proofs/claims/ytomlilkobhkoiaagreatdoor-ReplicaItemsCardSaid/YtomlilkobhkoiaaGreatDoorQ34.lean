/- Several texts in one. -/
import Derived.Test.YtomlilkobhkoiaaGreatDoorQ33
import Derived.Test.YtomlilkobhkoiaaGreatDoorQ28
import Derived.Test.YtomlilkobhkoiaaGreatDoorQ31

namespace Go.Proofs.YtomlilkobhkoiaaGreatDoor
open Go.RowKit
attribute [local go_sem] row_alloc row_drew row_drewN row_ext row_setCell row_setRow size_ext setRow_alloc setRow_drew loadOf storeOf piece_lit DV_piece loadVal_at storeVal_at allOne_lit DV_size DV_one
attribute [local go_sem high] cell_alloc frozen_alloc setCell_alloc cell_ext frozen_ext
attribute [local go_sem ↓] index_deps0 load_deps0 store_deps0 slice_deps0
attribute [local go_sem] index_deps load_deps store_deps slice_deps2 slice_deps3 LV_size

def join2 (a d : Nat → Int) : Nat → Int := fun i => max (a i) (d i)
def joinL (l : List (Nat → Int)) : Nat → Int := l.foldl join2 (fun _ => 0)
def upTo (j : Nat) (a d : Nat → Int) : Nat → Int := fun i => if i < j then max (a i) (d i) else a i
theorem upTo_step (j : Nat) (a d : Nat → Int) : upd (upTo j a d) j (max (upTo j a d j) (d j)) = upTo (j + 1) a d := by
 funext i
 unfold upd upTo
 by_cases h : i = j
 ·subst h; simp
 ·rw [if_neg h]
  by_cases h2 : i < j
  ·rw [if_pos h2, if_pos (by omega)]
  ·rw [if_neg h2, if_neg (by omega)]
theorem ite_max (a b : Int) : (if a < b then b else a) = max a b := by
 split <;> omega
set_option maxHeartbeats 1000000 in
theorem join_any (l : List (Nat → Int)) (w : World) (g cap : Nat) (hl : l.length ≤ 1000000) (hg : row? w g = some (LV l)) :
  Calls Tryz.prog 207 #[.slice (some ⟨g, 0, none⟩) l.length cap] w fun e w' => e = .returned (.agg (DV (joinL l))) ∧ Below w.heap.size w w' := by
 have hlt := row_lt hg
 go_enter Tryz.func207, Tryz.ntmps207
 go_wp2
 go_loopw [10] (fun c wr => ∃ k : Nat, k ≤ l.length ∧ c = .int .i64 k ∧ row? wr w.heap.size = some (DV fun _ => 0) ∧ row? wr (w.heap.size + 1) = some (DV (joinL (l.take k))) ∧ Below w.heap.size w wr ∧ w.heap.size + 2 ≤ wr.heap.size) (fun c _ => l.length - (intOf c).toNat)
 case atStart =>
  refine ⟨0, by omega, rfl, ?_, ?_, ((Below.refl _ _).alloc (Nat.le_refl _) _).alloc (by simp) _, by simp⟩
  ·rw [row_alloc, if_neg (by simp), row_alloc, if_pos rfl]; rfl
  ·rw [row_alloc, if_pos (by simp)]; rfl
 case round =>
  obtain ⟨k, hk, rfl, h2, h3, hb, hz⟩ := hrel
  by_cases hkl : k < l.length
  ·have hgr : row? wr g = some (LV l) := (row_below hb hlt).trans hg
   have hex := LV_piece l k hkl
   have hacc : joinL (l.take (k + 1)) = join2 (joinL (l.take k)) l[k] := by
    unfold joinL; rw [List.take_succ_eq_append_getElem hkl, List.foldl_append]; rfl
   have Hacc := Lib.hid hacc; clear hacc
   generalize l[k] = d at *
   generalize joinL (l.take k) = acc at *
   go_wp2
   obtain ⟨wo, rfl⟩ : ∃ wo : World, wo = wr := ⟨_, rfl⟩
   go_loopw [15] (fun c wi => ∃ j : Nat, j ≤ 7 ∧ c = .int .i64 j ∧ row? wi w.heap.size = some (DV fun _ => 0) ∧ row? wi (w.heap.size + 1) = some (DV (upTo j acc d)) ∧ Below w.heap.size w wi ∧ w.heap.size + 2 ≤ wi.heap.size) (fun c _ => 7 - (intOf c).toNat)
   case atStart =>
    refine ⟨0, by omega, rfl, ?_, ?_, hb.alloc (by omega) _, by simp; omega⟩
    ·rw [row_alloc, if_neg (by omega)]; exact h2
    ·rw [row_alloc, if_neg (by omega), h3]
     congr 2
   case round =>
    clear h2 h3 hb hz hgr hex
    obtain ⟨j, hj, rfl, h2, h3, hb, hz⟩ := hrel
    by_cases hj7 : j < 7
    ·have hD1 := DV_get (upTo j acc d) j hj7
     have hD2 := DV_get d j hj7
     have hcell := row_cell h3
     have hfro := row_frozen h3
     have hst := upTo_step j acc d
     have Hst := Lib.hid hst; clear hst
     have H2 := Lib.hid h2; clear h2
     have H3 := Lib.hid h3; clear h3
     go_wp2
     go_roundw
     case rel =>
      refine ⟨j + 1, by omega, by go_num, ?_, ?_, hb.setCell (by simp) _, by simpa [World.setCell] using hz⟩
      ·rw [row_setCell, if_neg (by omega)]; exact H2.out
      ·rw [row_setCell, if_pos rfl, H3.out, ite_max]
       show some ((DV (upTo j acc d)).setIfInBounds j _) = _
       rw [DV_set, Hst.out]
     case measure => simp [intOf]; omega
    ·obtain rfl : j = 7 := by omega
     have H2 := Lib.hid h2; clear h2
     have H3 := Lib.hid h3; clear h3
     go_wp2
     go_roundw
     case rel =>
      refine ⟨k + 1, by omega, by go_num, H2.out, ?_, hb, hz⟩
      rw [H3.out, Hacc.out]
      exact congrArg some (DV_congr fun i hi => by unfold upTo join2; rw [if_pos hi])
     case measure => simp [intOf]; omega
  ·obtain rfl : k = l.length := by omega
   rw [List.take_length] at h3
   go_wp2
   refine ret_deps (joinL l) rfl rfl rfl ?_ ⟨rfl, below_setRow _ _ _ hb (Nat.le_refl _)⟩
   rw [row_setRow, if_pos rfl, h2]; rfl
/-- the document's Join -/
def rjoin (a b : Nat → Int) : Nat → Int := fun i => max (max 0 (a i)) (b i)
end Go.Proofs.YtomlilkobhkoiaaGreatDoor
/- Layers 13, 15, plain: how what is known of an item goes on; what one answers. No walk stands here. -/
namespace Go.Proofs.YtomlilkobhkoiaaGreatDoor
open Go.RowKit
set_option linter.unusedVariables false
attribute [local instance 10] Classical.propDecidable
def backM (m : Msg) (k : Int) : Msg := ⟨k, m.to, m.frm, m.item, m.bal, noBallot, 0, false, noCall⟩
def promM (i : Inst) (b : Ballot) : Inst × Bool := if lessBal b i.prom = true then (i, false) else (⟨b, i.vote, i.status, i.call, i.same⟩, true)
noncomputable def votedB (i : Inst) (b : Ballot) (st : Int) : Bool := eqA (BV i.vote) (BV b) && decide (i.status ≥ st)
noncomputable def voteM (i : Inst) (b : Ballot) (st : Int) (c : Call) (same : Bool) : Inst × Bool :=
 if lessBal b i.prom = true ∨ i.status = 3 then (i, false)
 else if votedB i b st = true then (⟨b, i.vote, i.status, i.call, i.same⟩, i.status == st)
 else (⟨b, b, st, c, same⟩, true)
def commitM (i : Inst) (c : Call) : Inst × Bool := if i.status = 3 then (i, false) else (⟨i.prom, i.vote, 3, c, false⟩, true)
def mergeC (c : Call) (w : WayR) : Call := ⟨c.deed, rjoin (rjoin c.deps c.deps) w.out, maxI c.seq w.seq⟩
structure AnsM where
 out : Msg
 ok : Bool
 now : Inst
def noAns (i : Inst) : AnsM := ⟨noMsg, false, i⟩
def refM (x : Msg) (i : Inst) : AnsM := if lessBal x.bal i.prom = true then ⟨⟨8, x.to, x.frm, x.item, i.prom, noBallot, 0, false, noCall⟩, true, i⟩ else noAns i
noncomputable def sameC (c : Call) (x : Msg) : Bool := eqA (CV c) (CV x.call) && eqA (BV x.bal) (BV ⟨0, x.item.rep⟩)
noncomputable def preM (m : RowsM) (x : Msg) (i : Inst) : AnsM :=
 if (voteM i x.bal 1 (mergeC x.call (wayK m x.call.deed x.item)) (sameC (mergeC x.call (wayK m x.call.deed x.item)) x)).2 = true then
  ⟨⟨2, x.to, x.frm, x.item, x.bal, noBallot, 0, (voteM i x.bal 1 (mergeC x.call (wayK m x.call.deed x.item)) (sameC (mergeC x.call (wayK m x.call.deed x.item)) x)).1.same, (voteM i x.bal 1 (mergeC x.call (wayK m x.call.deed x.item)) (sameC (mergeC x.call (wayK m x.call.deed x.item)) x)).1.call⟩, true, (voteM i x.bal 1 (mergeC x.call (wayK m x.call.deed x.item)) (sameC (mergeC x.call (wayK m x.call.deed x.item)) x)).1⟩
 else refM x i
noncomputable def accM (x : Msg) (i : Inst) : AnsM :=
 if (voteM i x.bal 2 x.call false).2 = true then ⟨backM x 4, true, (voteM i x.bal 2 x.call false).1⟩ else refM x i
def prmM (x : Msg) (i : Inst) : AnsM :=
 if (promM i x.bal).2 = true then ⟨⟨7, x.to, x.frm, x.item, x.bal, (promM i x.bal).1.vote, (promM i x.bal).1.status, (promM i x.bal).1.same, (promM i x.bal).1.call⟩, true, (promM i x.bal).1⟩ else refM x i
noncomputable def atM (m : RowsM) (x : Item) : Inst := (getM m x).getD noInst
noncomputable def ansM (m : RowsM) (self : Int) (x : Msg) : AnsM :=
 if x.to ≠ self ∨ goodM x m.n = false then noAns (atM m x.item)
 else if (x.kind = 1 ∨ x.kind = 3 ∨ x.kind = 6) ∧ (atM m x.item).status = 3 then ⟨⟨5, x.to, x.frm, x.item, x.bal, noBallot, 0, false, (atM m x.item).call⟩, true, atM m x.item⟩
 else if x.kind = 1 then preM m x (atM m x.item)
 else if x.kind = 3 then accM x (atM m x.item)
 else if x.kind = 6 then prmM x (atM m x.item)
 else if x.kind = 5 then ⟨noMsg, false, (commitM (atM m x.item) x.call).1⟩
 else noAns (atM m x.item)
/-- What is known, once something of an item is. -/
noncomputable def nowR (m : RowsM) (x : Item) (i : Inst) : RowsM := if eqA (NV (atM m x)) (NV i) = true then m else setM m x i
noncomputable def afterM (m : RowsM) (self : Int) (x : Msg) : RowsM := nowR m x.item (ansM m self x).now
/-! what can be stays so -/
theorem goodN_iff {i : Inst} {n : Int} : goodN i n = true ↔ goodBal i.prom n = true ∧ goodBal i.vote n = true ∧ (0 ≤ i.status ∧ i.status ≤ 3) ∧ goodC i.call n = true ∧ (i.status ≠ 0 ∨ (eqA (BV i.vote) (BV noBallot) = true ∧ eqA (CV i.call) (CV noCall) = true ∧ i.same = false)) := by
 unfold goodN
 by_cases h : i.status = 0
 ·rw [bare_eq i h]
  simp [h, and_assoc]
 ·simp [h, and_assoc]
theorem goodN_prom {i : Inst} {n : Int} {b : Ballot} (h : goodN i n = true) (hb : goodBal b n = true) : goodN ⟨b, i.vote, i.status, i.call, i.same⟩ n = true := by
 rw [goodN_iff] at h ⊢
 exact ⟨hb, h.2⟩
theorem goodN_new {n st : Int} {b p : Ballot} {c : Call} {same : Bool} (hp : goodBal p n = true) (hb : goodBal b n = true) (hs : 1 ≤ st ∧ st ≤ 3) (hc : goodC c n = true) : goodN ⟨p, b, st, c, same⟩ n = true := by
 rw [goodN_iff]
 exact ⟨hp, hb, by simp only; omega, hc, .inl (by simp only; omega)⟩
theorem goodN_no {n : Int} (h : 1 ≤ n) : goodN noInst n = true := by
 rw [goodN_iff]
 refine ⟨?_, ?_, by decide, ?_, .inr ⟨eqA_refl _, eqA_refl _, rfl⟩⟩
 ·unfold goodBal noInst noBallot; simp; omega
 ·unfold goodBal noInst noBallot; simp; omega
 ·show goodC noCall n = true
  unfold goodC
  have h1 : goodB noCall.deed = true := by decide
  have h2 : goodD noCall.deps n = true := goodD_yes fun i hi => ⟨Int.le_refl 0, (by decide : (0 : Int) ≤ 64), fun _ => rfl⟩
  rw [h1, h2]; decide
theorem goodC_iff {c : Call} {n : Int} : goodC c n = true ↔ goodB c.deed = true ∧ goodD c.deps n = true ∧ 0 ≤ c.seq ∧ c.seq ≤ 1099511627776 := by
 unfold goodC; simp [and_assoc]
theorem goodD_iff {d : Nat → Int} {n : Int} : goodD d n = true ↔ ∀ i, i < 7 → 0 ≤ d i ∧ d i ≤ 64 ∧ (n ≤ i → d i = 0) := by
 constructor
 ·intro h i hi
  by_cases hg : 0 ≤ d i ∧ d i ≤ 64 ∧ (n ≤ i → d i = 0)
  ·exact hg
  ·have := goodD_no (n := n) i hi hg
   rw [h] at this; cases this
 ·exact goodD_yes
theorem wayK_in {m : RowsM} (hm : RowsOk m) (hg : RowsGood m) (d : Deed) (but : Item) : (∀ i : Nat, 0 ≤ (wayK m d but).out i ∧ (wayK m d but).out i ≤ 64 ∧ (m.n ≤ i → (wayK m d but).out i = 0)) ∧ 0 ≤ (wayK m d but).seq ∧ (wayK m d but).seq ≤ 1099511627776 := by
 have hin : ∀ y ∈ (ents m).map Prod.fst, 0 ≤ y.rep ∧ y.rep < m.n ∧ 1 ≤ y.num ∧ y.num ≤ 64 := fun y hy => by
  have h1 := (ents_key hm y).1 hy
  cases hq : getM m y with
  | none => rw [hq] at h1; cases h1
  | some t =>
   have := getM_good hq
   unfold goodI at this
   rw [decide_eq_true_iff] at this
   omega
 refine ⟨fun i => ⟨mx_nonneg _ _, mx_le (by omega) fun y hy => ?_, fun hi => ?_⟩, mx_nonneg _ _, mx_le (by omega) fun y hy => ?_⟩
 ·have := hin y hy
  unfold outG; split <;> omega
 ·have h0 : 0 ≤ (wayK m d but).out i := mx_nonneg _ _
  have h1 : (wayK m d but).out i ≤ 0 := mx_le (by omega) fun y hy => by
   have := hin y hy
   unfold outG; split <;> omega
  omega
 ·unfold seqG lowI
  (repeat' split) <;> omega
theorem goodC_merge {m : RowsM} (hm : RowsOk m) (hg : RowsGood m) {c : Call} (hc : goodC c m.n = true) (d : Deed) (but : Item) : goodC (mergeC c (wayK m d but)) m.n = true := by
 obtain ⟨h1, h2, h3, h4⟩ := goodC_iff.1 hc
 rw [goodD_iff] at h2
 obtain ⟨w1, w2, w3⟩ := wayK_in hm hg d but
 refine goodC_iff.2 ⟨h1, goodD_iff.2 fun i hi => ?_, ?_, ?_⟩
 ·have a := h2 i hi; have b := w1 i
  show 0 ≤ rjoin (rjoin c.deps c.deps) _ i ∧ _ ∧ _
  unfold mergeC rjoin
  dsimp only
  refine ⟨by omega, by omega, fun hn => ?_⟩
  have a1 := a.2.2 hn; have b1 := b.2.2 hn
  omega
 ·unfold mergeC maxI; dsimp only; split <;> omega
 ·unfold mergeC maxI; dsimp only; split <;> omega
theorem atM_good {m : RowsM} (hg : RowsGood m) (hn : 1 ≤ m.n) (x : Item) : goodN (atM m x) m.n = true := by
 unfold atM
 cases h : getM m x with
 | none => exact goodN_no hn
 | some t => exact hg _ _ h
theorem goodM_in {x : Msg} {n : Int} (h : goodM x n = true) : goodI x.item n = true ∧ goodBal x.bal n = true ∧ (callsB x.kind = true → goodC x.call n = true) ∧ (1 ≤ x.kind ∧ x.kind ≤ 8 ∧ 0 ≤ x.frm ∧ x.frm < n ∧ 0 ≤ x.to ∧ x.to < n) := by
 unfold goodM at h
 simp only [Bool.and_eq_true] at h
 obtain ⟨⟨⟨⟨⟨⟨h1, h2⟩, h3⟩, h4⟩, -⟩, -⟩, -⟩ := h
 refine ⟨h2, h3, fun hc => ?_, of_decide_eq_true h1⟩
 rw [if_pos hc] at h4
 exact h4
theorem promM_good {i : Inst} {n : Int} {b : Ballot} (h : goodN i n = true) (hb : goodBal b n = true) : goodN (promM i b).1 n = true := by
 unfold promM
 split
 ·exact h
 ·exact goodN_prom h hb
theorem voteM_good {i : Inst} {n st : Int} {b : Ballot} {c : Call} {same : Bool} (h : goodN i n = true) (hb : goodBal b n = true) (hs : 1 ≤ st ∧ st ≤ 3) (hc : goodC c n = true) : goodN (voteM i b st c same).1 n = true := by
 unfold voteM
 split
 ·exact h
 ·split
  ·exact goodN_prom h hb
  ·exact goodN_new hb hb hs hc
theorem commitM_good {i : Inst} {n : Int} {c : Call} (h : goodN i n = true) (hc : goodC c n = true) : goodN (commitM i c).1 n = true := by
 unfold commitM
 split
 ·exact h
 ·have := goodN_iff.1 h
  exact goodN_new this.1 this.2.1 (by omega) hc
theorem refM_now (x : Msg) (i : Inst) : (refM x i).now = i := by unfold refM noAns; split <;> rfl
/-- A space of one that answers, behind so many messages. -/
structure VotI (n : Int) (k : Nat) (I : Idx) (D : List UInt8) (m : RowsM) : Prop where
 sp : SpI n k I D m
 room : D.length ≤ 310 * k
 pos : 1 ≤ n
/-- What is known goes on: there is room. -/
theorem VotI.know {n : Int} {k : Nat} {I : Idx} {D : List UInt8} {m : RowsM} (h : VotI n k I D m) (hk : k ≤ 100) (safe : Nat) {x : Item} {i : Inst} (hx : goodI x n = true) (hi : goodN i n = true) :
  (addM D safe m x i).2.2.2 = 0 ∧ (addM D safe m x i).2.2.1 = setM m x i ∧ VotI n (k + 1) (knowI I D safe m x i) (addM D safe m x i).1 (setM m x i) := by
 have hs := h.sp.know (by omega) safe x i
 have hr := h.room
 have hmn := h.sp.mn
 obtain ⟨e1, e2⟩ := add_easy (D := D) (safe := safe) (m := m) (x := x) (i := i) (by rw [hmn]; exact hx) (by rw [hmn]; exact hi) h.sp.ok.n.2 (by omega)
 have e3 : (addM D safe m x i).2.2.1 = setM m x i := by rw [e1]
 rw [e3] at hs
 refine ⟨by rw [e1], e3, hs, ?_, h.pos⟩
 rw [e1]; dsimp only
 rw [List.length_append]; omega
theorem VotI.mono {n : Int} {k : Nat} {I : Idx} {D : List UInt8} {m : RowsM} (h : VotI n k I D m) : VotI n (k + 1) I D m := ⟨h.sp.mono (Nat.le_succ _), by have := h.room; omega, h.pos⟩
end Go.Proofs.YtomlilkobhkoiaaGreatDoor
/- Layer 13: how what is known of an item goes on. -/
namespace Go.Proofs.YtomlilkobhkoiaaGreatDoor
open Go.RowKit
set_option linter.unusedVariables false
set_option maxRecDepth 20000
attribute [local go_sem] row_alloc row_drew row_drewN row_ext row_setCell row_setRow size_ext setRow_alloc setRow_drew loadOf storeOf piece_lit loadVal_at storeVal_at allOne_lit buildOf buildRes_some
attribute [local go_sem high] cell_alloc frozen_alloc setCell_alloc cell_ext frozen_ext cell_setRow frozen_setRow
attribute [local go_sem ↓] TDeed_ld0 TDeed_st0 TDeed_fd0 TDeed_bd0
attribute [local go_sem] TDeed_size TDeed_one TDeed_piece TDeed_c0 TDeed_c1 TDeed_c2 TDeed_c3 TDeed_c4 TDeed_c5 TDeed_set_kind TDeed_set_key TDeed_set_val TDeed_set_ver TDeed_set_ses TDeed_set_num TDeed_ld TDeed_st TDeed_f_kind TDeed_f_key TDeed_f_val TDeed_f_ver TDeed_f_ses TDeed_f_num TDeed_bd TDeed_fl TDeed_fl_kind TDeed_fl_key TDeed_fl_val TDeed_fl_ver TDeed_fl_ses TDeed_fl_num
attribute [local go_sem high] TDeed_eql TDeed_neq
attribute [local go_sem ↓] index_deps0 load_deps0 store_deps0
attribute [local go_sem] DV_piece DV_size DV_one index_deps load_deps store_deps
attribute [local go_sem high] TDeps_eql TDeps_neq
attribute [local go_sem ↓] TCall_ld0 TCall_st0 TCall_fd0 TCall_bd0
attribute [local go_sem] TCall_size TCall_one TCall_piece TCall_c0 TCall_c1 TCall_c2 TCall_c3 TCall_c4 TCall_c5 TCall_c6 TCall_c7 TCall_c8 TCall_c9 TCall_c10 TCall_c11 TCall_c12 TCall_c13 TCall_p_deed TCall_put_deed TCall_p_deps TCall_put_deps TCall_set_seq TCall_ld TCall_st TCall_f_deed TCall_f_deps TCall_f_seq TCall_bd TCall_fl TCall_fl_deed TCall_fl_deps TCall_fl_seq
attribute [local go_sem high] TCall_eql TCall_neq
attribute [local go_sem ↓] TItem_ld0 TItem_st0 TItem_fd0 TItem_bd0
attribute [local go_sem] TItem_size TItem_one TItem_piece TItem_c0 TItem_c1 TItem_set_rep TItem_set_num TItem_ld TItem_st TItem_f_rep TItem_f_num TItem_bd TItem_fl TItem_fl_rep TItem_fl_num
attribute [local go_sem high] TItem_eql TItem_neq
attribute [local go_sem ↓] TBallot_ld0 TBallot_st0 TBallot_fd0 TBallot_bd0
attribute [local go_sem] TBallot_size TBallot_one TBallot_piece TBallot_c0 TBallot_c1 TBallot_set_round TBallot_set_rep TBallot_ld TBallot_st TBallot_f_round TBallot_f_rep TBallot_bd TBallot_fl TBallot_fl_round TBallot_fl_rep
attribute [local go_sem high] TBallot_eql TBallot_neq
attribute [local go_sem ↓] TInst_ld0 TInst_st0 TInst_fd0 TInst_bd0
attribute [local go_sem] TInst_size TInst_one TInst_piece TInst_c0 TInst_c1 TInst_c2 TInst_c3 TInst_c4 TInst_c5 TInst_c6 TInst_c7 TInst_c8 TInst_c9 TInst_c10 TInst_c11 TInst_c12 TInst_c13 TInst_c14 TInst_c15 TInst_c16 TInst_c17 TInst_c18 TInst_c19 TInst_p_prom TInst_put_prom TInst_p_vote TInst_put_vote TInst_set_status TInst_p_call TInst_put_call TInst_set_same TInst_ld TInst_st TInst_f_prom TInst_f_vote TInst_f_status TInst_f_call TInst_f_same TInst_bd TInst_fl TInst_fl_prom TInst_fl_vote TInst_fl_status TInst_fl_call TInst_fl_same
attribute [local go_sem high] TInst_eql TInst_neq
set_option maxHeartbeats 4000000 in
theorem lprom_any (i : Inst) (b : Ballot) : Ans Tryz.prog 187 #[.agg (NV i), .agg (BV b)] (.tuple #[.agg (NV (promM i b).1), .bool (promM i b).2]) := by
 refine Ans.of_sts fun W => ?_
 have T := (((Sts.start0 W).new (NV i) 70).new (BV b) 64).new (NV noInst) 70
 simp only [World.size_alloc] at T
 have HL := Lib.hid (Ans.at (less_any b i.prom) T)
 clear T
 go_enter Tryz.func187, Tryz.ntmps187
 go_wp2_with fail
 refine HL.out.mono ?_
 clear HL
 rintro e w1 ⟨rfl, T⟩
 generalize W.heap.size + 1 + 1 = g4 at *
 generalize W.heap.size + 1 = g3 at *
 generalize W.heap.size = g2 at *
 have r4 := T.row; have l4 := row_lt r4
 have r3 := T.row1; have l3 := row_lt r3
 have r2 := T.row2; have l2 := row_lt r2
 have n1 := (T.ord [0, 2, 1]).rowsNe
 have n2 := (T.ord [2, 0, 1]).rowsNe
 have n3 := T.drop.rowsNe
 cases h : lessBal b i.prom
 case true =>
  have e : promM i b = (i, false) := if_pos h
  have E := Lib.hid e
  have T2 := T.setRow (NV i)
  have HT := Lib.hid T2; clear T T2 e h
  go_wp2
  refine ret_row_tmp (NV i) (.bool false) TInst_und rfl (by kernel_rfl) rfl rfl rfl rfl (TInst_size _) HT.out.row ⟨by rw [E.out], HT.out.drop.drop.drop⟩
 case false =>
  have e : promM i b = (⟨b, i.vote, i.status, i.call, i.same⟩, true) := if_neg (by simp [h])
  have E := Lib.hid e
  have T2 := ((T.ord [2, 0, 1]).setRow (NV ⟨b, i.vote, i.status, i.call, i.same⟩)).ord [1, 0, 2]
  have T3 := T2.setRow (NV ⟨b, i.vote, i.status, i.call, i.same⟩)
  have HT := Lib.hid T3; clear T T2 T3 e h
  go_wp2
  refine ret_row_tmp (NV ⟨b, i.vote, i.status, i.call, i.same⟩) (.bool true) TInst_und rfl (by kernel_rfl) rfl rfl rfl rfl (TInst_size _) HT.out.row ⟨by rw [E.out], HT.out.drop.drop.drop⟩
set_option maxHeartbeats 4000000 in
theorem lvoted_any (i : Inst) (b : Ballot) (st : Int) : Ans Tryz.prog 221 #[.agg (NV i), .agg (BV b), .int .i64 st] (.bool (votedB i b st)) := by
 refine Ans.of_sts fun W => ?_
 have T := ((Sts.start0 W).new (NV i) 70).new (BV b) 64
 simp only [World.size_alloc] at T
 have r1 := T.row; have l1 := row_lt r1
 have r2 := T.row1; have l2 := row_lt r2; have c2 := row_cell r2 4
 have HT := Lib.hid T.drop.drop; clear T
 have e : votedB i b st = (eqA (BV i.vote) (BV b) && decide (i.status ≥ st)) := rfl
 have E := Lib.hid e; clear e
 cases h1 : eqA (BV i.vote) (BV b)
 case false =>
  go_enter Tryz.func221, Tryz.ntmps221
  go_wp2
  go_ret
  exact ⟨by rw [E.out, h1]; rfl, HT.out⟩
 case true =>
  go_enter Tryz.func221, Tryz.ntmps221
  go_wp2
  go_ret
  exact ⟨by rw [E.out, h1]; rfl, HT.out⟩
set_option maxHeartbeats 8000000 in
theorem lvote_any (i : Inst) (b : Ballot) (st : Int) (c : Call) (same : Bool) : Ans Tryz.prog 208 #[.agg (NV i), .agg (BV b), .int .i64 st, .agg (CV c), .bool same] (.tuple #[.agg (NV (voteM i b st c same).1), .bool (voteM i b st c same).2]) := by
 refine Ans.of_sts fun W => ?_
 have T := ((((Sts.start0 W).new (NV i) 70).new (BV b) 64).new (CV c) 68).new (NV noInst) 70
 simp only [World.size_alloc] at T
 have r5 := (T.ord [3, 0, 1, 2]).row; have l5 := row_lt r5; have r6 := T.row2; have l6 := row_lt r6
 have HL := Lib.hid (Ans.at (lprom_any i b) T)
 clear T
 go_enter Tryz.func208, Tryz.ntmps208
 go_wp2_with fail
 refine HL.out.mono ?_
 clear HL r5 l5 r6 l6
 rintro e w1 ⟨rfl, T⟩
 generalize W.heap.size + 1 + 1 + 1 = g10 at *
 generalize W.heap.size + 1 + 1 = g8 at *
 generalize W.heap.size + 1 = g6 at *
 generalize W.heap.size = g5 at *
 have e0 : voteM i b st c same = if lessBal b i.prom = true ∨ i.status = 3 then (i, false) else if votedB i b st = true then (⟨b, i.vote, i.status, i.call, i.same⟩, i.status == st) else (⟨b, b, st, c, same⟩, true) := rfl
 have p0 : promM i b = if lessBal b i.prom = true then (i, false) else (⟨b, i.vote, i.status, i.call, i.same⟩, true) := rfl
 have r5 := (T.ord [3, 0, 1, 2]).row; have l5 := row_lt r5; have c5 := row_cell r5 4
 have r10 := T.row; have l10 := row_lt r10
 have r6 := T.row2; have l6 := row_lt r6
 have n1 := (T.ord [0, 3, 1, 2]).rowsNe
 cases h : lessBal b i.prom
 case true =>
  rw [h, if_pos rfl] at p0
  rw [h, if_pos (.inl rfl)] at e0
  rw [p0]
  have T2 := ((T.setRow (NV i)).new (NV i) 70).ord [1, 0, 2, 3, 4]
  have HT := Lib.hid T2; have E := Lib.hid e0; clear T T2 e0 p0 h
  go_wp2
  refine ret_row_tmp (NV i) (.bool false) TInst_und rfl (by kernel_rfl) rfl rfl rfl rfl (TInst_size _) HT.out.row ⟨by rw [E.out], HT.out.nil⟩
 case false =>
  rw [h, if_neg (by simp)] at p0
  rw [p0]
  clear p0
  cases h3 : (i.status == 3)
  case true =>
   rw [h, if_pos (.inr (by simpa using h3))] at e0
   have T2 := ((T.setRow (NV i)).new (NV ⟨b, i.vote, i.status, i.call, i.same⟩) 70).ord [1, 0, 2, 3, 4]
   have HT := Lib.hid T2; have E := Lib.hid e0; clear T T2 e0 h
   go_wp2
   refine ret_row_tmp (NV i) (.bool false) TInst_und rfl (by kernel_rfl) rfl rfl rfl rfl (TInst_size _) HT.out.row ⟨by rw [E.out], HT.out.nil⟩
  case false =>
   rw [h, if_neg (by simp only [Bool.false_eq_true, false_or]; simpa using h3)] at e0
   have T := T.new (NV ⟨b, i.vote, i.status, i.call, i.same⟩) 70
   have HV := Lib.hid (Ans.at (lvoted_any i b st) T)
   have E := Lib.hid e0; clear T e0 h
   go_wp2_with fail
   refine HV.out.mono ?_
   clear HV r5 l5 c5 r10 l10 r6 l6 n1
   generalize w1.heap.size = g12 at *
   rintro e w2 ⟨rfl, T⟩
   have e0 := E.out
   clear E
   have r5 := (T.ord [4, 0, 1, 2, 3]).row; have l5 := row_lt r5; have c5 := row_cell r5 4
   have r10 := T.row1; have l10 := row_lt r10
   have r12 := T.row; have l12 := row_lt r12
   have n1 := (T.ord [1, 4, 0, 2, 3]).rowsNe
   have n2 := (T.ord [1, 0, 2, 3, 4]).rowsNe
   cases hv : votedB i b st
   case true =>
    rw [hv, if_pos rfl] at e0
    have E := Lib.hid e0
    have T2 := (T.ord [1, 0, 2, 3, 4]).setRow (NV ⟨b, i.vote, i.status, i.call, i.same⟩)
    have HT := Lib.hid T2.drew; clear T T2 e0 hv
    go_wp2_with fail
    go_region
    go_wp2
    refine ret_row_tmp (NV ⟨b, i.vote, i.status, i.call, i.same⟩) (.bool (i.status == st)) TInst_und rfl (by kernel_rfl) rfl rfl rfl rfl (TInst_size _) HT.out.row ⟨by rw [E.out], HT.out.nil⟩
   case false =>
    rw [hv, if_neg (by simp)] at e0
    have E := Lib.hid e0
    have r6 := (T.ord [3, 0, 1, 2, 4]).row; have l6 := row_lt r6
    have r8 := (T.ord [2, 0, 1, 3, 4]).row; have l8 := row_lt r8
    clear r5 l5 c5 n1 e0 hv h3 r10 l10
    have HT := Lib.hid T; clear T
    have f4 := row_frozen r12 4; have c4 := row_cell r12 4; have f19 := row_frozen r12 19; have c19 := row_cell r12 19
    have k8 := (HT.out.ord [0, 2, 1, 3, 4]).rowsNe; have k8' : ¬ g8 = g12 := fun e => k8 e.symm
    have k6 := (HT.out.ord [0, 3, 1, 2, 4]).rowsNe; have k6' : ¬ g6 = g12 := fun e => k6 e.symm
    have Ta := HT.out.setRow (NV ⟨b, b, i.status, i.call, i.same⟩)
    have ra := Ta.row; have la := row_lt ra; have fa := row_frozen ra 4; have ca := row_cell ra 4
    have Tb := Ta.setCell 4 (.int .i64 st)
    have Tb : Sts W (fun _ => False) _ (rowR g12 (NV ⟨b, b, st, i.call, i.same⟩) :: rowR g10 (NV noInst) :: rowR g8 (CV c) :: rowR g6 (BV b) :: rowR g5 (NV i) :: []) := Tb
    have rb := Tb.row; have lb := row_lt rb
    have Tc := Tb.setRow (NV ⟨b, b, st, c, i.same⟩)
    have rc := Tc.row; have lc := row_lt rc; have fc := row_frozen rc 19; have cc := row_cell rc 19
    have Td := Tc.setCell 19 (.bool same)
    have Td : Sts W (fun _ => False) _ (rowR g12 (NV ⟨b, b, st, c, same⟩) :: rowR g10 (NV noInst) :: rowR g8 (CV c) :: rowR g6 (BV b) :: rowR g5 (NV i) :: []) := Td
    have HTd := Lib.hid Td
    clear Ta Tb Tc Td
    go_upto_region 6 with fail
    go_region
    go_upto_region 7 with fail
    refine (fun (key : ∀ w5, Sts W (fun _ => False) w5 (rowR g12 (NV ⟨b, b, st, c, same⟩) :: rowR g10 (NV noInst) :: rowR g8 (CV c) :: rowR g6 (BV b) :: rowR g5 (NV i) :: []) → Code.wp _ _ _ _ w5) => key _ HTd.out.drew) ?_
    clear HTd ra la fa ca rb lb rc lc fc cc k8 k8' k6 k6' f4 c4 f19 c19 r6 l6 r8 l8 r12 l12 n2 HT
    intro w5 T
    have r12 := T.row; have l12 := row_lt r12
    have r10 := T.row1; have l10 := row_lt r10
    have T2 := T.swap.setRow (NV ⟨b, b, st, c, same⟩)
    have HT := Lib.hid T2; clear T T2
    go_wp2
    refine ret_row_tmp (NV ⟨b, b, st, c, same⟩) (.bool true) TInst_und rfl (by kernel_rfl) rfl rfl rfl rfl (TInst_size _) HT.out.row ⟨by rw [E.out], HT.out.nil⟩
set_option maxHeartbeats 4000000 in
theorem lpre_any (i : Inst) (b : Ballot) (c : Call) (same : Bool) : Ans Tryz.prog 184 #[.agg (NV i), .agg (BV b), .agg (CV c), .bool same] (.tuple #[.agg (NV (voteM i b 1 c same).1), .bool (voteM i b 1 c same).2]) := by
 refine Ans.of_sts fun W => ?_
 have T := ((((Sts.start0 W).new (NV i) 70).new (BV b) 64).new (CV c) 68).new (NV noInst) 70
 simp only [World.size_alloc] at T
 have HL := Lib.hid (Ans.at (lvote_any i b 1 c same) T)
 clear T
 generalize voteM i b 1 c same = q at *
 go_enter Tryz.func184, Tryz.ntmps184
 go_wp2_with fail
 refine HL.out.mono ?_
 clear HL
 rintro e w1 ⟨rfl, T⟩
 have r10 := T.row; have l10 := row_lt r10
 have HT := Lib.hid (T.setRow (NV q.1)); clear T
 go_wp2
 refine ret_row_tmp (NV q.1) (.bool q.2) TInst_und rfl (by kernel_rfl) rfl rfl rfl rfl (TInst_size _) HT.out.row ⟨rfl, HT.out.nil⟩
set_option maxHeartbeats 4000000 in
theorem lacc_any (i : Inst) (b : Ballot) (c : Call) : Ans Tryz.prog 186 #[.agg (NV i), .agg (BV b), .agg (CV c)] (.tuple #[.agg (NV (voteM i b 2 c false).1), .bool (voteM i b 2 c false).2]) := by
 refine Ans.of_sts fun W => ?_
 have T := ((((Sts.start0 W).new (NV i) 70).new (BV b) 64).new (CV c) 68).new (NV noInst) 70
 simp only [World.size_alloc] at T
 have HL := Lib.hid (Ans.at (lvote_any i b 2 c false) T)
 clear T
 generalize voteM i b 2 c false = q at *
 go_enter Tryz.func186, Tryz.ntmps186
 go_wp2_with fail
 refine HL.out.mono ?_
 clear HL
 rintro e w1 ⟨rfl, T⟩
 have r10 := T.row; have l10 := row_lt r10
 have HT := Lib.hid (T.setRow (NV q.1)); clear T
 go_wp2
 refine ret_row_tmp (NV q.1) (.bool q.2) TInst_und rfl (by kernel_rfl) rfl rfl rfl rfl (TInst_size _) HT.out.row ⟨rfl, HT.out.nil⟩
set_option maxHeartbeats 4000000 in
theorem lcom_any (i : Inst) (c : Call) : Ans Tryz.prog 151 #[.agg (NV i), .agg (CV c)] (.tuple #[.agg (NV (commitM i c).1), .bool (commitM i c).2]) := by
 refine Ans.of_sts fun W => ?_
 have T := (((Sts.start0 W).new (NV i) 70).new (CV c) 68).new (NV noInst) 70
 simp only [World.size_alloc] at T
 have e0 : commitM i c = if i.status = 3 then (i, false) else (⟨i.prom, i.vote, 3, c, false⟩, true) := rfl
 cases h3 : (i.status == 3)
 case true =>
  rw [if_pos (by simpa using h3)] at e0
  have r2 := T.row2; have l2 := row_lt r2; have c2 := row_cell r2 4
  have T2 := (((Sts.start0 W).new (NV i) 70).new (CV c) 68).new (NV i) 70
  simp only [World.size_alloc] at T2
  have HT := Lib.hid T2; have E := Lib.hid e0; clear T T2 e0
  go_enter Tryz.func151, Tryz.ntmps151
  go_wp2
  refine ret_row_tmp (NV i) (.bool false) TInst_und rfl (by kernel_rfl) rfl rfl rfl rfl (TInst_size _) HT.out.row ⟨by rw [E.out], HT.out.nil⟩
 case false =>
  rw [if_neg (by simpa using h3)] at e0
  have E := Lib.hid e0; clear e0
  have HT := Lib.hid T; clear T
  go_enter Tryz.func151, Tryz.ntmps151
  go_upto_region 1 with fail
  refine (fun (key : ∀ w1, Sts W (fun _ => False) w1 (rowR (W.heap.size + 1 + 1) (NV noInst) :: rowR (W.heap.size + 1) (CV c) :: rowR W.heap.size (NV i) :: []) → Code.wp _ _ _ _ w1) => key _ HT.out) ?_
  clear HT
  intro w1 T
  generalize W.heap.size + 1 + 1 = g4 at *
  generalize W.heap.size + 1 = g3 at *
  generalize W.heap.size = g2 at *
  have HT := Lib.hid (T.ord [2, 0, 1]); clear T
  have r2 := HT.out.row; have l2 := row_lt r2; have f4 := row_frozen r2 4; have c4 := row_cell r2 4; have f19 := row_frozen r2 19; have c19 := row_cell r2 19
  have r3 := HT.out.row2; have l3 := row_lt r3
  have k3 := (HT.out.ord [0, 2, 1]).rowsNe; have k3' : ¬ g3 = g2 := fun e => k3 e.symm
  have Ta := HT.out.setCell 4 (.int .i64 3)
  have Ta : Sts W (fun _ => False) _ (rowR g2 (NV ⟨i.prom, i.vote, 3, i.call, i.same⟩) :: rowR g4 (NV noInst) :: rowR g3 (CV c) :: []) := Ta
  have ra := Ta.row; have la := row_lt ra
  have Tb := Ta.setRow (NV ⟨i.prom, i.vote, 3, c, i.same⟩)
  have rb := Tb.row; have lb := row_lt rb; have fb := row_frozen rb 19; have cb := row_cell rb 19
  have Tc := Tb.setCell 19 (.bool false)
  have Tc : Sts W (fun _ => False) _ (rowR g2 (NV ⟨i.prom, i.vote, 3, c, false⟩) :: rowR g4 (NV noInst) :: rowR g3 (CV c) :: []) := Tc
  have HTc := Lib.hid Tc; clear Ta Tb Tc
  go_upto_region 3 with fail
  go_region
  go_upto_region 4 with fail
  refine (fun (key : ∀ w5, Sts W (fun _ => False) w5 (rowR g2 (NV ⟨i.prom, i.vote, 3, c, false⟩) :: rowR g4 (NV noInst) :: rowR g3 (CV c) :: []) → Code.wp _ _ _ _ w5) => key _ HTc.out.drew) ?_
  clear HTc r2 l2 f4 c4 f19 c19 r3 l3 k3 k3' ra la rb lb fb cb HT
  intro w5 T
  have r2 := T.row; have l2 := row_lt r2
  have r4 := T.row1; have l4 := row_lt r4
  have T2 := T.swap.setRow (NV ⟨i.prom, i.vote, 3, c, false⟩)
  have HT := Lib.hid T2; clear T T2
  go_wp2
  refine ret_row_tmp (NV ⟨i.prom, i.vote, 3, c, false⟩) (.bool true) TInst_und rfl (by kernel_rfl) rfl rfl rfl rfl (TInst_size _) HT.out.row ⟨by rw [E.out], HT.out.nil⟩
end Go.Proofs.YtomlilkobhkoiaaGreatDoor
