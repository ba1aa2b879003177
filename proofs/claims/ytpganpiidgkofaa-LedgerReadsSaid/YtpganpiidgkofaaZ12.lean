/- Several texts in one. -/
import Derived.Test.YtpganpiidgkofaaZ11
import Derived.Test.YtpganpiidgkofaaZ5
import Derived.RangeFuncNested
import Derived.RangeFuncBound
import Derived.RangeFuncCalls
import Derived.RangeFuncLeaves
import Derived.Shelf.Abstract
import Derived.Shelf.RegionOpen
import Derived.OwnWalkIn
import Derived.TacticsInMore
import Derived.LoopNIn
import Derived.LoopIn
/- Layer 3: rows of items: none as yet; the greatest number. -/
namespace Go.Proofs.Ytpganpiidgkofaa
open Go.RowKit
set_option linter.unusedVariables false
set_option maxRecDepth 20000
attribute [local go_sem] row_alloc row_drew row_drewN row_ext row_setCell row_setRow size_ext setRow_alloc setRow_drew loadOf storeOf piece_lit loadVal_at storeVal_at allOne_lit buildOf buildRes_some
attribute [local go_sem high] cell_alloc frozen_alloc setCell_alloc cell_ext frozen_ext cell_setRow frozen_setRow
attribute [local go_sem ↓] TDeed_ld0 TDeed_st0 TDeed_fd0 TDeed_bd0
attribute [local go_sem] TDeed_size TDeed_one TDeed_piece TDeed_c0 TDeed_c1 TDeed_c2 TDeed_c3 TDeed_c4 TDeed_c5 TDeed_set_kind TDeed_set_key TDeed_set_val TDeed_set_ver TDeed_set_ses TDeed_set_num TDeed_ld TDeed_st TDeed_f_kind TDeed_f_key TDeed_f_val TDeed_f_ver TDeed_f_ses TDeed_f_num TDeed_bd TDeed_fl TDeed_fl_kind TDeed_fl_key TDeed_fl_val TDeed_fl_ver TDeed_fl_ses TDeed_fl_num
attribute [local go_sem high] TDeed_eql TDeed_neq
attribute [local go_sem ↓] index_deps0 load_deps0 store_deps0
attribute [local go_sem] DV_piece DV_size DV_one index_deps load_deps store_deps
attribute [local go_sem high] TDeps_eql TDeps_neq
attribute [local go_sem ↓] TCall_ld0 TCall_st0 TCall_fd0 TCall_bd0
attribute [local go_sem] TCall_size TCall_one TCall_piece TCall_c0 TCall_c1 TCall_c2 TCall_c3 TCall_c4 TCall_c5 TCall_c6 TCall_c7 TCall_c8 TCall_c9 TCall_c10 TCall_c11 TCall_c12 TCall_c13 TCall_p_deed TCall_put_deed TCall_p_deps TCall_put_deps TCall_set_seq TCall_ld TCall_st TCall_f_deed TCall_f_deps TCall_f_seq TCall_bd TCall_fl TCall_fl_deed TCall_fl_deps TCall_fl_seq
attribute [local go_sem high] TCall_eql TCall_neq
attribute [local go_sem ↓] TItem_ld0 TItem_st0 TItem_fd0 TItem_bd0
attribute [local go_sem] TItem_size TItem_one TItem_piece TItem_c0 TItem_c1 TItem_set_rep TItem_set_num TItem_ld TItem_st TItem_f_rep TItem_f_num TItem_bd TItem_fl TItem_fl_rep TItem_fl_num
attribute [local go_sem high] TItem_eql TItem_neq
attribute [local go_sem ↓] TBallot_ld0 TBallot_st0 TBallot_fd0 TBallot_bd0
attribute [local go_sem] TBallot_size TBallot_one TBallot_piece TBallot_c0 TBallot_c1 TBallot_set_round TBallot_set_rep TBallot_ld TBallot_st TBallot_f_round TBallot_f_rep TBallot_bd TBallot_fl TBallot_fl_round TBallot_fl_rep
attribute [local go_sem high] TBallot_eql TBallot_neq
attribute [local go_sem ↓] TInst_ld0 TInst_st0 TInst_fd0 TInst_bd0
attribute [local go_sem] TInst_size TInst_one TInst_piece TInst_c0 TInst_c1 TInst_c2 TInst_c3 TInst_c4 TInst_c5 TInst_c6 TInst_c7 TInst_c8 TInst_c9 TInst_c10 TInst_c11 TInst_c12 TInst_c13 TInst_c14 TInst_c15 TInst_c16 TInst_c17 TInst_c18 TInst_c19 TInst_p_prom TInst_put_prom TInst_p_vote TInst_put_vote TInst_set_status TInst_p_call TInst_put_call TInst_set_same TInst_ld TInst_st TInst_f_prom TInst_f_vote TInst_f_status TInst_f_call TInst_f_same TInst_bd TInst_fl TInst_fl_prom TInst_fl_vote TInst_fl_status TInst_fl_call TInst_fl_same
attribute [local go_sem high] TInst_eql TInst_neq
attribute [local go_sem] rcells_n
def topM (m : RowsM) (rep : Int) : Int := if 0 ≤ rep ∧ rep < m.n then (m.f rep.toNat).length else 0
set_option maxHeartbeats 4000000 in
theorem irTopR (g : Nat) (m : RowsM) (hn : 0 ≤ m.n ∧ m.n ≤ 7) (rep : Int) :
    Reads Try.prog 76 #[.pointer (some ⟨g, 0, none⟩), .int .i64 rep] [rowsIR g m] (.int .i64 (topM m rep)) := by
  intro W G hS
  by_cases h0 : 0 ≤ rep
  · by_cases h1 : rep < m.n
    · obtain ⟨k, rfl⟩ := Int.eq_ofNat_of_zero_le h0
      have hk : k < 7 := by omega
      have hk7 : (k : Int) < 7 := by omega
      have ht : topM m k = ((m.f k).length : Int) := by
        unfold topM
        have e1 : ((k : Int)).toNat = k := by omega
        rw [if_pos ⟨h0, h1⟩, e1]
      rw [ht]
      obtain ⟨v, h, A, c, B, d, hv, -, hr, -⟩ := rows_facts hS hk
      have hcv : W.cell? ⟨g, 1 + k, none⟩ = some (.slice A (m.f k).length c) := by rw [row_cell hr, rcells_v _ _ _ _ hk, hv]
      have c0 : W.cell? ⟨g, 0, none⟩ = some (.int .i64 m.n) := row_cell hr 0
      have l0 := row_lt hr
      clear hS hr hv ht
      go_enter Try.func76, Try.ntmps76
      go_wp2
      go_ret
      exact ⟨rfl, Below.refl _ _⟩
    · have ht : topM m rep = 0 := by unfold topM; rw [if_neg (fun h => h1 h.2)]
      rw [ht]
      obtain ⟨v, h, A, c, B, d, -, -, hr, -⟩ := rows_facts hS (k := 0) (by omega)
      have c0 : W.cell? ⟨g, 0, none⟩ = some (.int .i64 m.n) := row_cell hr 0
      have l0 := row_lt hr
      clear hS hr ht
      go_enter Try.func76, Try.ntmps76
      go_wp2
      go_ret
      exact ⟨rfl, Below.refl _ _⟩
  · have ht : topM m rep = 0 := by unfold topM; rw [if_neg (fun h => h0 h.1)]
    rw [ht]
    obtain ⟨v, h, A, c, B, d, -, -, hr, -⟩ := rows_facts hS (k := 0) (by omega)
    have c0 : W.cell? ⟨g, 0, none⟩ = some (.int .i64 m.n) := row_cell hr 0
    have l0 := row_lt hr
    clear hS hr ht
    go_enter Try.func76, Try.ntmps76
    go_wp2
    go_ret
    exact ⟨rfl, Below.refl _ _⟩
theorem irTopD (g : Nat) (m : RowsM) (hn : 0 ≤ m.n ∧ m.n ≤ 7) (rep : Int) :
    Does Try.prog 76 #[.pointer (some ⟨g, 0, none⟩), .int .i64 rep] [rowsIR g m] (.int .i64 (topM m rep)) [rowsIR g m] := (irTopR g m hn rep).does
def newN (n : Int) : Int := if n < 0 then 0 else if 7 < n then 7 else n
theorem pairs_nil {w W : World} {F : Nat → Prop} : ∀ (ks : List Nat) {R : List Res}, Sts w F W R → Sts w F W (ks.map (pairR (fun _ => []) (fun _ => .slice none 0 0) (fun _ => .slice none 0 0)) ++ R)
  | [], R, T => T
  | k :: ks, R, T => ((pairs_nil ks T).vecNil 4 1 |>.vecNil 39 20).join
set_option maxHeartbeats 4000000 in
theorem irNewT (n : Int) (hn : -9223372036854775808 ≤ n ∧ n ≤ 9223372036854775807) {w W : World} {F : Nat → Prop} {R : List Res} (T : Sts w F W R) :
    Calls Try.prog 49 #[.int .i64 n] W fun e W' => e = .returned (.pointer (some ⟨W.heap.size, 0, none⟩)) ∧ Sts w F W' (rowsIR W.heap.size ⟨newN n, fun _ => []⟩ :: R) := by
  have TN := T.new (rcells (newN n) (fun _ => .slice none 0 0) (fun _ => .slice none 0 0)) 144
  have TR : Sts w F (W.alloc (.cells (rcells (newN n) (fun _ => .slice none 0 0) (fun _ => .slice none 0 0)) 144)) (rowsIR W.heap.size ⟨newN n, fun _ => []⟩ :: R) := by
    have T1 := pairs_nil (List.range 7) TN
    have T2 := T1.perm List.perm_middle
    exact (Sts.pack (L := rowR W.heap.size (rcells (newN n) (fun _ => .slice none 0 0) (fun _ => .slice none 0 0)) :: (List.range 7).map (pairR (fun _ => []) (fun _ => .slice none 0 0) (fun _ => .slice none 0 0))) T2).close ((fun _ => .slice none 0 0), (fun _ => .slice none 0 0))
  have HR := Lib.hid TR; clear TN TR T
  by_cases h0 : n < 0
  · have e : newN n = 0 := by unfold newN; rw [if_pos h0]
    rw [e] at HR ⊢
    go_enter Try.func49, Try.ntmps49
    go_wp2
    go_ret
    exact ⟨rfl, HR.out⟩
  · by_cases h7 : 7 < n
    · have e : newN n = 7 := by unfold newN; rw [if_neg h0, if_pos h7]
      rw [e] at HR ⊢
      go_enter Try.func49, Try.ntmps49
      go_wp2
      go_ret
      exact ⟨rfl, HR.out⟩
    · have e : newN n = n := by unfold newN; rw [if_neg h0, if_neg h7]
      rw [e] at HR ⊢
      go_enter Try.func49, Try.ntmps49
      go_wp2
      go_ret
      exact ⟨rfl, HR.out⟩
end Go.Proofs.Ytpganpiidgkofaa
/- Loops over iterators: what lies in memory abides the loop's own records. Nothing of the program stands here. -/
namespace Go.Proofs.Ytpganpiidgkofaa
open Go.RowKit Go.Shelf
set_option linter.unusedVariables false
/-- All blocks of a thing are cells. -/
def Res.plain (r : Res) : Prop := ∀ {F : Nat → Prop} {W : World}, r.sat F W → ∀ k, F k → ∃ o, W.heap[k]? = some o ∧ o.isCells = true
def plainL (L : List Res) : Prop := ∀ r ∈ L, r.plain
theorem rowR_plain (g : Nat) (X : Array Value) : (rowR g X).plain := fun hs k hk => by
  rw [(hs.1 k).1 hk]
  obtain ⟨t, ht⟩ := row_some hs.2
  exact ⟨_, ht, rfl⟩
theorem vecR_plain (e : TypeId) (size : Nat) (v : Value) (n : Nat) (xs : List Value) : (vecR e size v n xs).plain := fun hs k hk => by
  have := (hs.2 k).1 hk
  rcases hs.1.2 with ⟨rfl, hn⟩ | ⟨g, cap, cur, rfl, hb, hg, rest⟩
  · simp [Value.ownBlock] at this
  · simp [Value.ownBlock] at this; subst this; exact ⟨_, hg, rfl⟩
theorem plainL_nil : plainL [] := fun _ h => by simp at h
theorem plainL_cons {r : Res} {L : List Res} (h : r.plain) (hl : plainL L) : plainL (r :: L) := fun s hs => by
  rcases List.mem_cons.1 hs with rfl | h'
  · exact h
  · exact hl s h'
theorem Sat.plain : ∀ {L : List Res}, plainL L → ∀ {F : Nat → Prop} {W : World}, Sat W L F → ∀ k, F k → ∃ o, W.heap[k]? = some o ∧ o.isCells = true
  | [], _, _, _, h, k, hk => (h k hk).elim
  | r :: L, hp, F, W, ⟨A, B, ha, hb, hd, hf⟩, k, hk => by
    rcases (hf k).1 hk with h | h
    · exact hp r (by simp) ha k h
    · exact Sat.plain (fun s hs => hp s (by simp [hs])) hb k h
theorem starR_plain {r s : Res} (hr : r.plain) (hs : s.plain) : (starR r s).plain := fun h k hk => Sat.plain (plainL_cons hr (plainL_cons hs plainL_nil)) h k hk
theorem exR_plain {α : Type} {f : α → Res} (h : ∀ a, (f a).plain) : (exR f).plain := fun hs k hk => let ⟨a, ha⟩ := hs; h a ha k hk
theorem andR_plain {p : Prop} {r : Res} (h : r.plain) : (andR p r).plain := fun hs k hk => h hs.2 k hk
section
variable {w W W' : World} {F G : Nat → Prop} {L R L' : List Res} {r s t u : Res}
theorem Sts.grown' (h : Sts w F W L) (hp : plainL L) {row : Option Nat} (hg : W.grownBy W' row) (hr : ∀ r, row = some r → w.heap.size ≤ r ∧ ∃ o : Obj, W.heap[r]? = some o ∧ o.isCells = false) : Sts w F W' L := by
  obtain ⟨⟨G, hs, hG⟩, m⟩ := h
  have hpl := hs.plain hp
  refine ⟨⟨G, hs.stay fun k hk => hg.block k (hs.lt k hk) fun e => ?_, hG⟩, hg.os.trans m.os, hg.tape.trans m.tape, hg.output.trans m.output, Nat.le_trans m.size hg.size, fun k hk hn => (hg.block k (Nat.lt_of_lt_of_le hk m.size) fun e => ?_).trans (m.block k hk hn)⟩
  · obtain ⟨_, o, ho, hc⟩ := hr k e.symm
    obtain ⟨o', ho', hc'⟩ := hpl k hk
    rw [ho] at ho'; injection ho' with e2; subst e2; rw [hc] at hc'; cases hc'
  · have := (hr k e.symm).1; omega
/-- What a loop's round knows of memory abides the loop's records. -/
theorem Sts.own {β : Type} (w : World) (F : Nat → Prop) {B : Nat} (L : β → List Res) (hp : ∀ s, plainL (L s)) (hB : w.heap.size ≤ B) : OwnFrom B (fun s W => Sts w F W (L s)) := fun s W W' row hs hg hr =>
  hs.grown' (hp s) hg fun r e => ⟨Nat.le_trans hB (hr r e).1, (hr r e).2⟩
/-- What a round leaves. -/
theorem Sts.keepsFrom (hs : Sat W L G) (hp : plainL L) (h : Sts W G W' L') (B : Nat) : KeepsFrom B W W' :=
  ⟨h.2.size, fun k o _ hk ho => by
    have hlt : k < W.heap.size := (Array.getElem?_eq_some_iff.1 hk).1
    rw [h.2.block k hlt fun hg => ?_]
    · exact hk
    · obtain ⟨o', ho', hc'⟩ := hs.plain hp k hg
      rw [hk] at ho'; injection ho' with e; subst e; rw [ho] at hc'; cases hc'⟩
theorem Sts.below_putObj {l : Nat} {o : Obj} (h : Sts w F W L) (hp : plainL L) (o' : Obj) (hl : w.heap.size ≤ l) (ho : W.heap[l]? = some o) (hc : o.isCells = false) : Sts w F (W.putObj l o') L :=
  h.grown' hp (grownBy_putObj' W l o') fun r e => by cases e; exact ⟨hl, o, ho, hc⟩
end
section
variable {n : Nat} {P : Program} {fn : Func} {R : Ending → World → Prop} {a : Act} {w : World} {v : Value}
/-- A return ahead of every loop over an iterator. -/
theorem retM0 (hr : (results fn a.tmps).run P w = .ok v w) (hR : R (.returned v) w) (hd : a.defers = []) : bodyPostM Fence.wide n P fn R .ret a w := by
  show LeavesInM _ _ _ _ _ _ a.defers _ _
  rw [hd]
  exact ⟨v, hr, hR⟩
/-- A return behind one. -/
theorem retM1 {D : Nat} {ar : Array Value} (hK : w.heap[D]? = some (.deferred (some []))) (hr : (results fn a.tmps).run P (w.putObj D (.deferred none)) = .ok v (w.putObj D (.deferred none))) (hR : R (.returned v) (w.putObj D (.deferred none))) (hd : a.defers = [{ target := .collected D, args := ar }]) : bodyPostM Fence.wide n P fn R .ret a w := by
  show LeavesInM _ _ _ _ _ _ a.defers _ _
  rw [hd]
  exact ⟨by simp, .inl ⟨_, _, rfl, run_takeDeferred hK, v, hr, hR⟩⟩
end
section
variable {w W W' : World} {F G : Nat → Prop} {L R L' : List Res} {r s t u : Res}
theorem Sts.put {D : Nat} {ds : Option (List Deferred)} (h : Sts w F W L) (hp : plainL L) (hD : w.heap.size ≤ D) (hK : W.heap[D]? = some (.deferred ds)) (o : Obj) : Sts w F (W.putObj D o) L := h.below_putObj hp o hD hK rfl
/-- A round's own part. -/
theorem Sts.round (h : Sts w F W L) (hp : plainL L) : ∃ G, Sts W G W L ∧ ∀ {W' L'}, Sts W G W' L' → Sts w F W' L' ∧ ∀ B, KeepsFrom B W W' := by
  obtain ⟨G, hG, k⟩ := Sts.call (L := L) (R := []) (by simpa using h)
  exact ⟨G, Sts.start hG, fun {W' L'} hS => ⟨by simpa using k hS, fun B => Sts.keepsFrom hG hp hS B⟩⟩
end
/-- A loop's own variable, in a block of its own. -/
def Fresh1 (B : Nat) (b : Nat) (X : Array Value) (W : World) : Prop := B ≤ b ∧ row? W b = some X
theorem fresh1_own {B B' b : Nat} {X : Array Value} : OwnFrom (β := Unit) B (fun _ W => Fresh1 B' b X W) := fun _ W W' row hs hg hr => by
  refine ⟨hs.1, ?_⟩
  rw [row_of_block (hg.block b (row_lt hs.2) fun e => ?_)]
  · exact hs.2
  · obtain ⟨_, o, ho, hc⟩ := hr b e.symm
    obtain ⟨t, ht⟩ := row_some hs.2
    rw [ht] at ho; injection ho with e2; subst e2; cases hc
theorem Sts.found1 {w W : World} {F : Nat → Prop} {L : List Res} {B b : Nat} {X : Array Value} (h : Sts w F W L) (hf : Fresh1 B b X W) (hF : ∀ G, Sat W L G → ¬ G b) (hw : w.heap.size ≤ B) : Sts w F W (rowR b X :: L) := by
  obtain ⟨⟨G, hs, hG⟩, m⟩ := h
  refine ⟨⟨fun k => k = b ∨ G k, ⟨fun k => k = b, G, ⟨fun _ => Iff.rfl, hf.2⟩, hs, ?_, fun _ => Iff.rfl⟩, ?_⟩, m⟩
  · rintro k rfl h; exact hF G hs h
  · rintro k (rfl | h)
    · right; have := hf.1; omega
    · exact hG k h
end Go.Proofs.Ytpganpiidgkofaa
