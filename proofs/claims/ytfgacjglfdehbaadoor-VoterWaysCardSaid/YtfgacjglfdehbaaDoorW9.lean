/- Several texts in one. -/
import Derived.Test.YtfgacjglfdehbaaDoorW6
import Derived.Test.YtfgacjglfdehbaaDoorW8
import Derived.Test.YtfgacjglfdehbaaDoorW2
import Derived.Maps.OwnSet
import Derived.Test.YtfgacjglfdehbaaDoorW5
import Derived.Test.YtfgacjglfdehbaaDoorW3
import Derived.Test.YtfgacjglfdehbaaDoorW1
import Derived.DeepKeys4
/- Things in memory, in another order that is known. Nothing of the program stands here. -/
namespace Go.Proofs.YtfgacjglfdehbaaDoor
open Go.RowKit
end Go.Proofs.YtfgacjglfdehbaaDoor
/- The document's layer 9: items, and what is known of each: that is known. -/
namespace Go.Proofs.YtfgacjglfdehbaaDoor
open Go.RowKit
set_option linter.unusedVariables false
set_option maxRecDepth 20000
attribute [local go_sem] row_alloc row_drew row_drewN row_ext row_setCell row_setRow size_ext setRow_alloc setRow_drew loadOf storeOf piece_lit loadVal_at storeVal_at allOne_lit buildOf buildRes_some
attribute [local go_sem high] cell_alloc frozen_alloc setCell_alloc cell_ext frozen_ext cell_setRow frozen_setRow
attribute [local go_sem ↓] TDeed_ld0 TDeed_st0 TDeed_fd0 TDeed_bd0
attribute [local go_sem] TDeed_size TDeed_one TDeed_piece TDeed_c0 TDeed_c1 TDeed_c2 TDeed_c3 TDeed_c4 TDeed_c5 TDeed_set_kind TDeed_set_key TDeed_set_val TDeed_set_ver TDeed_set_ses TDeed_set_num TDeed_ld TDeed_st TDeed_f_kind TDeed_f_key TDeed_f_val TDeed_f_ver TDeed_f_ses TDeed_f_num TDeed_bd TDeed_fl TDeed_fl_kind TDeed_fl_key TDeed_fl_val TDeed_fl_ver TDeed_fl_ses TDeed_fl_num
attribute [local go_sem high] TDeed_eql TDeed_neq
attribute [local go_sem ↓] index_deps0 load_deps0 store_deps0
attribute [local go_sem] DV_piece DV_size DV_one index_deps load_deps store_deps
attribute [local go_sem high] TDeps_eql TDeps_neq
attribute [local go_sem ↓] TCall_ld0 TCall_st0 TCall_fd0 TCall_bd0
attribute [local go_sem] TCall_size TCall_one TCall_piece TCall_c0 TCall_c1 TCall_c2 TCall_c3 TCall_c4 TCall_c5 TCall_c6 TCall_c7 TCall_c8 TCall_c9 TCall_c10 TCall_c11 TCall_c12 TCall_c13 TCall_p_deed TCall_put_deed TCall_p_deps TCall_put_deps TCall_set_seq TCall_ld TCall_st TCall_f_deed TCall_f_deps TCall_f_seq TCall_bd TCall_fl TCall_fl_deed TCall_fl_deps TCall_fl_seq
attribute [local go_sem high] TCall_eql TCall_neq
attribute [local go_sem ↓] TItem_ld0 TItem_st0 TItem_fd0 TItem_bd0
attribute [local go_sem] TItem_size TItem_one TItem_piece TItem_c0 TItem_c1 TItem_set_rep TItem_set_num TItem_ld TItem_st TItem_f_rep TItem_f_num TItem_bd TItem_fl TItem_fl_rep TItem_fl_num
attribute [local go_sem high] TItem_eql TItem_neq
attribute [local go_sem ↓] TBallot_ld0 TBallot_st0 TBallot_fd0 TBallot_bd0
attribute [local go_sem] TBallot_size TBallot_one TBallot_piece TBallot_c0 TBallot_c1 TBallot_set_round TBallot_set_rep TBallot_ld TBallot_st TBallot_f_round TBallot_f_rep TBallot_bd TBallot_fl TBallot_fl_round TBallot_fl_rep
attribute [local go_sem high] TBallot_eql TBallot_neq
attribute [local go_sem ↓] TInst_ld0 TInst_st0 TInst_fd0 TInst_bd0
attribute [local go_sem] TInst_size TInst_one TInst_piece TInst_c0 TInst_c1 TInst_c2 TInst_c3 TInst_c4 TInst_c5 TInst_c6 TInst_c7 TInst_c8 TInst_c9 TInst_c10 TInst_c11 TInst_c12 TInst_c13 TInst_c14 TInst_c15 TInst_c16 TInst_c17 TInst_c18 TInst_c19 TInst_p_prom TInst_put_prom TInst_p_vote TInst_put_vote TInst_set_status TInst_p_call TInst_put_call TInst_set_same TInst_ld TInst_st TInst_f_prom TInst_f_vote TInst_f_status TInst_f_call TInst_f_same TInst_bd TInst_fl TInst_fl_prom TInst_fl_vote TInst_fl_status TInst_fl_call TInst_fl_same
attribute [local go_sem high] TInst_eql TInst_neq
attribute [local go_sem ↓] inst_slice0
attribute [local go_sem] inst_slice1
abbrev Ent := Item × Inst
section
variable {w W : World} {F : Nat → Prop} {R : List Res} {b : Nat} {L : List Ent}
end
theorem item_slice0 (len : Nat) (parts : Array (Nat × Value)) : Instr.buildSlice 64 len parts = buildSem 64 len parts := rfl
theorem item_slice1 (w : World) (x : Item) : (buildSem 64 1 #[(0, .agg (IV x))]).run Tryd.prog w = .ok (.slice (some ⟨w.heap.size, 0, none⟩) 1 1) (w.alloc (.cells (IV x) 24)) :=
  build_slice1 Tryd.underlying64 (z := .agg (IV noItem)) (n := 2) (by kernel_rfl) (by omega) w (TItem_size x) (by omega)
attribute [local go_sem ↓] item_slice0
attribute [local go_sem] item_slice1
theorem item_i : ∃ i, Tryd.prog.info? 24 = some i ∧ i.zero = some (.agg (IV noItem)) ∧ i.size = 2 ∧ i.bytes = 16 := by
  have h : (Tryd.prog.info? 24).map (fun i => (i.zero, i.size, i.bytes)) = some (some (.agg (IV noItem)), 2, 16) := by kernel_rfl
  cases hi : Tryd.prog.info? 24 with
  | none => rw [hi] at h; simp at h
  | some i => rw [hi] at h; simp at h; exact ⟨i, rfl, h.1, h.2.1, h.2.2⟩
end Go.Proofs.YtfgacjglfdehbaaDoor
/- A map of the call's own as a thing: a function from keys. Nothing of the program stands here. -/
namespace Go.Proofs.YtfgacjglfdehbaaDoor
open Go.RowKit
open Go.Maps (Keyed)
set_option linter.unusedVariables false
/-- How an element reads: as itself. -/
def RV (v : Value) : Option (DataW Value × List MemPlace) := some (.held v, [])
/-- What is asked of keys. -/
structure KeyOk {α : Type} (P : Program) (k : TypeId) (kv : α → Value) (ok : α → Prop) : Prop where
  lit : ∀ x, ok x → ∃ l, keyOf P k (kv x) = some l
  inj : ∀ x y l, ok x → ok y → keyOf P k (kv x) = some l → keyOf P k (kv y) = some l → x = y
  keyed : Keyed P k
section
variable {α β : Type}
def mapIs (P : Program) (k : TypeId) (kv : α → Value) (ev : β → Value) (ok : α → Prop) (W : World) (b n : Nat) (f : α → Option β) : Prop :=
  ∃ D : DataW Value, W.ownsMap P k RV b n D ∧ ∀ x l, ok x → keyOf P k (kv x) = some l → match f x with
    | none => Maps.has D l = false
    | some y => Maps.has D l = true ∧ ∀ z, D.atKey l z = .held (ev y)
/-- A map in block b, of at most n entries. -/
def mapR (P : Program) (k : TypeId) (kv : α → Value) (ev : β → Value) (ok : α → Prop) (b n : Nat) (f : α → Option β) : Res where
  sat F W := (∀ j, F j ↔ j = b) ∧ mapIs P k kv ev ok W b n f
  stay := fun {F W W'} h ⟨hF, D, ⟨es, clock, hb, rest⟩, hD⟩ => ⟨hF, D, ⟨es, clock, by rw [h b ((hF b).2 rfl)]; exact hb, rest⟩, hD⟩
  lt := fun ⟨hF, D, hown, hD⟩ j hj => by rw [(hF j).1 hj]; exact hown.lt
variable {P : Program} {k t e : TypeId} {kv : α → Value} {ev : β → Value} {ok : α → Prop} {w W : World} {F : Nat → Prop} {R L : List Res} {b n : Nat} {f : α → Option β}
theorem mapIs.look1 (K : KeyOk P k kv ok) (ht : P.underlying t = some (.map k e)) {z : Value} (hz : ∀ w, (zeroValue e).run P w = .ok z w) (h : mapIs P k kv ev ok W b n f) (x : α) (hx : ok x) :
    (Instr.lookup t (.map (some b)) (kv x) false).run P W = .ok (match f x with | none => z | some y => ev y) W := by
  obtain ⟨D, hown, hD⟩ := h
  obtain ⟨l, hl⟩ := K.lit x hx
  obtain ⟨v, ps, hrun, hv⟩ := hown.lookup K.keyed ht (hz W) (zd := .held z) (zp := []) rfl hl
  have hd := hD x l hx hl
  unfold RV at hv
  simp only [Option.some.injEq, Prod.mk.injEq] at hv
  rw [hrun]
  cases hf : f x with
  | none =>
    rw [hf] at hd
    simp only at hd
    rw [Maps.atKey_of_not_has hd] at hv
    injection hv.1 with e1
    rw [e1]
  | some y =>
    rw [hf] at hd
    simp only at hd
    rw [hd.2] at hv
    injection hv.1 with e1
    rw [e1]
open Classical in
noncomputable def putF (f : α → Option β) (x : α) (y : β) : α → Option β := fun x' => if x' = x then some y else f x'
theorem putF_same (f : α → Option β) (x : α) (y : β) : putF f x y x = some y := by unfold putF; rw [if_pos rfl]
theorem putF_other (f : α → Option β) {x x' : α} (y : β) (h : x' ≠ x) : putF f x y x' = f x' := by unfold putF; rw [if_neg h]
theorem mapIs.put (K : KeyOk P k kv ok) (ht : P.underlying t = some (.map k e)) (h : mapIs P k kv ev ok W b n f) (hn : n < maxLen) (x : α) (hx : ok x) (y : β) :
    ∃ W', (Instr.mapUpdate t (.map (some b)) (kv x) (ev y)).run P W = .ok () W' ∧ mapIs P k kv ev ok W' b (n + 1) (putF f x y) ∧ W.grownBy W' (some b) := by
  obtain ⟨D, hown, hD⟩ := h
  obtain ⟨l, hl⟩ := K.lit x hx
  obtain ⟨W', hrun, hown', hg⟩ := hown.update K.keyed ht hn hl (d := .held (ev y)) (ps := []) (val := ev y) rfl
  have hk : WideAt.IsKeyLit l := K.keyed.key hl
  refine ⟨W', hrun, ⟨_, hown', fun x' l' hx' hl' => ?_⟩, hg⟩
  by_cases hxx : x' = x
  · subst hxx
    have : l' = l := Option.some.inj (hl'.symm.trans hl)
    subst this
    rw [putF_same]
    exact ⟨Maps.has_put_same hown.isMap hk _, fun z => Maps.atKey_put_same hown.isMap hk _ _⟩
  · have hne : l' ≠ l := fun e => hxx (K.inj x' x l hx' hx (e ▸ hl') hl)
    rw [putF_other f y hxx]
    have hd := hD x' l' hx' hl'
    cases hf : f x' with
    | none =>
      rw [hf] at hd
      simp only at hd ⊢
      rw [Maps.has_put_other hne]; exact hd
    | some y' =>
      rw [hf] at hd
      simp only at hd ⊢
      exact ⟨by rw [Maps.has_put_other hne]; exact hd.1, fun z => by rw [Maps.atKey_put_other hne]; exact hd.2 z⟩
theorem Sts.map (T : Sts w F W (mapR P k kv ev ok b n f :: R)) : mapIs P k kv ev ok W b n f := let ⟨_, ha⟩ := T.at0; ha.2
theorem Sts.mapNew (T : Sts w F W L) : Sts w F (W.alloc (.map #[] 0)) (mapR P k kv ev ok W.heap.size 0 (fun _ => none) :: L) := by
  obtain ⟨⟨G, hs, hG⟩, m⟩ := T.keep (.map #[] 0)
  obtain ⟨⟨G0, hs0, hg0⟩, m0⟩ := T
  have hlt := hs0.lt
  have hs1 : Sat (W.alloc (.map #[] 0)) L G0 := hs0.stay fun j hj => Below.heap_alloc _ _ _ (hlt j hj)
  refine ⟨⟨fun j => j = W.heap.size ∨ G0 j, ⟨fun j => j = W.heap.size, G0, ⟨fun _ => Iff.rfl, .map [], World.ownsMap_made W P k RV, fun x l _ _ => rfl⟩, hs1, ?_, fun _ => Iff.rfl⟩, ?_⟩, m⟩
  · rintro j rfl h; have := hlt _ h; omega
  · rintro j (rfl | h)
    · right; exact m0.size
    · exact hg0 j h
theorem Sts.mapPut (T : Sts w F W (mapR P k kv ev ok b n f :: R)) (K : KeyOk P k kv ok) (ht : P.underlying t = some (.map k e)) (hn : n < maxLen) (x : α) (hx : ok x) (y : β) :
    ∃ W', (Instr.mapUpdate t (.map (some b)) (kv x) (ev y)).run P W = .ok () W' ∧ Sts w F W' (mapR P k kv ev ok b (n + 1) (putF f x y) :: R) ∧ W'.heap.size = W.heap.size := by
  obtain ⟨D, hown, hD⟩ := T.map
  obtain ⟨l, hl⟩ := K.lit x hx
  obtain ⟨W1, hrun1, _, ht1⟩ := hown.store K.keyed ht hn hl (d := .held (ev y)) (ps := []) (val := ev y) rfl
  obtain ⟨W', hrun, hm, hg⟩ := T.map.put K ht hn x hx y
  have he : W1 = W' := by rw [hrun] at hrun1; injection hrun1 with _ e; exact e.symm
  refine ⟨W', hrun, T.turn fun A ha => ⟨fun j => j = b, ⟨fun _ => Iff.rfl, hm⟩, fun j hj => .inl ((ha.1 j).2 hj), hg.os, hg.tape, hg.output, hg.size, fun j hj hn => hg.block j hj fun e => hn ((ha.1 j).2 (by injection e))⟩, ?_⟩
  subst he
  obtain ⟨es, c, es', c', hb, rfl⟩ := ht1
  simp [Go.ChangeMaps.setBlock]
end
end Go.Proofs.YtfgacjglfdehbaaDoor
/- A map of the call's own from keys to slices of its own, as a thing. Nothing of the program's functions stands here. -/
namespace Go.Proofs.YtfgacjglfdehbaaDoor
open Go.RowKit
set_option linter.unusedVariables false
section
variable {α β : Type} (P : Program) (kt e : TypeId) (size : Nat) (V : β → Array Value) (kv : α → Value) (ok : α → Prop)
/-- The slices, each by its key. -/
def famR (L : List (α × Value × List β)) : Res := packR (L.map fun q => vecR e size q.2.1 q.2.2.length (vl V q.2.2))
structure KFit (N n : Nat) (g : α → Option Value) (L : List (α × Value × List β)) (f : α → List β) : Prop where
  n : n ≤ N
  keys : (L.map (·.1)).Pairwise (· ≠ ·)
  has : ∀ q ∈ L, g q.1 = some q.2.1 ∧ f q.1 = q.2.2 ∧ ok q.1
  none : ∀ x, (∀ q ∈ L, q.1 ≠ x) → g x = none ∧ f x = []
/-- In block b a map, of at most N entries: f. -/
def kmapR (b N : Nat) (f : α → List β) : Res :=
  exR fun q : {q : Nat × (α → Option Value) × List (α × Value × List β) // KFit ok N q.1 q.2.1 q.2.2 f} => packR [mapR P kt kv id ok b q.1.1 q.1.2.1, famR e size V q.1.2.2]
end
open Classical in
noncomputable def updK {α β : Type} (f : α → List β) (x : α) (l : List β) : α → List β := fun y => if y = x then l else f y
theorem updK_same {α β : Type} (f : α → List β) (x : α) (l : List β) : updK f x l x = l := by unfold updK; rw [if_pos rfl]
theorem updK_other {α β : Type} (f : α → List β) {x y : α} (l : List β) (h : y ≠ x) : updK f x l y = f y := by unfold updK; rw [if_neg h]
section
variable {α β : Type} {P : Program} {kt t e : TypeId} {size : Nat} {V : β → Array Value} {kv : α → Value} {ok : α → Prop} {w W : World} {F : Nat → Prop} {R : List Res} {b N : Nat} {f : α → List β}
theorem mapIs.look0 {n : Nat} {g : α → Option Value} (K : KeyOk P kt kv ok) (ht : P.underlying t = some (.map kt e)) {z v : Value} (hz : ∀ w, (zeroValue e).run P w = .ok z w) (h : mapIs P kt kv id ok W b n g) (x : α) (hx : ok x) (hv : (g x).getD z = v) :
    (Instr.lookup t (.map (some b)) (kv x) false).run P W = .ok v W := by
  rw [h.look1 K ht hz x hx, ← hv]
  cases g x <;> rfl
theorem Sts.kmapNew (T : Sts w F W R) : Sts w F (W.alloc (.map #[] 0)) (kmapR P kt e size V kv ok W.heap.size 0 (fun _ => []) :: R) := by
  have T1 := T.mapNew (P := P) (k := kt) (kv := kv) (ev := id) (ok := ok) (β := Value)
  refine Sts.close ⟨(0, fun _ => none, []), ⟨Nat.le_refl _, by simp, fun q h => by simp at h, fun x _ => ⟨rfl, rfl⟩⟩⟩ ?_
  refine Sts.pack (L := [mapR P kt kv id ok W.heap.size 0 fun _ => none, famR e size V []]) ?_
  refine Sts.perm ?_ (List.Perm.swap _ _ _)
  exact Sts.pack (L := []) T1
/-- What the map says of a key, its slice, and the others. -/
theorem Sts.kmapPick (T : Sts w F W (kmapR P kt e size V kv ok b N f :: R)) (x : α) (hx : ok x) :
    ∃ (v : Value) (n : Nat) (g : α → Option Value) (O : Res), n ≤ N ∧ (g x).getD (.slice none 0 0) = v ∧
      Sts w F W (mapR P kt kv id ok b n g :: vecR e size v (f x).length (vl V (f x)) :: O :: R) ∧
      (∀ w' F' W' R', Sts w' F' W' (mapR P kt kv id ok b n g :: vecR e size v (f x).length (vl V (f x)) :: O :: R') → Sts w' F' W' (kmapR P kt e size V kv ok b N f :: R')) ∧
      (∀ w' F' W' R' v' l' n' N', Sts w' F' W' (mapR P kt kv id ok b n' (putF g x v') :: vecR e size v' l'.length (vl V l') :: O :: R') → n' ≤ N' → Sts w' F' W' (kmapR P kt e size V kv ok b N' (updK f x l') :: R')) := by
  obtain ⟨⟨⟨n, g, L⟩, hf⟩, T⟩ := T.open
  dsimp only at T hf
  have T : Sts w F W (mapR P kt kv id ok b n g :: famR e size V L :: R) := T.unpack
  by_cases h : ∃ q ∈ L, q.1 = x
  · obtain ⟨q, hq, rfl⟩ := h
    obtain ⟨l1, l2, rfl⟩ := List.append_of_mem hq
    obtain ⟨h1, h2, h3⟩ := hf.has q hq
    refine ⟨q.2.1, n, g, famR e size V (l1 ++ l2), hf.n, by rw [h1]; rfl, ?_, ?_, ?_⟩
    · rw [h2]
      have T1 := (T.perm (List.Perm.swap _ _ _)).unpack
      rw [List.map_append, List.map_cons] at T1
      have hp : ((l1.map (fun q => vecR e size q.2.1 q.2.2.length (vl V q.2.2)) ++ vecR e size q.2.1 q.2.2.length (vl V q.2.2) :: l2.map (fun q => vecR e size q.2.1 q.2.2.length (vl V q.2.2))) ++ mapR P kt kv id ok b n g :: R).Perm ((l1 ++ l2).map (fun q => vecR e size q.2.1 q.2.2.length (vl V q.2.2)) ++ (mapR P kt kv id ok b n g :: vecR e size q.2.1 q.2.2.length (vl V q.2.2) :: R)) := by
        rw [List.map_append, List.append_assoc, List.append_assoc, List.cons_append]
        refine List.Perm.append_left _ ?_
        refine List.Perm.trans (List.perm_middle.symm) ?_
        refine List.Perm.append_left _ ?_
        exact List.Perm.swap _ _ _
      have T2 := (Sts.pack (T1.perm hp))
      exact T2.perm (((List.Perm.swap _ _ _).trans ((List.Perm.swap _ _ _).cons _)))
    · intro w' F' W' R' T'
      refine Sts.close ⟨(n, g, l1 ++ q :: l2), hf⟩ ?_
      refine Sts.pack (L := [_, _]) ?_
      rw [h2] at T'
      have T1 := (T'.perm (((List.Perm.swap _ _ _).cons _).trans (List.Perm.swap _ _ _))).unpack
      refine Sts.perm ?_ (List.Perm.swap _ _ _)
      refine Sts.pack (L := List.map _ (l1 ++ q :: l2)) ?_
      refine T1.perm ?_
      rw [List.map_append, List.map_append, List.append_assoc, List.append_assoc, List.map_cons, List.cons_append]
      refine List.Perm.append_left _ ?_
      refine List.Perm.trans ?_ (List.perm_middle)
      refine List.Perm.append_left _ ?_
      exact List.Perm.swap _ _ _
    · intro w' F' W' R' v' l' n' N' T' hn'
      have hk := hf.keys
      rw [List.map_append, List.map_cons, List.pairwise_append, List.pairwise_cons] at hk
      have hne : ∀ p ∈ l1 ++ l2, p.1 ≠ q.1 := fun p hp => by
        rcases List.mem_append.1 hp with h | h
        · exact hk.2.2 p.1 (List.mem_map_of_mem h) q.1 (by simp)
        · exact fun e => hk.2.1.1 p.1 (List.mem_map_of_mem h) e.symm
      refine Sts.close ⟨(n', putF g q.1 v', l1 ++ (q.1, v', l') :: l2), ?_⟩ ?_
      · refine ⟨hn', ?_, fun p hp => ?_, fun y hy => ?_⟩
        · rw [List.map_append, List.map_cons]
          have := hf.keys
          rw [List.map_append, List.map_cons] at this
          exact this
        · rcases List.mem_append.1 hp with h | h
          · have hp2 := hne p (List.mem_append.2 (.inl h))
            have h4 := hf.has p (List.mem_append.2 (.inl h))
            exact ⟨(putF_other _ _ hp2).trans h4.1, by rw [updK_other _ _ hp2]; exact h4.2.1, h4.2.2⟩
          · rcases List.mem_cons.1 h with h | h
            · subst h; exact ⟨putF_same _ _ _, updK_same _ _ _, h3⟩
            · have hp2 := hne p (List.mem_append.2 (.inr h))
              have h4 := hf.has p (List.mem_append.2 (.inr (List.mem_cons_of_mem _ h)))
              exact ⟨(putF_other _ _ hp2).trans h4.1, by rw [updK_other _ _ hp2]; exact h4.2.1, h4.2.2⟩
        · have hyq : y ≠ q.1 := fun e => hy (q.1, v', l') (by simp) e.symm
          have := hf.none y fun p hp e => by
            rcases List.mem_append.1 hp with h | h
            · exact hy p (List.mem_append.2 (.inl h)) e
            · rcases List.mem_cons.1 h with h | h
              · subst h; exact hyq e.symm
              · exact hy p (List.mem_append.2 (.inr (List.mem_cons_of_mem _ h))) e
          exact ⟨(putF_other _ _ hyq).trans this.1, by rw [updK_other _ _ hyq]; exact this.2⟩
      · refine Sts.pack (L := [_, _]) ?_
        have T1 := (T'.perm (((List.Perm.swap _ _ _).cons _).trans (List.Perm.swap _ _ _))).unpack
        refine Sts.perm ?_ (List.Perm.swap _ _ _)
        refine Sts.pack (L := List.map _ (l1 ++ (q.1, v', l') :: l2)) ?_
        refine T1.perm ?_
        rw [List.map_append, List.map_append, List.append_assoc, List.append_assoc, List.map_cons, List.cons_append]
        refine List.Perm.append_left _ ?_
        refine List.Perm.trans ?_ (List.perm_middle)
        refine List.Perm.append_left _ ?_
        exact List.Perm.swap _ _ _
  · have hno : ∀ q ∈ L, q.1 ≠ x := fun q hq e => h ⟨q, hq, e⟩
    obtain ⟨h1, h2⟩ := hf.none x hno
    refine ⟨.slice none 0 0, n, g, famR e size V L, hf.n, by rw [h1]; rfl, ?_, ?_, ?_⟩
    · rw [h2]
      exact (T.vecNil e size).perm (List.Perm.swap _ _ _)
    · intro w' F' W' R' T'
      refine Sts.close ⟨(n, g, L), hf⟩ ?_
      refine Sts.pack (L := [_, _]) ?_
      exact (T'.perm (List.Perm.swap _ _ _)).drop
    · intro w' F' W' R' v' l' n' N' T' hn'
      refine Sts.close ⟨(n', putF g x v', (x, v', l') :: L), ?_⟩ ?_
      · refine ⟨hn', ?_, fun p hp => ?_, fun y hy => ?_⟩
        · rw [List.map_cons, List.pairwise_cons]
          exact ⟨fun a ha e => by obtain ⟨p, hp, rfl⟩ := List.mem_map.1 ha; exact hno p hp e.symm, hf.keys⟩
        · rcases List.mem_cons.1 hp with h | h
          · subst h; exact ⟨putF_same _ _ _, updK_same _ _ _, hx⟩
          · have hp2 := hno p h
            have h4 := hf.has p h
            exact ⟨(putF_other _ _ hp2).trans h4.1, by rw [updK_other _ _ hp2]; exact h4.2.1, h4.2.2⟩
        · have hyq : y ≠ x := fun e => hy (x, v', l') (by simp) e.symm
          have := hf.none y fun p hp e => hy p (List.mem_cons_of_mem _ hp) e
          exact ⟨(putF_other _ _ hyq).trans this.1, by rw [updK_other _ _ hyq]; exact this.2⟩
      · refine Sts.pack (L := [_, _]) ?_
        have T1 := (T'.perm (((List.Perm.swap _ _ _).cons _).trans (List.Perm.swap _ _ _))).unpack
        refine Sts.perm ?_ (List.Perm.swap _ _ _)
        refine Sts.pack (L := List.map _ ((x, v', l') :: L)) ?_
        refine T1.perm ?_
        rw [List.map_cons, List.cons_append]
        exact (List.Perm.append_left _ (List.Perm.swap _ _ _)).trans List.perm_middle
end
end Go.Proofs.YtfgacjglfdehbaaDoor
/- Items as keys of maps. -/
namespace Go.Proofs.YtfgacjglfdehbaaDoor
open Go.RowKit
open Go.Maps (Keyed)
set_option linter.unusedVariables false
set_option maxRecDepth 20000
theorem wf_int {n : Int} (h : -9223372036854775808 ≤ n ∧ n ≤ 9223372036854775807) : (Lit.int .i64 n).wf = true := by
  simp [Lit.wf, IntKind.min, IntKind.max, IntKind.signed, IntKind.bits]; omega
end Go.Proofs.YtfgacjglfdehbaaDoor
