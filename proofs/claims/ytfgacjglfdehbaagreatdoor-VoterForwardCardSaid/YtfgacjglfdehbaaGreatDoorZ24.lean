/- Several texts in one. -/
import Derived.Test.YtfgacjglfdehbaaGreatDoorZ12
import Derived.Test.YtfgacjglfdehbaaGreatDoorZ5
import Derived.Test.YtfgacjglfdehbaaGreatDoorZ23
import Derived.Test.YtfgacjglfdehbaaGreatDoorZ3
/- A loop over an iterator, by things in memory: the iterator's contract is for all frames; the order of what it gives may be any of some. Nothing of the program stands here. -/
namespace Go.Proofs.YtfgacjglfdehbaaGreatDoor
open Go.RowKit Go.Shelf
set_option linter.unusedVariables false
/-- An iterator that reads the things L and gives one of the rows O of elements, whatever else there is. -/
def GivesD {α : Type} (P : Program) (gf : Nat) (lb : Array Value) (enc : α → Array Value) (L : List Res) (O : List α → Prop) : Prop :=
  ∀ (l : Nat) (own ownX : List α → List Res),
    (∀ (pre : List α) (x : α) (w : World) (F : Nat → Prop) (W1 : World) (R : List Res), (∃ post, O (pre ++ x :: post)) → Sts w F W1 (own pre ++ (L ++ R)) →
      YieldAt Fence.wide 2 P l (enc x) W1 fun e W' => (e = .returned (.bool true) ∧ Sts w F W' (own (pre ++ [x]) ++ (L ++ R))) ∨ (e = .returned (.bool false) ∧ Sts w F W' (ownX (pre ++ [x]) ++ (L ++ R)))) →
    ∀ (w : World) (F : Nat → Prop) (W : World) (R : List Res), Sts w F W (own [] ++ (L ++ R)) →
      CallsIn Fence.wide 3 P gf (#[.func (.yield l) #[] #[]] ++ lb) W fun e W' => (∃ v, e = .returned v) ∧ ((∃ xs, O xs ∧ Sts w F W' (own xs ++ (L ++ R))) ∨ ∃ pre, Sts w F W' (ownX pre ++ (L ++ R)))
theorem perm_front {X L R : List Res} {a b : Res} : (X ++ (L ++ (a :: b :: R))).Perm (a :: b :: (X ++ (L ++ R))) := by
  have h : ((X ++ L) ++ ([a, b] ++ R)).Perm ([a, b] ++ ((X ++ L) ++ R)) := by
    rw [← List.append_assoc (X ++ L), ← List.append_assoc [a, b]]
    exact List.perm_append_comm.append_right R
  rw [List.append_assoc X L ([a, b] ++ R), List.append_assoc X L R] at h
  exact h
/-- How a round's body may be left. -/
def roundD {α : Type} (own : List α → List Res) (ownX : Code → List α → List Res) (M : List Res) (pre : List α) (x : α) (w : World) (F : Nat → Prop) : Exit → Act → World → Prop
  | .normal, _, W' => Sts w F W' (own (pre ++ [x]) ++ M)
  | .ret, _, W' => Sts w F W' (ownX .ret (pre ++ [x]) ++ M)
  | .exit id, _, W' => Sts w F W' (ownX (.exit id) (pre ++ [x]) ++ M)
  | .goto t, _, W' => Sts w F W' (ownX (.goto t) (pre ++ [x]) ++ M)
  | .panic _, _, _ => False
  | .outgrown, _, _ => False
section
variable {P : Program} {w W : World} {F : Nat → Prop}
theorem wp_rangeD {α : Type} {g : Operand} {ps : Array Tmp} {assign body : Code} {Q : Exit → Act → World → Prop} {a : Act} {gf : Nat} {lb : Array Value} {enc : α → Array Value} {O : List α → Prop}
    (own : List α → List Res) (ownX : Code → List α → List Res) (L R : List Res) (Ax : List α → α → Act → List Res → Prop)
    (hg : a.eval g = .func (.func gf) #[] lb) (eg : ∀ args w, (callFunc gf args).run P w = .ok (.enter gf args) w) (hps : ∀ x, (enc x).size = ps.size)
    (hseq : GivesD P gf lb enc L O)
    (T : Sts w F W (own [] ++ (L ++ R)))
    (hassign : ∀ (l : Nat) (pre : List α) (x : α) (w : World) (F : Nat → Prop) (W1 : World) (R : List Res) (K : Act → World → Prop), (∃ post, O (pre ++ x :: post)) → Sts w F W1 (own pre ++ (L ++ R)) → (∀ a' W' own', Ax pre x a' own' → Sts w F W' (own' ++ (L ++ R)) → K a' W') →
      assign.wpIn (Fence.wide.inRound l) 2 P (Exit.then K (fun _ _ _ => False)) { tmps := (ps.zip (enc x)).foldl (fun t (p, v) => t.setIfInBounds p v) a.tmps, defers := [] } W1)
    (hbody : ∀ (l : Nat) (pre : List α) (x : α) (a' : Act) (own' : List Res) (w : World) (F : Nat → Prop) (W1 : World) (R : List Res), (∃ post, O (pre ++ x :: post)) → Ax pre x a' own' → Sts w F W1 (own' ++ (L ++ R)) →
      body.wpIn (Fence.wide.inRound l) 2 P (roundD own ownX (L ++ R) pre x w F) a' W1)
    (hdone : ∀ (D : Nat) (W1 : World) (xs : List α), O xs → Sts w F W1 (objR D (.deferred (some [])) :: (own xs ++ (L ++ R))) → Q .normal { a with defers := { target := .collected D, args := #[] } :: a.defers } W1)
    (hstop : ∀ (D : Nat) (c : Code) (pre : List α) (W1 : World), Sts w F W1 (objR D (.deferred (some [])) :: (ownX c pre ++ (L ++ R))) → c.wpIn Fence.wide 4 P Q { a with defers := { target := .collected D, args := #[] } :: a.defers } W1) :
    (Code.rangeFunc g ps assign body).wpIn Fence.wide 4 P Q a W := by
  refine wpIn_rangeFunc fun fn hfn => ?_
  generalize hD : W.heap.size = D
  obtain ⟨rec, hrec⟩ : ∃ rec : LoopState → Option Code → Loop, rec = fun st pe => { state := st, pending := pe, fn, tmps := a.tmps, params := ps, assign, body, defers := D } := ⟨_, rfl⟩
  have T1 : Sts w F ((W.alloc (.deferred (some []))).alloc (.loop (rec .ready none))) (objR (D + 1) (.loop (rec .ready none)) :: objR D (.deferred (some [])) :: (own [] ++ (L ++ R))) := by
    have := (T.newObj (.deferred (some []))).newObj (.loop (rec .ready none))
    rw [World.size_alloc, hD] at this
    exact this
  refine ⟨D + 1, [{ target := .collected D, args := #[] }], (W.alloc (.deferred (some []))).alloc (.loop (rec .ready none)), { target := .fn (.func gf) lb, args := #[.func (.yield (D + 1)) #[] #[]] }, (W.alloc (.deferred (some []))).alloc (.loop (rec .ready none)), gf,
    #[.func (.yield (D + 1)) #[] #[]] ++ lb, (W.alloc (.deferred (some []))).alloc (.loop (rec .ready none)), ?_, ?_, ?_, ?_, fun _ => by omega, ?_⟩
  · have := run_enterLoop_outer (P := P) (w := W) fn a.tmps ps assign body
    rw [hD] at this
    rw [hrec]; exact this
  · simp only [resolve, hg]
    simp [go_sem]
  · intro f' hf'; simp [Target.leads] at hf'; subst hf'; trivial
  · simp [invoke, go_sem, eg]
  generalize (W.alloc (.deferred (some []))).alloc (.loop (rec .ready none)) = W1 at *
  refine (hseq (D + 1) (fun pre => objR (D + 1) (.loop (rec .ready none)) :: objR D (.deferred (some [])) :: own pre)
    (fun pre => [exR fun c : Code => packR (objR (D + 1) (.loop (rec .done (some c))) :: objR D (.deferred (some [])) :: ownX c pre)]) ?_ w F W1 R T1).mono ?_
  · intro pre x w2 F2 Wa R2 hx Ta
    have Ta : Sts w2 F2 Wa (objR (D + 1) (.loop (rec .ready none)) :: objR D (.deferred (some [])) :: (own pre ++ (L ++ R2))) := Ta
    have hy := run_yield (P := P) (args := enc x) Ta.obj (by rw [hrec]; exact hps x)
    rw [hrec] at hy
    refine ⟨fn, _, assign, body, hy, roundIn_of_wpIn hfn ?_⟩
    refine hassign (D + 1) pre x w2 F2 Wa (objR (D + 1) (.loop (rec .ready none)) :: objR D (.deferred (some [])) :: R2) _ hx (Ta.perm perm_front.symm) fun a' W' own' hax T' => ?_
    have Td := T'.perm perm_front
    refine ⟨_, run_beginRound Td.obj (by rw [hrec]), ?_⟩
    have Te := Td.putObj (.loop (rec .busy none))
    have er : ({ rec .ready none with state := .busy } : Loop) = rec .busy none := by rw [hrec]
    rw [er]
    have Tf := Te.perm (perm_front (X := own') (L := L) (R := R2)).symm
    have fin : ∀ (jump : Option Code) (M : List Res) (W3 : World), Sts w2 F2 W3 (M ++ (L ++ (objR (D + 1) (.loop (rec .busy none)) :: objR D (.deferred (some [])) :: R2))) →
        (Instr.endRound (D + 1) jump).run P W3 = .ok (.bool jump.isNone) (W3.putObj (D + 1) (.loop (rec (if jump.isNone then .ready else .done) jump))) ∧
        Sts w2 F2 (W3.putObj (D + 1) (.loop (rec (if jump.isNone then .ready else .done) jump))) (objR (D + 1) (.loop (rec (if jump.isNone then .ready else .done) jump)) :: objR D (.deferred (some [])) :: (M ++ (L ++ R2))) := fun jump M W3 hS => by
      have Th := hS.perm perm_front
      have h1 := run_endRound (P := P) jump Th.obj
      have e2 : ({ rec .busy none with state := if jump.isNone then .ready else .done, pending := jump } : Loop) = rec (if jump.isNone then .ready else .done) jump := by rw [hrec]
      rw [e2] at h1
      exact ⟨h1, Th.putObj _⟩
    have finX : ∀ (c : Code) (W3 : World), Sts w2 F2 W3 (ownX c (pre ++ [x]) ++ (L ++ (objR (D + 1) (.loop (rec .busy none)) :: objR D (.deferred (some [])) :: R2))) → ∃ v W4, (Instr.endRound (D + 1) (some c)).run P W3 = .ok v W4 ∧ v = .bool false ∧ Sts w2 F2 W4 ([exR fun c : Code => packR (objR (D + 1) (.loop (rec .done (some c))) :: objR D (.deferred (some [])) :: ownX c (pre ++ [x]))] ++ (L ++ R2)) := fun c W3 hS => by
      obtain ⟨h1, h2⟩ := fin (some c) _ W3 hS
      exact ⟨_, _, h1, rfl, Sts.close c (Sts.pack (L := objR (D + 1) (.loop (rec .done (some c))) :: objR D (.deferred (some [])) :: ownX c (pre ++ [x])) h2)⟩
    refine wpIn_mono (hbody (D + 1) pre x a' own' w2 F2 _ (objR (D + 1) (.loop (rec .busy none)) :: objR D (.deferred (some [])) :: R2) hx hax Tf) ?_
    rintro e a3 W3 hp
    cases e with
    | normal =>
      obtain ⟨h1, h2⟩ := fin none _ W3 hp
      exact ⟨_, _, h1, .inl ⟨rfl, h2⟩⟩
    | ret =>
      obtain ⟨v, W4, h1, rfl, h2⟩ := finX .ret W3 hp
      exact ⟨_, _, h1, .inr ⟨rfl, h2⟩⟩
    | exit id =>
      obtain ⟨v, W4, h1, rfl, h2⟩ := finX (.exit id) W3 hp
      exact ⟨_, _, h1, .inr ⟨rfl, h2⟩⟩
    | goto t =>
      obtain ⟨v, W4, h1, rfl, h2⟩ := finX (.goto t) W3 hp
      exact ⟨_, _, h1, .inr ⟨rfl, h2⟩⟩
    | panic ch => exact hp.elim
    | outgrown => exact hp.elim
  · rintro e W2 ⟨⟨v, rfl⟩, (⟨xs, hxs, hJ⟩ | ⟨pre, hJ⟩)⟩
    · have hJ : Sts w F W2 (objR (D + 1) (.loop (rec .ready none)) :: objR D (.deferred (some [])) :: (own xs ++ (L ++ R))) := hJ
      have h1 := run_endLoop (P := P) hJ.obj (by rw [hrec]; simp)
      have e1 : (rec .ready none).pending = none := by rw [hrec]
      rw [e1] at h1
      exact ⟨none, _, h1, hdone D _ xs hxs (hJ.putObj _).drop⟩
    · obtain ⟨c, hJ⟩ := Sts.open hJ
      have hJ : Sts w F W2 (objR (D + 1) (.loop (rec .done (some c))) :: objR D (.deferred (some [])) :: (ownX c pre ++ (L ++ R))) := hJ.unpack
      have h1 := run_endLoop (P := P) hJ.obj (by rw [hrec]; simp)
      have e1 : (rec .done (some c)).pending = some c := by rw [hrec]
      rw [e1] at h1
      exact ⟨some c, _, h1, hstop D c pre _ (hJ.putObj _).drop⟩
end
end Go.Proofs.YtfgacjglfdehbaaGreatDoor
/- Things as they were at some time: a footprint, held fast. Nothing of the program stands here. -/
namespace Go.Proofs.YtfgacjglfdehbaaGreatDoor
open Go.RowKit
set_option linter.unusedVariables false
/-- The blocks H, as they were in W0. -/
def pinR (H : Nat → Prop) (W0 : World) : Res where
  sat F W := (∀ k, F k ↔ H k) ∧ ∀ k, H k → k < W0.heap.size ∧ W.heap[k]? = W0.heap[k]?
  stay h hs := ⟨hs.1, fun k hk => ⟨(hs.2 k hk).1, (h k ((hs.1 k).2 hk)).trans (hs.2 k hk).2⟩⟩
  lt := fun {F W} hs k hk => by
    obtain ⟨h1, h2⟩ := hs.2 k ((hs.1 k).1 hk)
    rw [Array.getElem?_eq_getElem h1] at h2
    exact (Array.getElem?_eq_some_iff.1 h2).1
section
variable {w W W0 : World} {F H G : Nat → Prop} {L R X : List Res}
theorem Sts.pin (T : Sts w F W (L ++ R)) : ∃ H, Sat W L H ∧ Sts w F W (pinR H W :: R) := by
  obtain ⟨⟨G, hs, hG⟩, m⟩ := T
  obtain ⟨A, B, ha, hb, hd, hf⟩ := hs.parts
  exact ⟨A, ha, ⟨G, ⟨A, B, ⟨fun _ => Iff.rfl, fun k hk => ⟨ha.lt k hk, rfl⟩⟩, hb, hd, hf⟩, hG⟩, m⟩
theorem Sts.pinned (T : Sts w F W (pinR H W0 :: R)) (hS : Sat W0 L G) (hG : ∀ k, G k → H k) : Sat W L G := by
  obtain ⟨A, ha⟩ := T.at0
  exact hS.stay fun k hk => (ha.2 k (hG k hk)).2
theorem Sts.unpin (T : Sts w F W (pinR H W0 :: R)) (hS : Sat W0 L H) : Sts w F W (L ++ R) := by
  obtain ⟨⟨G, ⟨A, B, ha, hb, hd, hf⟩, hG⟩, m⟩ := T
  have hl : Sat W L H := hS.stay fun k hk => (ha.2 k hk).2
  refine ⟨⟨G, (hl.append hb fun k hk => hd k ((ha.1 k).2 hk)).congr fun k => ?_, hG⟩, m⟩
  rw [hf k, ha.1 k]
/-- What is opened of things lies among their blocks. -/
theorem Sts.among (hS : Sat W0 L H) {M : List Res} (T : Sts W0 H W0 M) : ∃ G, Sat W0 M G ∧ ∀ k, G k → H k := by
  obtain ⟨⟨G, hs, hG⟩, m⟩ := T
  exact ⟨G, hs, fun k hk => (hG k hk).elim id fun h => absurd (hs.lt k hk) (by omega)⟩
theorem perm_one {a : Res} : (X ++ ([a] ++ R)).Perm (a :: (X ++ R)) := by
  have h : (X ++ a :: R).Perm (a :: (X ++ R)) := List.perm_middle
  exact h
end
end Go.Proofs.YtfgacjglfdehbaaGreatDoor
/- Layer 12: the items that may be in a deed's way (Space.near), for deeds that name one key. -/
namespace Go.Proofs.YtfgacjglfdehbaaGreatDoor
open Go.RowKit Go.Shelf
set_option linter.unusedVariables false
set_option maxRecDepth 20000
attribute [local go_sem] Oper.semAt_some
attribute [local go_sem] row_alloc row_drew row_drewN row_ext row_setCell row_setRow size_ext setRow_alloc setRow_drew loadOf storeOf piece_lit loadVal_at storeVal_at allOne_lit buildOf buildRes_some
attribute [local go_sem high] cell_alloc frozen_alloc setCell_alloc cell_ext frozen_ext cell_setRow frozen_setRow
attribute [local go_sem ↓] TDeed_ld0 TDeed_st0 TDeed_fd0 TDeed_bd0
attribute [local go_sem] TDeed_size TDeed_one TDeed_piece TDeed_c0 TDeed_c1 TDeed_c2 TDeed_c3 TDeed_c4 TDeed_c5 TDeed_set_kind TDeed_set_key TDeed_set_val TDeed_set_ver TDeed_set_ses TDeed_set_num TDeed_ld TDeed_st TDeed_f_kind TDeed_f_key TDeed_f_val TDeed_f_ver TDeed_f_ses TDeed_f_num TDeed_bd TDeed_fl TDeed_fl_kind TDeed_fl_key TDeed_fl_val TDeed_fl_ver TDeed_fl_ses TDeed_fl_num
attribute [local go_sem high] TDeed_eql TDeed_neq
attribute [local go_sem ↓] index_deps0 load_deps0 store_deps0
attribute [local go_sem] DV_piece DV_size DV_one index_deps load_deps store_deps
attribute [local go_sem high] TDeps_eql TDeps_neq
attribute [local go_sem ↓] TCall_ld0 TCall_st0 TCall_fd0 TCall_bd0
attribute [local go_sem] TCall_size TCall_one TCall_piece TCall_c0 TCall_c1 TCall_c2 TCall_c3 TCall_c4 TCall_c5 TCall_c6 TCall_c7 TCall_c8 TCall_c9 TCall_c10 TCall_c11 TCall_c12 TCall_c13 TCall_p_deed TCall_put_deed TCall_p_deps TCall_put_deps TCall_set_seq TCall_ld TCall_st TCall_f_deed TCall_f_deps TCall_f_seq TCall_bd TCall_fl TCall_fl_deed TCall_fl_deps TCall_fl_seq
attribute [local go_sem high] TCall_eql TCall_neq
attribute [local go_sem ↓] TItem_ld0 TItem_st0 TItem_fd0 TItem_bd0
attribute [local go_sem] TItem_size TItem_one TItem_piece TItem_c0 TItem_c1 TItem_set_rep TItem_set_num TItem_ld TItem_st TItem_f_rep TItem_f_num TItem_bd TItem_fl TItem_fl_rep TItem_fl_num
attribute [local go_sem high] TItem_eql TItem_neq
attribute [local go_sem ↓] TBallot_ld0 TBallot_st0 TBallot_fd0 TBallot_bd0
attribute [local go_sem] TBallot_size TBallot_one TBallot_piece TBallot_c0 TBallot_c1 TBallot_set_round TBallot_set_rep TBallot_ld TBallot_st TBallot_f_round TBallot_f_rep TBallot_bd TBallot_fl TBallot_fl_round TBallot_fl_rep
attribute [local go_sem high] TBallot_eql TBallot_neq
attribute [local go_sem ↓] TInst_ld0 TInst_st0 TInst_fd0 TInst_bd0
attribute [local go_sem] TInst_size TInst_one TInst_piece TInst_c0 TInst_c1 TInst_c2 TInst_c3 TInst_c4 TInst_c5 TInst_c6 TInst_c7 TInst_c8 TInst_c9 TInst_c10 TInst_c11 TInst_c12 TInst_c13 TInst_c14 TInst_c15 TInst_c16 TInst_c17 TInst_c18 TInst_c19 TInst_p_prom TInst_put_prom TInst_p_vote TInst_put_vote TInst_set_status TInst_p_call TInst_put_call TInst_set_same TInst_ld TInst_st TInst_f_prom TInst_f_vote TInst_f_status TInst_f_call TInst_f_same TInst_bd TInst_fl TInst_fl_prom TInst_fl_vote TInst_fl_status TInst_fl_call TInst_fl_same
attribute [local go_sem high] TInst_eql TInst_neq
def nearL (s lg bk bs c1 c2 : Nat) (I : Idx) (d : Deed) : List Res := [rowR c1 #[.pointer (some ⟨s, 0, none⟩)], rowR c2 (EV d), idxR s lg bk bs I]
/-- What is read of a space's places, in every world that leaves them. -/
structure NearF (s bk bs c1 c2 : Nat) (I : Idx) (d : Deed) (Al As Ak : Option Addr) (cl cs ck : Nat) (W : World) : Prop where
  c1 : W.cell? ⟨c1, 0, none⟩ = some (.pointer (some ⟨s, 0, none⟩))
  c2 : row? W c2 = some (EV d)
  keys : W.cell? ⟨s, 1, none⟩ = some (.map (some bk))
  lists : W.cell? ⟨s, 2, none⟩ = some (.slice Al I.lists.length cl)
  ses : W.cell? ⟨s, 3, none⟩ = some (.map (some bs))
  lookS : (Instr.lookup 61 (.map (some bs)) (.int .i64 d.ses) false).run Tryz.prog W = .ok (.slice As (I.ses d.ses).length cs) W
  lookK : (Instr.lookup 60 (.map (some bk)) (.string d.key) false).run Tryz.prog W = .ok (.slice Ak (I.keys d.key).length ck) W
  rowsL : RowsIn W Al 2 IV I.lists
  rowsS : RowsIn W As 2 IV (I.ses d.ses)
  rowsK : RowsIn W Ak 2 IV (I.keys d.key)
theorem near_facts (s lg bk bs c1 c2 : Nat) (I : Idx) (hI : IdxOk I) (d : Deed) (hk : d.key.size ≤ maxLen) (hs : intKOk d.ses) (W0 : World) (H : Nat → Prop) (hS : Sat W0 (nearL s lg bk bs c1 c2 I d) H) :
    ∃ Al As Ak cl cs ck, ∀ w F W R, Sts w F W (pinR H W0 :: R) → NearF s bk bs c1 c2 I d Al As Ak cl cs ck W := by
  have T := Sts.start hS
  unfold nearL at T
  obtain ⟨v, T⟩ := (T.ord [2, 0, 1]).idxOpen
  have T1 := T.ord [3, 0, 1, 2, 4, 5]
  obtain ⟨u, n, g, O, hn, hv, T2, -, -⟩ := T1.kmapPick d.ses hs
  have T3 := T2.ord [5, 0, 1, 2, 3, 4, 6, 7]
  obtain ⟨uk, nk, gk, Ok, hnk, hvk, T4, -, -⟩ := T3.kmapPick d.key hk
  obtain ⟨Al, cl, rfl⟩ := vec_shape2 (T4.ord [7, 0, 1, 2, 3, 4, 5, 6])
  obtain ⟨As, cs, rfl⟩ := vec_shape2 (T4.ord [4, 0, 1, 2, 3])
  obtain ⟨Ak, ck, rfl⟩ := vec_shape2 T4.drop
  obtain ⟨G, hG1, hG2⟩ := Sts.among hS T4
  refine ⟨Al, As, Ak, cl, cs, ck, fun w F W R TP => ?_⟩
  have T5 := Sts.start (TP.pinned hG1 hG2)
  clear T T1 T2 T3 T4
  have r1 := (T5.ord [8, 0, 1, 2, 3, 4, 5, 6, 7]).row
  have r2 := (T5.ord [9, 0, 1, 2, 3, 4, 5, 6, 7, 8]).row
  have r3 := (T5.ord [6, 0, 1, 2, 3, 4, 5]).row
  have lS := ((T5.ord [3, 0, 1, 2]).map).look0 intOk Tryz.underlying61 zeroItems d.ses hs hv
  have lK := (T5.map).look0 strOk Tryz.underlying60 zeroItems d.key hk hvk
  have hN := hI.N; have h1 := hI.lists; have h2 := hI.ses d.ses; have h3 := hI.keys d.key
  obtain ⟨A1, q1, e1, R1, -, -⟩ := vec_rows (V := IV) (fun _ => rfl) (T5.ord [7, 0, 1, 2, 3, 4, 5, 6]) (by omega) (by omega)
  obtain ⟨A2, q2, e2, R2, -, -⟩ := vec_rows (V := IV) (fun _ => rfl) (T5.ord [4, 0, 1, 2, 3]) (by omega) (by omega)
  obtain ⟨A3, q3, e3, R3, -, -⟩ := vec_rows (V := IV) (fun _ => rfl) T5.drop (by omega) (by omega)
  injection e1 with e1; subst e1
  injection e2 with e2; subst e2
  injection e3 with e3; subst e3
  exact ⟨row_cell r1 0, r2, row_cell r3 1, row_cell r3 2, row_cell r3 3, lS, lK, R1, R2, R3⟩
theorem items_i : ∃ i, Tryz.prog.info? 62 = some i ∧ i.zero = some (.slice none 0 0) ∧ i.size = 1 ∧ i.bytes = 24 := by
  have h : (Tryz.prog.info? 62).map (fun i => (i.zero, i.size, i.bytes)) = some (some (.slice none 0 0), 1, 24) := by kernel_rfl
  cases hi : Tryz.prog.info? 62 with
  | none => rw [hi] at h; simp at h
  | some i => rw [hi] at h; simp at h; exact ⟨i, rfl, h.1, h.2.1, h.2.2⟩
theorem perm_pre {M X R : List Res} : (M ++ (X ++ R)).Perm (X ++ (M ++ R)) := by
  rw [← List.append_assoc, ← List.append_assoc]
  exact List.perm_append_comm.append_right R
set_option maxHeartbeats 8000000 in
theorem nearG (s lg bk bs c1 c2 : Nat) (I : Idx) (hI : IdxOk I) (d : Deed) (h5 : ¬ d.kind = 5) (hk : d.key.size ≤ maxLen) (hs : intKOk d.ses) (W0 : World) (H : Nat → Prop) (hS : Sat W0 (nearL s lg bk bs c1 c2 I d) H) :
    GivesD Tryz.prog 86 #[.pointer (some ⟨c1, 0, none⟩), .pointer (some ⟨c2, 0, none⟩)] (fun x : Item => #[.agg (IV x)]) [pinR H W0] (fun xs => xs = I.lists ++ I.ses d.ses ++ I.keys d.key) := by
  obtain ⟨Al, As, Ak, cl, cs, ck, hF⟩ := near_facts s lg bk bs c1 c2 I hI d hk hs W0 H hS
  have HF := Lib.hid hF; clear hF hS
  intro l own ownX hY w F W R T
  have HY := Lib.hid hY; clear hY
  have T : Sts w F W (pinR H W0 :: (own [] ++ R)) := T.perm perm_one
  have HT := Lib.hid T; clear T
  refine callsIn_of_wp Tryz.func86 rfl trivial ?_ rfl
  simp only [Tryz.ntmps86, List.size_toArray, List.length_cons, List.length_nil, Nat.reduceAdd, Nat.reduceSub, Array.replicate_succ, Array.replicate_zero, List.push_toArray, List.append_toArray, List.nil_append, List.cons_append]
  gi_wp2_with fail
  have FS : ∀ W' R', Sts w F W' (pinR H W0 :: R') → (W'.cell? ⟨c1, 0, none⟩ = some (.pointer (some ⟨s, 0, none⟩)) ∧ W'.cell? ⟨c2, 4, none⟩ = some (.int .i64 d.ses) ∧ W'.cell? ⟨s, 2, none⟩ = some (.slice Al I.lists.length cl) ∧ W'.cell? ⟨s, 3, none⟩ = some (.map (some bs)) ∧ (Instr.lookup 61 (.map (some bs)) (.int .i64 d.ses) false).run Tryz.prog W' = .ok (.slice As (I.ses d.ses).length cs) W') := fun W' R' T => by
    have f := HF.out _ _ _ _ T
    exact ⟨f.c1, row_cell f.c2 4, f.lists, f.ses, f.lookS⟩
  have S0 := FS _ _ HT.out.drew
  have HFS := Lib.hid FS; clear FS
  refine wpIn_wide.2 ?_
  refine wp_region_held_drew (S := fun W' => (W'.cell? ⟨c1, 0, none⟩ = some (.pointer (some ⟨s, 0, none⟩)) ∧ W'.cell? ⟨c2, 4, none⟩ = some (.int .i64 d.ses) ∧ W'.cell? ⟨s, 2, none⟩ = some (.slice Al I.lists.length cl) ∧ W'.cell? ⟨s, 3, none⟩ = some (.map (some bs)) ∧ (Instr.lookup 61 (.map (some bs)) (.int .i64 d.ses) false).run Tryz.prog W' = .ok (.slice As (I.ses d.ses).length cs) W')) (by kernel_rfl) S0 (fun hHeld => ?_)
  clear S0
  refine wpAnyH_take (i := 0) (oi := _) (v := ?_) rfl (by kernel_rfl) (by kernel_rfl) (by kernel_rfl) (fun _ _ _ h => h) (Or.inl ⟨by kernel_rfl, ?_⟩) (by assumption) ?_
  rotate_left
  · (intro w hSw; (try dsimp only at hSw); go_simp; try (with_reducible rfl))
  simp only [Act.put, List.getElem_toArray, List.getElem_cons_zero, List.setIfInBounds_toArray, List.set_cons_zero, List.set_cons_succ]
  refine wpAnyH_take (i := 1) (oi := _) (v := ?_) rfl (by kernel_rfl) (by kernel_rfl) (by kernel_rfl) (fun _ _ _ h => h) (Or.inl ⟨by kernel_rfl, ?_⟩) (by assumption) ?_
  rotate_left
  · (intro w hSw; (try dsimp only at hSw); go_simp; try (with_reducible rfl))
  simp only [Act.put, List.getElem_toArray, List.getElem_cons_succ, List.getElem_cons_zero, List.setIfInBounds_toArray, List.set_cons_zero, List.set_cons_succ]
  refine wpAnyH_take (i := 2) (oi := _) (v := ?_) rfl (by kernel_rfl) (by kernel_rfl) (by kernel_rfl) (fun _ _ _ h => h) (Or.inl ⟨by kernel_rfl, ?_⟩) (by assumption) ?_
  rotate_left
  · (intro w hSw; (try dsimp only at hSw); go_simp; try (with_reducible rfl))
  simp only [Act.put, List.getElem_toArray, List.getElem_cons_succ, List.getElem_cons_zero, List.setIfInBounds_toArray, List.set_cons_zero, List.set_cons_succ]
  refine wpAnyH_take (i := 3) (oi := _) (v := ?_) rfl (by kernel_rfl) (by kernel_rfl) (by kernel_rfl) (fun _ _ _ h => h) (Or.inl ⟨by kernel_rfl, ?_⟩) (by assumption) ?_
  rotate_left
  · (intro w hSw; (try dsimp only at hSw); go_simp; try (with_reducible rfl))
  simp only [Act.put, List.getElem_toArray, List.getElem_cons_succ, List.getElem_cons_zero, List.setIfInBounds_toArray, List.set_cons_zero, List.set_cons_succ]
  refine wpAnyH_take (i := 4) (oi := _) (v := ?_) rfl (by kernel_rfl) (by kernel_rfl) (by kernel_rfl) (fun _ _ _ h => h) (Or.inl ⟨by kernel_rfl, ?_⟩) (by assumption) ?_
  rotate_left
  · (intro w hSw; (try dsimp only at hSw); go_simp; try (with_reducible rfl))
  simp only [Act.put, List.getElem_toArray, List.getElem_cons_succ, List.getElem_cons_zero, List.setIfInBounds_toArray, List.set_cons_zero, List.set_cons_succ]
  refine wpAnyH_take (i := 5) (oi := _) (v := ?_) rfl (by kernel_rfl) (by kernel_rfl) (by kernel_rfl) (fun _ _ _ h => h) (Or.inl ⟨by kernel_rfl, ?_⟩) (by assumption) ?_
  rotate_left
  · (intro w hSw; (try dsimp only at hSw); go_simp; try (with_reducible rfl))
  simp only [Act.put, List.getElem_toArray, List.getElem_cons_succ, List.getElem_cons_zero, List.setIfInBounds_toArray, List.set_cons_zero, List.set_cons_succ]
  refine wpAnyH_take (i := 6) (oi := _) (v := ?_) rfl (by kernel_rfl) (by kernel_rfl) (by kernel_rfl) (fun _ _ _ h => h) (Or.inl ⟨by kernel_rfl, ?_⟩) (by assumption) ?_
  rotate_left
  · (intro w hSw; (try dsimp only at hSw); go_simp; try (with_reducible rfl))
  simp only [Act.put, List.getElem_toArray, List.getElem_cons_succ, List.getElem_cons_zero, List.setIfInBounds_toArray, List.set_cons_zero, List.set_cons_succ]
  refine wpAnyH_take (i := 7) (oi := _) (v := ?_) rfl (by kernel_rfl) (by kernel_rfl) (by kernel_rfl) (fun _ _ _ h => h) (Or.inl ⟨by kernel_rfl, ?_⟩) (by assumption) ?_
  rotate_left
  · (intro w hSw; (try dsimp only at hSw); go_simp; try (with_reducible rfl))
  simp only [Act.put, List.getElem_toArray, List.getElem_cons_succ, List.getElem_cons_zero, List.setIfInBounds_toArray, List.set_cons_zero, List.set_cons_succ]
  refine wpAnyH_take (i := 8) (oi := _) (v := ?_) rfl (by kernel_rfl) (by kernel_rfl) (by kernel_rfl) (fun _ _ _ h => h) (Or.inl ⟨by kernel_rfl, ?_⟩) (by assumption) ?_
  rotate_left
  · (intro w hSw; (try dsimp only at hSw); go_simp; try (with_reducible rfl))
  simp only [Act.put, List.getElem_toArray, List.getElem_cons_succ, List.getElem_cons_zero, List.setIfInBounds_toArray, List.set_cons_zero, List.set_cons_succ]
  refine wpAnyH_take (i := 9) (oi := _) (v := ?_) rfl (by kernel_rfl) (by kernel_rfl) (by kernel_rfl) (fun _ _ _ h => h) (Or.inl ⟨by kernel_rfl, ?_⟩) (by assumption) ?_
  rotate_left
  · (intro w hSw; (try dsimp only at hSw); go_simp; try (with_reducible rfl))
  simp only [Act.put, List.getElem_toArray, List.getElem_cons_succ, List.getElem_cons_zero, List.setIfInBounds_toArray, List.set_cons_zero, List.set_cons_succ]
  refine wpAnyH_take (i := 10) (oi := _) (v := ?_) rfl (by kernel_rfl) (by kernel_rfl) (by kernel_rfl) (fun _ _ _ h => h) (Or.inl ⟨by kernel_rfl, ?_⟩) (by assumption) ?_
  rotate_left
  · (intro w hSw; (try dsimp only at hSw); go_simp; try (with_reducible rfl))
  simp only [Act.put, List.getElem_toArray, List.getElem_cons_succ, List.getElem_cons_zero, List.setIfInBounds_toArray, List.set_cons_zero, List.set_cons_succ]
  refine wpAnyH_ready (rs := [11]) (by kernel_rfl) (by simp) ?_
  refine AllReadyH.cons (o := _) rfl (fun K hK => ?_) AllReadyH.nil
  have Ta := (HT.out.vecNew #[.slice Al I.lists.length cl, .slice As (I.ses d.ses).length cs] 62 1 2 rfl (by unfold maxLen; omega)).drew
  have HTa := Lib.hid (Ta.ord [1, 0]); clear Ta HT
  go_simp
  refine hK.out _ _ (HFS.out _ _ HTa.out) (fun hHeld => ?_)
  clear hK K HFS
  refine wpAnyH_take (i := 12) (oi := _) (v := ?_) rfl (by kernel_rfl) (by kernel_rfl) (by kernel_rfl) (fun _ _ _ h => h) (Or.inl ⟨by kernel_rfl, ?_⟩) (by assumption) ?_
  rotate_left
  · (intro w hSw; (try dsimp only at hSw); go_simp; try (with_reducible rfl))
  simp only [Act.put, List.getElem_toArray, List.getElem_cons_succ, List.getElem_cons_zero, List.setIfInBounds_toArray, List.set_cons_zero, List.set_cons_succ]
  refine wpAnyH_done (by kernel_rfl) ?_ _
  simp only [Exit.then]
  generalize hw1 : (W.alloc _).drew = w1 at *
  generalize W.heap.size = g0 at *
  clear hw1
  have r2 := (HF.out _ _ _ _ HTa.out).c2; have l2 := row_lt r2; have c20 := row_cell r2 0
  have h5b : (d.kind == 5) = false := by simpa using h5
  gi_wp2_with fail
  clear r2 l2 c20
  have FS : ∀ W' R', Sts w F W' (pinR H W0 :: R') → (W'.cell? ⟨c1, 0, none⟩ = some (.pointer (some ⟨s, 0, none⟩)) ∧ W'.cell? ⟨c2, 1, none⟩ = some (.string d.key) ∧ W'.cell? ⟨s, 1, none⟩ = some (.map (some bk)) ∧ (Instr.lookup 60 (.map (some bk)) (.string d.key) false).run Tryz.prog W' = .ok (.slice Ak (I.keys d.key).length ck) W') := fun W' R' T => by
    have f := HF.out _ _ _ _ T
    exact ⟨f.c1, row_cell f.c2 1, f.keys, f.lookK⟩
  have S0 := FS _ _ HTa.out.drew
  have HFS := Lib.hid FS; clear FS
  refine wpIn_wide.2 ?_
  refine wp_region_held_drew (S := fun W' => (W'.cell? ⟨c1, 0, none⟩ = some (.pointer (some ⟨s, 0, none⟩)) ∧ W'.cell? ⟨c2, 1, none⟩ = some (.string d.key) ∧ W'.cell? ⟨s, 1, none⟩ = some (.map (some bk)) ∧ (Instr.lookup 60 (.map (some bk)) (.string d.key) false).run Tryz.prog W' = .ok (.slice Ak (I.keys d.key).length ck) W')) (by kernel_rfl) S0 (fun hHeld => ?_)
  clear S0
  refine wpAnyH_take (i := 0) (oi := _) (v := ?_) rfl (by kernel_rfl) (by kernel_rfl) (by kernel_rfl) (fun _ _ _ h => h) (Or.inl ⟨by kernel_rfl, ?_⟩) (by assumption) ?_
  rotate_left
  · (intro w hSw; (try dsimp only at hSw); go_simp; try (with_reducible rfl))
  simp only [Act.put, List.getElem_toArray, List.getElem_cons_zero, List.setIfInBounds_toArray, List.set_cons_zero, List.set_cons_succ]
  refine wpAnyH_take (i := 1) (oi := _) (v := ?_) rfl (by kernel_rfl) (by kernel_rfl) (by kernel_rfl) (fun _ _ _ h => h) (Or.inl ⟨by kernel_rfl, ?_⟩) (by assumption) ?_
  rotate_left
  · (intro w hSw; (try dsimp only at hSw); go_simp; try (with_reducible rfl))
  simp only [Act.put, List.getElem_toArray, List.getElem_cons_succ, List.getElem_cons_zero, List.setIfInBounds_toArray, List.set_cons_zero, List.set_cons_succ]
  refine wpAnyH_take (i := 2) (oi := _) (v := ?_) rfl (by kernel_rfl) (by kernel_rfl) (by kernel_rfl) (fun _ _ _ h => h) (Or.inl ⟨by kernel_rfl, ?_⟩) (by assumption) ?_
  rotate_left
  · (intro w hSw; (try dsimp only at hSw); go_simp; try (with_reducible rfl))
  simp only [Act.put, List.getElem_toArray, List.getElem_cons_succ, List.getElem_cons_zero, List.setIfInBounds_toArray, List.set_cons_zero, List.set_cons_succ]
  refine wpAnyH_take (i := 3) (oi := _) (v := ?_) rfl (by kernel_rfl) (by kernel_rfl) (by kernel_rfl) (fun _ _ _ h => h) (Or.inl ⟨by kernel_rfl, ?_⟩) (by assumption) ?_
  rotate_left
  · (intro w hSw; (try dsimp only at hSw); go_simp; try (with_reducible rfl))
  simp only [Act.put, List.getElem_toArray, List.getElem_cons_succ, List.getElem_cons_zero, List.setIfInBounds_toArray, List.set_cons_zero, List.set_cons_succ]
  refine wpAnyH_take (i := 4) (oi := _) (v := ?_) rfl (by kernel_rfl) (by kernel_rfl) (by kernel_rfl) (fun _ _ _ h => h) (Or.inl ⟨by kernel_rfl, ?_⟩) (by assumption) ?_
  rotate_left
  · (intro w hSw; (try dsimp only at hSw); go_simp; try (with_reducible rfl))
  simp only [Act.put, List.getElem_toArray, List.getElem_cons_succ, List.getElem_cons_zero, List.setIfInBounds_toArray, List.set_cons_zero, List.set_cons_succ]
  refine wpAnyH_take (i := 5) (oi := _) (v := ?_) rfl (by kernel_rfl) (by kernel_rfl) (by kernel_rfl) (fun _ _ _ h => h) (Or.inl ⟨by kernel_rfl, ?_⟩) (by assumption) ?_
  rotate_left
  · (intro w hSw; (try dsimp only at hSw); go_simp; try (with_reducible rfl))
  simp only [Act.put, List.getElem_toArray, List.getElem_cons_succ, List.getElem_cons_zero, List.setIfInBounds_toArray, List.set_cons_zero, List.set_cons_succ]
  refine wpAnyH_take (i := 6) (oi := _) (v := ?_) rfl (by kernel_rfl) (by kernel_rfl) (by kernel_rfl) (fun _ _ _ h => h) (Or.inl ⟨by kernel_rfl, ?_⟩) (by assumption) ?_
  rotate_left
  · (intro w hSw; (try dsimp only at hSw); go_simp; try (with_reducible rfl))
  simp only [Act.put, List.getElem_toArray, List.getElem_cons_succ, List.getElem_cons_zero, List.setIfInBounds_toArray, List.set_cons_zero, List.set_cons_succ]
  refine wpAnyH_take (i := 7) (oi := _) (v := ?_) rfl (by kernel_rfl) (by kernel_rfl) (by kernel_rfl) (fun _ _ _ h => h) (Or.inl ⟨by kernel_rfl, ?_⟩) (by assumption) ?_
  rotate_left
  · (intro w hSw; (try dsimp only at hSw); go_simp; try (with_reducible rfl))
  simp only [Act.put, List.getElem_toArray, List.getElem_cons_succ, List.getElem_cons_zero, List.setIfInBounds_toArray, List.set_cons_zero, List.set_cons_succ]
  refine wpAnyH_ready (rs := [8]) (by kernel_rfl) (by simp) ?_
  refine AllReadyH.cons (o := _) rfl (fun K hK => ?_) AllReadyH.nil
  have Tb := (HTa.out.new #[.slice Ak (I.keys d.key).length ck] 62).drew
  have HTb := Lib.hid (Tb.ord [1, 0, 2]); clear Tb HTa
  go_simp
  refine hK.out _ _ (HFS.out _ _ HTb.out) (fun hHeld => ?_)
  clear hK K
  generalize hw2 : (w1.alloc _).drew = w2 at *
  generalize w1.heap.size = g1 at *
  clear hw2
  refine wpAnyH_ready (rs := [9]) (by kernel_rfl) (by simp) ?_
  refine AllReadyH.cons (o := _) rfl (fun K hK => ?_) AllReadyH.nil
  obtain ⟨i0, hi, hz0, hz1, hz2⟩ := items_i
  have Tc := HTb.out.ord [2, 1, 0]
  clear HTb
  refine step_append_vec (by rfl) _ _ _ (by rfl) 62 i0 _ 1 24 Tryz.underlying147 hi hz0 hz1 hz2 rfl (by omega) (.slice (some ⟨g0, 0, none⟩) 2 2) 2 [.slice Al I.lists.length cl, .slice As (I.ses d.ses).length cs] (by rfl) Tc ⟨g1, 0, none⟩ 1 1 [.slice Ak (I.keys d.key).length ck] (by rfl) (by rfl) (news_row Tc.row1) (by simp [Value.oneCell']) (by omega) (by unfold maxLen; omega) (by omega) ?_
  intro gv cap w3 T3
  have T4 := T3.ord [2, 0, 1]
  refine hK.out _ _ (HFS.out _ _ T4) (fun hHeld => ?_)
  clear hK K HFS Tc T3
  refine wpAnyH_take (i := 10) (oi := _) (v := ?_) rfl (by kernel_rfl) (by kernel_rfl) (by kernel_rfl) (fun _ _ _ h => h) (Or.inl ⟨by kernel_rfl, ?_⟩) (by assumption) ?_
  rotate_left
  · (intro w hSw; (try dsimp only at hSw); go_simp; try (with_reducible rfl))
  simp only [Act.put, List.getElem_toArray, List.getElem_cons_succ, List.getElem_cons_zero, List.setIfInBounds_toArray, List.set_cons_zero, List.set_cons_succ]
  refine wpAnyH_done (by kernel_rfl) ?_ _
  simp only [Exit.then]
  have T5 : Sts w F w3 (pinR H W0 :: vecR 62 1 (.slice (some ⟨gv, 0, none⟩) 3 cap) 3 [.slice Al I.lists.length cl, .slice As (I.ses d.ses).length cs, .slice Ak (I.keys d.key).length ck] :: rowR g1 #[.slice Ak (I.keys d.key).length ck] :: (own [] ++ R)) := T4
  have HT := Lib.hid T5; clear T4 T5
  gi_wp2_with fail
  obtain ⟨tot, htot⟩ : ∃ tot, tot = I.lists ++ I.ses d.ses ++ I.keys d.key := ⟨_, rfl⟩
  obtain ⟨sm, hsm⟩ : ∃ sm : Nat → List Item, sm = fun i => (([I.lists, I.ses d.ses, I.keys d.key] : List (List Item)).take i).flatten := ⟨_, rfl⟩
  have hsm0 : sm 0 = [] := by rw [hsm]; rfl
  have hsm3 : sm 3 = tot := by rw [hsm, htot]; simp
  have hrow : ∀ (w : World) (F : Nat → Prop) (W : World) (R : List Res) (i : Nat), i < 3 → Sts w F W (pinR H W0 :: vecR 62 1 (.slice (some ⟨gv, 0, none⟩) 3 cap) 3 [.slice Al I.lists.length cl, .slice As (I.ses d.ses).length cs, .slice Ak (I.keys d.key).length ck] :: R) →
      ∃ A c li rest, W.cell? ⟨gv, i, none⟩ = some (.slice A (List.length li) c) ∧ (∀ w F W R, Sts w F W (pinR H W0 :: R) → RowsIn W A 2 IV li) ∧ sm (i + 1) = sm i ++ li ∧ tot = sm i ++ li ++ rest := fun w F W R i hi T => by
    have hv := vec_rows (V := fun v : Value => #[v]) (l := [.slice Al I.lists.length cl, .slice As (I.ses d.ses).length cs, .slice Ak (I.keys d.key).length ck]) (fun _ => rfl) (e := 62) (size := 1) T.drop (by omega) (by simp)
    obtain ⟨A', c', e1, hR, -, -⟩ := hv
    injection e1 with e1; subst e1
    have hone : ∀ j (hj : j < 3) v, ([.slice Al I.lists.length cl, .slice As (I.ses d.ses).length cs, .slice Ak (I.keys d.key).length ck] : List Value)[j]? = some v → W.cell? ⟨gv, j, none⟩ = some v := fun j hj v h => by
      have h2 := hR.one (Below.refl _ _) (j := j) (by simpa using hj) 0 v (by
        obtain ⟨h3, h4⟩ := List.getElem?_eq_some_iff.1 h
        rw [h4]; rfl)
      rw [Nat.mul_one, Nat.add_zero] at h2
      exact h2
    match i, hi with
    | 0, _ => exact ⟨Al, cl, I.lists, I.ses d.ses ++ I.keys d.key, hone 0 (by omega) _ rfl, fun _ _ _ _ T => (HF.out _ _ _ _ T).rowsL, by rw [hsm]; simp, by rw [htot, hsm0]; simp⟩
    | 1, _ => exact ⟨As, cs, I.ses d.ses, I.keys d.key, hone 1 (by omega) _ rfl, fun _ _ _ _ T => (HF.out _ _ _ _ T).rowsS, by rw [hsm]; simp, by rw [htot, hsm]; simp⟩
    | 2, _ => exact ⟨Ak, ck, I.keys d.key, [], hone 2 (by omega) _ rfl, fun _ _ _ _ T => (HF.out _ _ _ _ T).rowsK, by rw [hsm]; simp, by rw [htot, hsm]; simp⟩
  have HROW := Lib.hid hrow
  have HT2 : Sts w F w3 (pinR H W0 :: vecR 62 1 (.slice (some ⟨gv, 0, none⟩) 3 cap) 3 [.slice Al I.lists.length cl, .slice As (I.ses d.ses).length cs, .slice Ak (I.keys d.key).length ck] :: rowR g1 #[.slice Ak (I.keys d.key).length ck] :: (own (sm 0) ++ R)) := by rw [hsm0]; exact HT.out
  have HT := Lib.hid HT2
  have HTOT := Lib.hid htot; have HSM3 := Lib.hid hsm3
  clear hrow HT2 hsm hsm0 hsm3 htot
  gi_loopw [56] (fun i wr => ∃ r : Nat, r ≤ 3 ∧ i = .int .i64 r ∧ Sts w F wr (pinR H W0 :: vecR 62 1 (.slice (some ⟨gv, 0, none⟩) 3 cap) 3 [.slice Al I.lists.length cl, .slice As (I.ses d.ses).length cs, .slice Ak (I.keys d.key).length ck] :: rowR g1 #[.slice Ak (I.keys d.key).length ck] :: (own (sm r) ++ R))) (fun i _ => 3 - (intOf i).toNat)
  case atStart => exact ⟨0, by omega, rfl, HT.out⟩
  case round =>
    clear HT
    obtain ⟨r, hr3, rfl, T⟩ := hrel
    by_cases hlt : r < 3
    · have hlt' : (0 : Int) ≤ (r : Int) ∧ (r : Int) < 3 := by omega
      obtain ⟨A, c, li, rest, hcell, hrows, hsr, htr⟩ := HROW.out _ _ _ _ r hlt T
      have HRW := Lib.hid hrows; have HSR := Lib.hid hsr; have HTR := Lib.hid htr; have HT := Lib.hid T
      have hll := (hrows _ _ _ _ T).len
      clear hrows hsr htr T
      gi_wp2_with fail
      clear hcell
      gi_loopw [62] (fun j wr => ∃ k : Nat, k ≤ li.length ∧ j = .int .i64 k ∧ Sts w F wr (pinR H W0 :: vecR 62 1 (.slice (some ⟨gv, 0, none⟩) 3 cap) 3 [.slice Al I.lists.length cl, .slice As (I.ses d.ses).length cs, .slice Ak (I.keys d.key).length ck] :: rowR g1 #[.slice Ak (I.keys d.key).length ck] :: (own (sm r ++ li.take k) ++ R))) (fun j _ => li.length - (intOf j).toNat)
      case atStart => exact ⟨0, Nat.zero_le _, rfl, by rw [List.take_zero, List.append_nil]; exact HT.out⟩
      case round =>
        clear HT
        obtain ⟨k, hk, rfl, T⟩ := hrel
        by_cases hkl : k < li.length
        · have hR := HRW.out _ _ _ _ T
          cases A with
          | none => have := hR.nil rfl; subst this; simp at hkl
          | some a =>
            have hld := hR.load (P := Tryz.prog) (T := 32) (fun _ => rfl) TItem_und rfl (by kernel_rfl) (Below.refl _ _) rfl hkl
            have hpost : ∃ post, sm r ++ li.take k ++ li[k] :: post = I.lists ++ I.ses d.ses ++ I.keys d.key := by
              refine ⟨li.drop (k + 1) ++ rest, ?_⟩
              rw [← HTOT.out, HTR.out]
              have h1 : li.take k ++ li[k] :: li.drop (k + 1) = li := by rw [List.getElem_cons_drop, List.take_append_drop]
              have h2 : sm r ++ li ++ rest = sm r ++ (li.take k ++ li[k] :: li.drop (k + 1)) ++ rest := by rw [h1]
              rw [h2]
              simp only [List.append_assoc, List.cons_append]
            have htk : sm r ++ li.take (k + 1) = sm r ++ li.take k ++ [li[k]] := by rw [List.take_succ_eq_append_getElem hkl, List.append_assoc]
            have hk3 : (k : Int) < (li.length : Int) := by omega
            have hk0 : (0 : Int) ≤ (k : Int) := by omega
            generalize li[k] = x at *
            have T2 := T.new (IV x) 32
            have T3 := T2.ord [1, 0, 2, 3]
            have hY := HY.out (sm r ++ li.take k) x w F _ _ hpost (T3.perm (perm_pre (M := [_, _, _, _])))
            have HTK := Lib.hid htk
            have r1 := T2.row; have l1 := row_lt r1
            clear hR hpost T T2 T3 htk
            obtain ⟨fn, tmps, assign, body, hy, hRR⟩ := hY
            gi_wp2_with fail
            refine hRR.mono ?_
            clear hy hRR r1 l1 hld
            rintro e W3 (⟨rfl, T⟩ | ⟨rfl, T⟩)
            · have T5 := (T.perm (perm_pre (M := [_, _, _, _])).symm).ord [1, 0, 2, 3]
              have HT := Lib.hid T5.drop; clear T T5
              gi_wp2
              refine ⟨⟨_, _, _, _, _, _, _, _, _, _, ?rel, rfl⟩, ?measure⟩
              case rel => exact ⟨k + 1, by omega, by go_num, by rw [HTK.out]; exact HT.out⟩
              case measure => simp [intOf]; omega
            · have T5 := (T.perm (perm_pre (M := [_, _, _, _])).symm).ord [1, 2, 3, 0]
              have T6 := T5.drop.drop.drop
              have HT := Lib.hid (T6.perm (perm_pre (M := [_]))); clear T T5 T6
              gi_wp2
              refine bodyPost_ret (results_none rfl _ _ _) rfl ?_
              exact ⟨⟨_, rfl⟩, .inr ⟨_, HT.out⟩⟩
        · obtain rfl : k = li.length := by omega
          rw [List.take_length, ← HSR.out] at T
          have HT := Lib.hid T; clear T
          gi_wp2
          go_roundw
          case rel => exact ⟨r + 1, by omega, by go_num, HT.out⟩
          case measure => simp [intOf]; omega
    · obtain rfl : r = 3 := by omega
      rw [HSM3.out] at T
      have T6 := (T.ord [1, 2, 0]).drop.drop
      have HT := Lib.hid (T6.perm (perm_pre (M := [_]))); clear T T6
      gi_wp2
      go_end0
      exact ⟨⟨_, rfl⟩, .inl ⟨tot, HTOT.out, HT.out⟩⟩
end Go.Proofs.YtfgacjglfdehbaaGreatDoor

namespace Go.Proofs.YtfgacjglfdehbaaGreatDoor
open Go.RowKit
attribute [local go_sem] row_alloc row_drew row_drewN row_ext row_setCell row_setRow size_ext setRow_alloc setRow_drew loadOf storeOf piece_lit DV_piece loadVal_at storeVal_at allOne_lit DV_size DV_one
attribute [local go_sem high] cell_alloc frozen_alloc setCell_alloc cell_ext frozen_ext
attribute [local go_sem ↓] index_deps0 load_deps0 store_deps0
attribute [local go_sem] index_deps load_deps store_deps
/-! The document's Has: the same, by a loop. -/
end Go.Proofs.YtfgacjglfdehbaaGreatDoor
