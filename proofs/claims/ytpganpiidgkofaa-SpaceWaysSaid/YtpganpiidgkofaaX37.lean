/- Several texts in one. -/
import Derived.Test.YtpganpiidgkofaaX36
import Derived.Test.YtpganpiidgkofaaX6
/- Layer 24, the plain law: dumps told twice; what the ties tell hangs on what is committed alone. -/
namespace Go.Proofs.Ytpganpiidgkofaa
set_option linter.unusedVariables false
/-- The entries of a dump, each with whether it is taken. -/
noncomputable def marks (n : Int) (f : Seen) : List Entry → List (Bool × Entry)
  | [] => []
  | e :: l => if ((f e.item).isSome || !goodI e.item n) = true then (false, e) :: marks n f l else (true, e) :: marks n (putF f e.item ()) l
noncomputable def mstep (s : Rep) (x : Int × Bool × Entry) : Rep := if x.2.1 = true then entryM s x.1 x.2.2 else tellM s 1 x.1 x.2.2.item
theorem markM_n (s : Rep) (rep : Int) (e : Entry) : (markM s rep e).n = s.n := by
  unfold markM
  split
  · rfl
  · split <;> rfl
theorem entryM_n (s : Rep) (rep : Int) (e : Entry) : (entryM s rep e).n = s.n := by
  unfold entryM
  split
  · rfl
  · dsimp only
    split
    · rw [markM_n]; split <;> rfl
    · split <;> rfl
theorem mstep_n (s : Rep) (x : Int × Bool × Entry) : (mstep s x).n = s.n := by
  unfold mstep; split
  · exact entryM_n _ _ _
  · rfl
theorem msteps_n : ∀ (l : List (Int × Bool × Entry)) (s : Rep), (l.foldl mstep s).n = s.n
  | [], s => rfl
  | x :: l, s => by rw [List.foldl_cons, msteps_n l, mstep_n]
theorem dump_marks (rep n : Int) : ∀ (l : List Entry) (s : Rep) (f : Seen), s.n = n → (l.foldl (dstep rep) (s, f)).1 = ((marks n f l).map fun x => (rep, x)).foldl mstep s
  | [], s, f, _ => rfl
  | e :: l, s, f, h => by
    rw [List.foldl_cons]
    unfold marks
    by_cases hb : ((f e.item).isSome || !goodI e.item n) = true
    · have e1 : dstep rep (s, f) e = (tellM s 1 rep e.item, f) := by unfold dstep; rw [if_pos (by rw [h]; exact hb)]
      rw [e1, if_pos hb, dump_marks rep n l (tellM s 1 rep e.item) f h]; rfl
    · have e1 : dstep rep (s, f) e = (entryM s rep e, putF f e.item ()) := by unfold dstep; rw [if_neg (by rw [h]; exact hb)]
      rw [e1, if_neg hb, dump_marks rep n l (entryM s rep e) _ (by rw [entryM_n]; exact h)]; rfl
/-- All entries of all dumps, in order, the first dump with this number. -/
noncomputable def flatM (n : Int) : Nat → List Dump → List (Int × Bool × Entry)
  | _, [] => []
  | i, d :: ds => ((marks n (fun _ => none) d.l).map fun x => ((i : Int), x)) ++ flatM n (i + 1) ds
theorem flatM_append (n : Int) : ∀ (ds es : List Dump) (i : Nat), flatM n i (ds ++ es) = flatM n i ds ++ flatM n (i + ds.length) es
  | [], es, i => rfl
  | d :: ds, es, i => by
    show _ ++ flatM n (i + 1) (ds ++ es) = _
    rw [flatM_append n ds es (i + 1)]
    show _ = (_ ++ flatM n (i + 1) ds) ++ _
    rw [List.append_assoc, List.length_cons, show i + 1 + ds.length = i + (ds.length + 1) from by omega]
theorem flatM_snd (n : Int) : ∀ (ds : List Dump) (i j : Nat), (flatM n i ds).map Prod.snd = (flatM n j ds).map Prod.snd
  | [], _, _ => rfl
  | d :: ds, i, j => by
    show (_ ++ flatM n (i + 1) ds).map _ = (_ ++ flatM n (j + 1) ds).map _
    rw [List.map_append, List.map_append, flatM_snd n ds (i + 1) (j + 1), List.map_map, List.map_map]
    rfl
theorem lookS_flat (n : Int) : ∀ (ds pre : List Dump) (s : Rep), s.n = n → (List.range' pre.length ds.length).foldl (lookS (pre ++ ds)) s = (flatM n pre.length ds).foldl mstep s
  | [], pre, s, h => rfl
  | d :: ds, pre, s, h => by
    rw [List.length_cons, List.range'_succ, List.foldl_cons]
    have e1 : lookS (pre ++ d :: ds) s pre.length = dumpM s pre.length d.l := by
      unfold lookS; rw [List.getElem?_append_right (Nat.le_refl _), Nat.sub_self]; rfl
    have e2 := lookS_flat n ds (pre ++ [d]) (dumpM s pre.length d.l) (by unfold dumpM dumpQ; rw [dump_marks pre.length n d.l s _ h, msteps_n]; exact h)
    rw [List.length_append, List.length_singleton, List.append_assoc] at e2
    rw [e1]
    refine Eq.trans e2 ?_
    show _ = (_ ++ flatM n (pre.length + 1) ds).foldl mstep s
    rw [List.foldl_append]
    congr 1
    unfold dumpM dumpQ
    exact dump_marks pre.length n d.l s _ h
noncomputable def toldM (n : Int) (ds : List Dump) : Rep := (flatM n 0 ds).foldl mstep (rep0 n)
theorem lookM_told (n : Int) (ds : List Dump) : lookM n ds = tiesM (toldM n ds) := by
  have h := lookS_flat n ds [] (rep0 n) rfl
  unfold lookM toldM
  rw [List.range_eq_range']
  exact congrArg tiesM h
/-- What the ties tell. -/
def tieL (f : Item → Option Call) (o : List Item) (k : Nat) : List Finding := match o[k]? with | none => [] | some x => (o.take k).flatMap fun y => if tieB f x y = true then [⟨5, y.rep, y⟩] else []
def tiesL (f : Item → Option Call) (o : List Item) : List Finding := (List.range o.length).flatMap (tieL f o)
theorem tieS_list (f : Item → Option Call) (x : Item) : ∀ (l : List Item) (s : Rep), (l.foldl (tieS f x) s).list = s.list ++ l.flatMap fun y => if tieB f x y = true then [⟨5, y.rep, y⟩] else []
  | [], s => by simp
  | y :: l, s => by
    rw [List.foldl_cons, tieS_list f x l, List.flatMap_cons]
    unfold tieS
    split
    · show (s.list ++ _) ++ _ = _
      rw [List.append_assoc]
    · simp
theorem tieRow_list (f : Item → Option Call) (o : List Item) (s : Rep) (k : Nat) : (tieRow f o s k).list = s.list ++ tieL f o k := by
  unfold tieRow tieL
  cases o[k]? with
  | none => simp
  | some x => exact tieS_list _ _ _ _
theorem ties_list (f : Item → Option Call) (o : List Item) : ∀ (l : List Nat) (s : Rep), (l.foldl (tieRow f o) s).list = s.list ++ l.flatMap (tieL f o)
  | [], s => by simp
  | k :: l, s => by rw [List.foldl_cons, ties_list f o l, tieRow_list, List.flatMap_cons, List.append_assoc]
theorem tiesM_list (s : Rep) : (tiesM s).list = s.list ++ tiesL s.calls s.order := ties_list _ _ _ _
/-- What grows as it goes on. -/
structure Grows (s t : Rep) : Prop where
  n : t.n = s.n
  list : ∃ o, t.list = s.list ++ o
  calls : ∀ y c, s.calls y = some c → t.calls y = some c
theorem Grows.refl (s : Rep) : Grows s s := ⟨rfl, ⟨[], by simp⟩, fun _ _ h => h⟩
theorem Grows.trans {s t u : Rep} (h : Grows s t) (k : Grows t u) : Grows s u := by
  obtain ⟨o, ho⟩ := h.list
  obtain ⟨p, hp⟩ := k.list
  exact ⟨k.n.trans h.n, ⟨o ++ p, by rw [hp, ho, List.append_assoc]⟩, fun y c hc => k.calls y c (h.calls y c hc)⟩
theorem Grows.tell (s : Rep) (k rep : Int) (x : Item) : Grows s (tellM s k rep x) := ⟨rfl, ⟨_, rfl⟩, fun _ _ h => h⟩
theorem Grows.mark (s : Rep) (rep : Int) (e : Entry) : Grows s (markM s rep e) := by
  unfold markM
  split
  · rename_i hn
    refine ⟨rfl, ⟨[], by show s.list = _; simp⟩, fun y c hc => ?_⟩
    have hne : y ≠ e.item := fun h => by rw [h, hn] at hc; cases hc
    show putF s.calls e.item e.inst.call y = some c
    rw [putF_other _ _ hne]; exact hc
  · split
    · exact Grows.refl _
    · exact Grows.tell _ _ _ _
theorem Grows.entry (s : Rep) (rep : Int) (e : Entry) : Grows s (entryM s rep e) := by
  have key : ∀ s1, Grows s s1 → Grows s (if (e.inst.status == 3) = true then markM s1 rep e else s1) := by
    intro s1 h1
    split
    · exact h1.trans (Grows.mark _ _ _)
    · exact h1
  unfold entryM
  split
  · exact Grows.tell _ _ _ _
  · refine key (if lessBal e.inst.prom e.inst.vote = true then tellM s 3 rep e.item else s) ?_
    split
    · exact Grows.tell _ _ _ _
    · exact Grows.refl _
theorem Grows.step (s : Rep) (x : Int × Bool × Entry) : Grows s (mstep s x) := by
  unfold mstep; split
  · exact Grows.entry _ _ _
  · exact Grows.tell _ _ _ _
theorem Grows.steps : ∀ (l : List (Int × Bool × Entry)) (s : Rep), Grows s (l.foldl mstep s)
  | [], s => Grows.refl s
  | x :: l, s => (Grows.step s x).trans (Grows.steps l _)
/-- What is committed of this is known. -/
def Kn (n : Int) (s : Rep) (x : Bool × Entry) : Prop := x.1 = true → goodN x.2.inst n = true → (x.2.inst.status == 3) = true → ∃ c, s.calls x.2.item = some c
/-- Nothing is wrong with this. -/
def Cl (n : Int) (s : Rep) (x : Bool × Entry) : Prop := x.1 = true ∧ goodN x.2.inst n = true ∧ lessBal x.2.inst.prom x.2.inst.vote = false ∧ ((x.2.inst.status == 3) = true → ∃ c, s.calls x.2.item = some c ∧ eqA (CV c) (CV x.2.inst.call) = true)
theorem Kn.mono {n : Int} {s t : Rep} {x : Bool × Entry} (h : Kn n s x) (g : Grows s t) : Kn n t x := fun a b c => let ⟨d, hd⟩ := h a b c; ⟨d, g.calls _ _ hd⟩
theorem Cl.mono {n : Int} {s t : Rep} {x : Bool × Entry} (h : Cl n s x) (g : Grows s t) : Cl n t x := ⟨h.1, h.2.1, h.2.2.1, fun a => let ⟨d, hd, he⟩ := h.2.2.2 a; ⟨d, g.calls _ _ hd, he⟩⟩
theorem mark_known (s : Rep) (rep : Int) (e : Entry) : ∃ c, (markM s rep e).calls e.item = some c := by
  unfold markM
  split
  · exact ⟨_, putF_same ..⟩
  · rename_i c hc
    split
    · exact ⟨c, hc⟩
    · exact ⟨c, hc⟩
theorem Kn.step (n : Int) (s : Rep) (hn : s.n = n) (x : Int × Bool × Entry) : Kn n (mstep s x) x.2 := by
  intro h1 h2 h3
  unfold mstep
  rw [if_pos h1]
  unfold entryM
  rw [hn, h2, if_neg (by simp)]
  dsimp only
  rw [if_pos h3]
  exact mark_known _ _ _
theorem Kn.steps (n : Int) : ∀ (l : List (Int × Bool × Entry)) (s : Rep), s.n = n → ∀ x ∈ l, Kn n (l.foldl mstep s) x.2
  | [], _, _, _, hx => absurd hx List.not_mem_nil
  | y :: l, s, h, x, hx => by
    rw [List.foldl_cons]
    rcases List.mem_cons.1 hx with e | hx
    · rw [e]; exact Kn.mono (Kn.step n s h y) (Grows.steps l _)
    · exact Kn.steps n l (mstep s y) (by rw [mstep_n]; exact h) x hx
/-- What is known already changes nothing of what is committed. -/
theorem known_step (n : Int) {s : Rep} (hn : s.n = n) {x : Int × Bool × Entry} (h : Kn n s x.2) : (mstep s x).calls = s.calls ∧ (mstep s x).order = s.order := by
  unfold mstep
  split
  · rename_i h1
    unfold entryM
    split
    · exact ⟨rfl, rfl⟩
    · rename_i h2
      dsimp only
      have key : ∀ s1 : Rep, s1.calls = s.calls → s1.order = s.order → (if (x.2.2.inst.status == 3) = true then markM s1 x.1 x.2.2 else s1).calls = s.calls ∧ (if (x.2.2.inst.status == 3) = true then markM s1 x.1 x.2.2 else s1).order = s.order := by
        intro s1 e1 e2
        split
        · rename_i h3
          obtain ⟨c, hc⟩ := h h1 (by rw [hn] at h2; simpa using h2) h3
          unfold markM
          rw [e1, hc]
          dsimp only
          split
          · exact ⟨e1, e2⟩
          · exact ⟨e1, e2⟩
        · exact ⟨e1, e2⟩
      refine key (if lessBal x.2.2.inst.prom x.2.2.inst.vote = true then tellM s 3 x.1 x.2.2.item else s) ?_ ?_
      · split <;> rfl
      · split <;> rfl
  · exact ⟨rfl, rfl⟩
theorem known_steps (n : Int) : ∀ (l : List (Int × Bool × Entry)) (s : Rep), s.n = n → (∀ x ∈ l, Kn n s x.2) → (l.foldl mstep s).calls = s.calls ∧ (l.foldl mstep s).order = s.order
  | [], s, _, _ => ⟨rfl, rfl⟩
  | y :: l, s, h, hk => by
    rw [List.foldl_cons]
    obtain ⟨e1, e2⟩ := known_step n (s := s) h (x := y) (hk y (List.mem_cons_self ..))
    obtain ⟨f1, f2⟩ := known_steps n l (mstep s y) (by rw [mstep_n]; exact h) fun x hx => (hk x (List.mem_cons_of_mem _ hx)).mono (Grows.step s y)
    exact ⟨f1.trans e1, f2.trans e2⟩
theorem tell_ne {s t : Rep} {k rep : Int} {x : Item} (g : Grows (tellM s k rep x) t) : t.list ≠ [] := by
  obtain ⟨o, ho⟩ := g.list
  rw [ho]
  show (s.list ++ _) ++ o ≠ []
  simp
theorem clean_of (n : Int) {s : Rep} (hn : s.n = n) {x : Int × Bool × Entry} (h : (mstep s x).list = []) : Cl n (mstep s x) x.2 := by
  unfold mstep at *
  split
  · rename_i h1
    rw [if_pos h1] at h
    unfold entryM at *
    split
    · rename_i h2
      rw [if_pos h2] at h
      exact absurd h (tell_ne (Grows.refl _))
    · rename_i h2
      rw [if_neg h2] at h
      dsimp only at h ⊢
      by_cases h3 : lessBal x.2.2.inst.prom x.2.2.inst.vote = true
      · rw [if_pos h3] at h
        exfalso
        revert h
        split
        · exact tell_ne (Grows.mark _ _ _)
        · exact tell_ne (Grows.refl _)
      · rw [if_neg h3] at h ⊢
        refine ⟨h1, by rw [hn] at h2; simpa using h2, by simpa using h3, fun h4 => ?_⟩
        rw [if_pos h4] at h ⊢
        unfold markM at *
        split
        · exact ⟨_, putF_same .., eqA_refl _⟩
        · rename_i c hc
          rw [hc] at h
          dsimp only at h
          split
          · rename_i h5; exact ⟨c, hc, h5⟩
          · rename_i h5
            rw [if_neg h5] at h
            exact absurd h (tell_ne (Grows.refl _))
  · rename_i h1
    rw [if_neg h1] at h
    exact absurd h (tell_ne (Grows.refl _))
theorem clean_steps (n : Int) : ∀ (l : List (Int × Bool × Entry)) (s : Rep), s.n = n → (l.foldl mstep s).list = [] → ∀ x ∈ l, Cl n (l.foldl mstep s) x.2
  | [], _, _, _, _, hx => absurd hx List.not_mem_nil
  | y :: l, s, h, he, x, hx => by
    rw [List.foldl_cons] at he ⊢
    rcases List.mem_cons.1 hx with e | hx
    · have h0 : (mstep s y).list = [] := by
        obtain ⟨o, ho⟩ := (Grows.steps l (mstep s y)).list
        rw [ho] at he
        exact (List.append_eq_nil_iff.1 he).1
      rw [e]
      exact Cl.mono (clean_of n h h0) (Grows.steps l _)
    · exact clean_steps n l (mstep s y) (by rw [mstep_n]; exact h) he x hx
theorem clean_step (n : Int) {s : Rep} (hn : s.n = n) {x : Int × Bool × Entry} (h : Cl n s x.2) : mstep s x = s := by
  obtain ⟨h1, h2, h3, h4⟩ := h
  unfold mstep
  rw [if_pos h1]
  unfold entryM
  rw [hn, h2, h3, if_neg (by simp)]
  dsimp only
  rw [if_neg (Bool.false_ne_true)]
  by_cases h5 : (x.2.2.inst.status == 3) = true
  · rw [if_pos h5]
    obtain ⟨c, hc, he⟩ := h4 h5
    unfold markM
    rw [hc]
    dsimp only
    rw [if_pos he]
  · rw [if_neg h5]
theorem clean_again (n : Int) : ∀ (l : List (Int × Bool × Entry)) (s : Rep), s.n = n → (∀ x ∈ l, Cl n s x.2) → l.foldl mstep s = s
  | [], s, _, _ => rfl
  | y :: l, s, h, hk => by
    rw [List.foldl_cons, clean_step n h (hk y (List.mem_cons_self ..))]
    exact clean_again n l s h fun x hx => hk x (List.mem_cons_of_mem _ hx)
/-- Dumps of which nothing is wrong, told twice, have nothing wrong either; and no less is wrong than once. -/
theorem look_again (n : Int) (ds : List Dump) : ((lookM n ds).list.length = 0 ↔ (lookM n (ds ++ ds)).list.length = 0) ∧ (lookM n ds).list.length ≤ (lookM n (ds ++ ds)).list.length := by
  have hn : (toldM n ds).n = n := by unfold toldM; rw [msteps_n]; rfl
  have e2 : toldM n (ds ++ ds) = (flatM n ds.length ds).foldl mstep (toldM n ds) := by
    unfold toldM
    rw [flatM_append, List.foldl_append, Nat.zero_add]
  have hin : ∀ x ∈ flatM n ds.length ds, ∃ y ∈ flatM n 0 ds, y.2 = x.2 := by
    intro x hx
    have : x.2 ∈ (flatM n 0 ds).map Prod.snd := by rw [flatM_snd n ds 0 ds.length]; exact List.mem_map_of_mem hx
    obtain ⟨y, hy, he⟩ := List.mem_map.1 this
    exact ⟨y, hy, he⟩
  obtain ⟨f1, f2⟩ := known_steps n (flatM n ds.length ds) (toldM n ds) hn fun x hx => by
    obtain ⟨y, hy, he⟩ := hin x hx
    rw [← he]
    exact Kn.steps n _ (rep0 n) rfl y hy
  obtain ⟨o, ho⟩ := (Grows.steps (flatM n ds.length ds) (toldM n ds)).list
  rw [← e2] at f1 f2 ho
  rw [lookM_told, lookM_told, tiesM_list, tiesM_list, f1, f2, ho]
  refine ⟨⟨fun h => ?_, fun h => ?_⟩, by simp only [List.length_append]; omega⟩
  · simp only [List.length_append] at h ⊢
    have h0 : (toldM n ds).list = [] := List.eq_nil_of_length_eq_zero (by omega)
    have h1 : toldM n (ds ++ ds) = toldM n ds := by
      rw [e2]
      refine clean_again n _ _ hn fun x hx => ?_
      obtain ⟨y, hy, he⟩ := hin x hx
      rw [← he]
      exact clean_steps n _ (rep0 n) rfl h0 y hy
    rw [h1, h0] at ho
    have : o = [] := by simpa using ho.symm
    subst this
    simpa using h
  · simp only [List.length_append] at h ⊢
    omega
end Go.Proofs.Ytpganpiidgkofaa
/- Layer 24, the laws: what the document tells. -/
namespace Go.Proofs.Ytpganpiidgkofaa
open Go.RowKit
set_option linter.unusedVariables false
attribute [local go_sem] row_alloc row_drew row_drewN row_ext row_setCell row_setRow size_ext setRow_alloc setRow_drew loadOf storeOf piece_lit loadVal_at storeVal_at allOne_lit buildOf buildRes_some
attribute [local go_sem high] cell_alloc frozen_alloc setCell_alloc cell_ext frozen_ext cell_setRow frozen_setRow
attribute [local go_sem ↓] TDeed_ld0 TDeed_st0 TDeed_fd0 TDeed_bd0
attribute [local go_sem] TDeed_size TDeed_one TDeed_piece TDeed_c0 TDeed_c1 TDeed_c2 TDeed_c3 TDeed_c4 TDeed_c5 TDeed_set_kind TDeed_set_key TDeed_set_val TDeed_set_ver TDeed_set_ses TDeed_set_num TDeed_ld TDeed_st TDeed_f_kind TDeed_f_key TDeed_f_val TDeed_f_ver TDeed_f_ses TDeed_f_num TDeed_bd TDeed_fl TDeed_fl_kind TDeed_fl_key TDeed_fl_val TDeed_fl_ver TDeed_fl_ses TDeed_fl_num
attribute [local go_sem high] TDeed_eql TDeed_neq
attribute [local go_sem ↓] index_deps0 load_deps0 store_deps0
attribute [local go_sem] DV_piece DV_size DV_one index_deps load_deps store_deps
attribute [local go_sem high] TDeps_eql TDeps_neq
attribute [local go_sem ↓] TCall_ld0 TCall_st0 TCall_fd0 TCall_bd0
attribute [local go_sem] TCall_size TCall_one TCall_piece TCall_c0 TCall_c1 TCall_c2 TCall_c3 TCall_c4 TCall_c5 TCall_c6 TCall_c7 TCall_c8 TCall_c9 TCall_c10 TCall_c11 TCall_c12 TCall_c13 TCall_p_deed TCall_put_deed TCall_p_deps TCall_put_deps TCall_set_seq TCall_ld TCall_st TCall_f_deed TCall_f_deps TCall_f_seq TCall_bd TCall_fl TCall_fl_deed TCall_fl_deps TCall_fl_seq
attribute [local go_sem high] TCall_eql TCall_neq
attribute [local go_sem ↓] TItem_ld0 TItem_st0 TItem_fd0 TItem_bd0
attribute [local go_sem] TItem_size TItem_one TItem_piece TItem_c0 TItem_c1 TItem_set_rep TItem_set_num TItem_ld TItem_st TItem_f_rep TItem_f_num TItem_bd TItem_fl TItem_fl_rep TItem_fl_num
attribute [local go_sem high] TItem_eql TItem_neq
attribute [local go_sem ↓] TBallot_ld0 TBallot_st0 TBallot_fd0 TBallot_bd0
attribute [local go_sem] TBallot_size TBallot_one TBallot_piece TBallot_c0 TBallot_c1 TBallot_set_round TBallot_set_rep TBallot_ld TBallot_st TBallot_f_round TBallot_f_rep TBallot_bd TBallot_fl TBallot_fl_round TBallot_fl_rep
attribute [local go_sem high] TBallot_eql TBallot_neq
attribute [local go_sem ↓] TInst_ld0 TInst_st0 TInst_fd0 TInst_bd0
attribute [local go_sem] TInst_size TInst_one TInst_piece TInst_c0 TInst_c1 TInst_c2 TInst_c3 TInst_c4 TInst_c5 TInst_c6 TInst_c7 TInst_c8 TInst_c9 TInst_c10 TInst_c11 TInst_c12 TInst_c13 TInst_c14 TInst_c15 TInst_c16 TInst_c17 TInst_c18 TInst_c19 TInst_p_prom TInst_put_prom TInst_p_vote TInst_put_vote TInst_set_status TInst_p_call TInst_put_call TInst_set_same TInst_ld TInst_st TInst_f_prom TInst_f_vote TInst_f_status TInst_f_call TInst_f_same TInst_bd TInst_fl TInst_fl_prom TInst_fl_vote TInst_fl_status TInst_fl_call TInst_fl_same
attribute [local go_sem high] TInst_eql TInst_neq
attribute [local go_sem ↓] TEntry_ld0 TEntry_st0 TEntry_fd0 TEntry_bd0
attribute [local go_sem] TEntry_size TEntry_one TEntry_piece TEntry_c0 TEntry_c1 TEntry_c2 TEntry_c3 TEntry_c4 TEntry_c5 TEntry_c6 TEntry_c7 TEntry_c8 TEntry_c9 TEntry_c10 TEntry_c11 TEntry_c12 TEntry_c13 TEntry_c14 TEntry_c15 TEntry_c16 TEntry_c17 TEntry_c18 TEntry_c19 TEntry_c20 TEntry_c21 TEntry_p_item TEntry_put_item TEntry_p_inst TEntry_put_inst TEntry_ld TEntry_st TEntry_f_item TEntry_f_inst TEntry_bd TEntry_fl TEntry_fl_item TEntry_fl_inst
attribute [local go_sem high] TEntry_eql TEntry_neq
attribute [local go_sem ↓] TFinding_ld0 TFinding_st0 TFinding_fd0 TFinding_bd0
attribute [local go_sem] TFinding_size TFinding_one TFinding_piece TFinding_c0 TFinding_c1 TFinding_c2 TFinding_c3 TFinding_set_kind TFinding_set_rep TFinding_p_item TFinding_put_item TFinding_ld TFinding_st TFinding_f_kind TFinding_f_rep TFinding_f_item TFinding_bd TFinding_fl TFinding_fl_kind TFinding_fl_rep TFinding_fl_item
attribute [local go_sem high] TFinding_eql TFinding_neq
theorem entry_slice0 (len : Nat) (parts : Array (Nat × Value)) : Instr.buildSlice 80 len parts = buildSem 80 len parts := rfl
theorem noEntry_lit : (AV noEntry : Array Value) = #[.int .i64 0, .int .i64 0, .int .i64 0, .int .i64 0, .int .i64 0, .int .i64 0, .int .i64 0, .int .i64 0, .string { data := #[] }, .string { data := #[] }, .int .i64 0, .int .i64 0, .int .i64 0, .int .i64 0, .int .i64 0, .int .i64 0, .int .i64 0, .int .i64 0, .int .i64 0, .int .i64 0, .int .i64 0, .bool false] := by kernel_rfl
theorem entry_slice1 (w : World) (x : Entry) : (buildSem 80 1 #[(0, .agg (AV x))]).run Try.prog w = .ok (.slice (some ⟨w.heap.size, 0, none⟩) 1 1) (w.alloc (.cells (AV x) 85)) :=
  build_slice1 Try.underlying80 (z := .agg #[.int .i64 0, .int .i64 0, .int .i64 0, .int .i64 0, .int .i64 0, .int .i64 0, .int .i64 0, .int .i64 0, .string { data := #[] }, .string { data := #[] }, .int .i64 0, .int .i64 0, .int .i64 0, .int .i64 0, .int .i64 0, .int .i64 0, .int .i64 0, .int .i64 0, .int .i64 0, .int .i64 0, .int .i64 0, .bool false]) (n := 22) (by kernel_rfl) (by omega) w (TEntry_size x) (by omega)
theorem entry_slice2 (w : World) (x y : Entry) : (buildSem 80 2 #[(0, .agg (AV x)), (1, .agg (AV y))]).run Try.prog w = .ok (.slice (some ⟨w.heap.size, 0, none⟩) 2 2) (w.alloc (.cells (AV x ++ AV y) 85)) :=
  build_slice2 Try.underlying80 (z := .agg #[.int .i64 0, .int .i64 0, .int .i64 0, .int .i64 0, .int .i64 0, .int .i64 0, .int .i64 0, .int .i64 0, .string { data := #[] }, .string { data := #[] }, .int .i64 0, .int .i64 0, .int .i64 0, .int .i64 0, .int .i64 0, .int .i64 0, .int .i64 0, .int .i64 0, .int .i64 0, .int .i64 0, .int .i64 0, .bool false]) (n := 22) (by kernel_rfl) (by omega) w (TEntry_size x) (TEntry_size y) (by omega)
attribute [local go_sem ↓] entry_slice0
attribute [local go_sem] entry_slice1 entry_slice2
/-- Rows of a block of the call's own. -/
theorem rows_of_row {α : Type} {V : α → Array Value} {size : Nat} (hV : ∀ x, (V x).size = size) {W : World} {g : Nat} {l : List α} (h : row? W g = some (flatV V l)) (hl : l.length ≤ 9223372036854775807) : RowsIn W (some ⟨g, 0, none⟩) size V l := by
  refine ⟨fun ha => (by cases ha), fun a ha j hj i u hu => ?_, hl⟩
  injection ha with ha; subst ha
  have hi : i < size := by have := (Array.getElem?_eq_some_iff.1 hu).1; rw [hV] at this; exact this
  have h2 := flatV_get hV l j hj i hi
  rw [hu] at h2
  rw [add_none, add_none, Nat.zero_add, row_cell h]
  exact h2
theorem flat1 {α : Type} (V : α → Array Value) (x : α) : flatV V [x] = V x := flatV_one V x
theorem flatV2 {α : Type} (V : α → Array Value) (x y : α) : flatV V [x, y] = V x ++ V y := by
  rw [show [x, y] = [x] ++ [y] from rfl, flatV_append, flatV_one, flatV_one]
theorem Sts.after {w W W' : World} {F : Nat → Prop} {L R : List Res} (T : Sts w F W R) (h : Sts W (fun _ => False) W' L) : Sts w F W' (L ++ R) := by
  obtain ⟨G, hG, hk⟩ := Sts.call (L := []) (R := R) T
  have e : G = fun _ => False := funext fun k => propext ⟨fun hg => hG k hg, False.elim⟩
  subst e
  exact hk h
/-- Look, of dumps that lie here. -/
theorem look_at (n : Int) (A : Option Addr) (c : Nat) (ds : List Dump) {w W : World} {F : Nat → Prop} {R : List Res} (hx : DumpsIn W A ds) (hd : ∀ d ∈ ds, (∀ e ∈ d.l, Clean e) ∧ d.l.length ≤ 20) (h14 : ds.length ≤ 14) (T : Sts w F W R) :
    Calls Try.prog 73 #[.int .i64 n, .slice A ds.length c] W fun e W' => ∃ v, e = .returned v ∧ Sts w F W' (listR (lookM n ds) v :: R) := by
  refine (lookT n A c ds W W [] hx.rows (fun d h => ⟨hx.each d h, (hd d h).1, (hd d h).2⟩) h14 (Sts.start0 W)).mono ?_
  rintro e W' ⟨v, he, h⟩
  exact ⟨v, he, T.after h⟩
theorem DumpsIn.later {w W : World} {A : Option Addr} {ds : List Dump} (h : DumpsIn w A ds) (hb : Below w.heap.size w W) : DumpsIn W A ds := ⟨h.rows.later hb, fun d hd => (h.each d hd).later hb⟩
theorem dumps_none (W : World) : DumpsIn W none [] := ⟨⟨fun _ => rfl, fun a ha => (by cases ha), by simp⟩, fun d hd => (by cases hd)⟩
theorem PV_size (d : Dump) : (PV d).size = 1 := rfl
theorem Clean_noEntry : Clean noEntry := ⟨⟨by decide, by decide⟩, by decide⟩
theorem look_none (n : Int) : (lookM n []).list = [] := rfl
theorem look_zero (A : Option Addr) (c : Nat) : (lookM 3 [⟨A, c, [noEntry]⟩]).list = [⟨1, 0, noItem⟩] := by
  have h : (marks 3 (fun _ => none) [noEntry]) = [(false, noEntry)] := by
    have : goodI noEntry.item 3 = false := by decide
    unfold marks
    rw [this]
    rfl
  rw [lookM_told]
  unfold toldM flatM
  dsimp only
  rw [h]
  rfl
theorem list_shape {s : Rep} {v : Value} {w W : World} {F : Nat → Prop} {R : List Res} (T : Sts w F W (listR s v :: R)) : ∃ A c, v = .slice A s.list.length c := by
  rcases T.vec.2 with ⟨rfl, h0⟩ | ⟨g', cap, cur, rfl, hg', _⟩
  · exact ⟨none, 0, by rw [h0]⟩
  · exact ⟨_, cap, rfl⟩
set_option maxHeartbeats 4000000 in
theorem alive_any : Ans Try.prog 37 #[] (.bool true) := by
  intro W
  have T := ((Sts.start0 W).new (AV noEntry) 85).new #[.slice (some ⟨W.heap.size, 0, none⟩) 1 1] 80
  simp only [World.size_alloc] at T
  have hx : DumpsIn ((W.alloc (.cells (AV noEntry) 85)).alloc (.cells #[.slice (some ⟨W.heap.size, 0, none⟩) 1 1] 80)) (some ⟨W.heap.size + 1, 0, none⟩) [⟨some ⟨W.heap.size, 0, none⟩, 1, [noEntry]⟩] := by
    refine ⟨rows_of_row PV_size (by rw [flat1]; exact T.row) (by simp), fun d hd => ?_⟩
    rw [List.mem_singleton.1 hd]
    exact rows_of_row TEntry_size (by rw [flat1]; exact T.row1) (by simp)
  have C1 := Lib.hid (look_at 3 (some ⟨W.heap.size + 1, 0, none⟩) 1 _ hx (fun d hd => by rw [List.mem_singleton.1 hd]; exact ⟨fun e he => by rw [List.mem_singleton.1 he]; exact Clean_noEntry, by simp⟩) (by simp) T)
  clear hx T
  go_enter Try.func37, Try.ntmps37
  go_wp2_with fail
  refine C1.out.mono ?_
  clear C1; rintro e w1 ⟨v, rfl, T⟩
  obtain ⟨A1, c1, rfl⟩ := list_shape T
  have C2 := Lib.hid (look_at 3 none 0 [] (dumps_none w1) (fun d hd => by cases hd) (by simp) T)
  clear T
  go_wp2_with fail
  refine C2.out.mono ?_
  clear C2; rintro e w2 ⟨v2, rfl, T⟩
  obtain ⟨A2, c2, rfl⟩ := list_shape T
  have T := T.drop
  obtain ⟨g, c', hv, hg, hcell⟩ := vec_cell TFinding_size T (by omega) (j := 0) (by rw [look_zero]; simp)
  obtain ⟨rfl, -, rfl⟩ := Value.slice.inj hv
  clear hv
  simp only [look_zero, look_none] at *
  have hc : w2.cell? ⟨g, 0, none⟩ = some (.int .i64 1) := hcell 0 _ rfl
  clear hcell
  go_wp2
  go_ret
  exact ⟨rfl, T.below⟩
end Go.Proofs.Ytpganpiidgkofaa
