/- Several texts in one. -/
import Derived.Test.YtahajjfbkdocaaaZ18
/- Layer 24, the plain law: dumps told twice; what the ties tell hangs on what is committed alone. -/
namespace Go.Proofs.Ytahajjfbkdocaaa
set_option linter.unusedVariables false
/-- The entries of a dump, each with whether it is taken. -/
noncomputable def marks (n : Int) (f : Seen) : List Entry → List (Bool × Entry)
  | [] => []
  | e :: l => if ((f e.item).isSome || !goodI e.item n) = true then (false, e) :: marks n f l else (true, e) :: marks n (putF f e.item ()) l
noncomputable def mstep (s : Rep) (x : Int × Bool × Entry) : Rep := if x.2.1 = true then entryM s x.1 x.2.2 else tellM s 1 x.1 x.2.2.item
theorem markM_n (s : Rep) (rep : Int) (e : Entry) : (markM s rep e).n = s.n := by
  unfold markM
  split
  · rfl
  · split <;> rfl
theorem entryM_n (s : Rep) (rep : Int) (e : Entry) : (entryM s rep e).n = s.n := by
  unfold entryM
  split
  · rfl
  · dsimp only
    split
    · rw [markM_n]; split <;> rfl
    · split <;> rfl
theorem mstep_n (s : Rep) (x : Int × Bool × Entry) : (mstep s x).n = s.n := by
  unfold mstep; split
  · exact entryM_n _ _ _
  · rfl
theorem msteps_n : ∀ (l : List (Int × Bool × Entry)) (s : Rep), (l.foldl mstep s).n = s.n
  | [], s => rfl
  | x :: l, s => by rw [List.foldl_cons, msteps_n l, mstep_n]
theorem dump_marks (rep n : Int) : ∀ (l : List Entry) (s : Rep) (f : Seen), s.n = n → (l.foldl (dstep rep) (s, f)).1 = ((marks n f l).map fun x => (rep, x)).foldl mstep s
  | [], s, f, _ => rfl
  | e :: l, s, f, h => by
    rw [List.foldl_cons]
    unfold marks
    by_cases hb : ((f e.item).isSome || !goodI e.item n) = true
    · have e1 : dstep rep (s, f) e = (tellM s 1 rep e.item, f) := by unfold dstep; rw [if_pos (by rw [h]; exact hb)]
      rw [e1, if_pos hb, dump_marks rep n l (tellM s 1 rep e.item) f h]; rfl
    · have e1 : dstep rep (s, f) e = (entryM s rep e, putF f e.item ()) := by unfold dstep; rw [if_neg (by rw [h]; exact hb)]
      rw [e1, if_neg hb, dump_marks rep n l (entryM s rep e) _ (by rw [entryM_n]; exact h)]; rfl
/-- All entries of all dumps, in order, the first dump with this number. -/
noncomputable def flatM (n : Int) : Nat → List Dump → List (Int × Bool × Entry)
  | _, [] => []
  | i, d :: ds => ((marks n (fun _ => none) d.l).map fun x => ((i : Int), x)) ++ flatM n (i + 1) ds
theorem flatM_append (n : Int) : ∀ (ds es : List Dump) (i : Nat), flatM n i (ds ++ es) = flatM n i ds ++ flatM n (i + ds.length) es
  | [], es, i => rfl
  | d :: ds, es, i => by
    show _ ++ flatM n (i + 1) (ds ++ es) = _
    rw [flatM_append n ds es (i + 1)]
    show _ = (_ ++ flatM n (i + 1) ds) ++ _
    rw [List.append_assoc, List.length_cons, show i + 1 + ds.length = i + (ds.length + 1) from by omega]
theorem flatM_snd (n : Int) : ∀ (ds : List Dump) (i j : Nat), (flatM n i ds).map Prod.snd = (flatM n j ds).map Prod.snd
  | [], _, _ => rfl
  | d :: ds, i, j => by
    show (_ ++ flatM n (i + 1) ds).map _ = (_ ++ flatM n (j + 1) ds).map _
    rw [List.map_append, List.map_append, flatM_snd n ds (i + 1) (j + 1), List.map_map, List.map_map]
    rfl
theorem lookS_flat (n : Int) : ∀ (ds pre : List Dump) (s : Rep), s.n = n → (List.range' pre.length ds.length).foldl (lookS (pre ++ ds)) s = (flatM n pre.length ds).foldl mstep s
  | [], pre, s, h => rfl
  | d :: ds, pre, s, h => by
    rw [List.length_cons, List.range'_succ, List.foldl_cons]
    have e1 : lookS (pre ++ d :: ds) s pre.length = dumpM s pre.length d.l := by
      unfold lookS; rw [List.getElem?_append_right (Nat.le_refl _), Nat.sub_self]; rfl
    have e2 := lookS_flat n ds (pre ++ [d]) (dumpM s pre.length d.l) (by unfold dumpM dumpQ; rw [dump_marks pre.length n d.l s _ h, msteps_n]; exact h)
    rw [List.length_append, List.length_singleton, List.append_assoc] at e2
    rw [e1]
    refine Eq.trans e2 ?_
    show _ = (_ ++ flatM n (pre.length + 1) ds).foldl mstep s
    rw [List.foldl_append]
    congr 1
    unfold dumpM dumpQ
    exact dump_marks pre.length n d.l s _ h
noncomputable def toldM (n : Int) (ds : List Dump) : Rep := (flatM n 0 ds).foldl mstep (rep0 n)
theorem lookM_told (n : Int) (ds : List Dump) : lookM n ds = tiesM (toldM n ds) := by
  have h := lookS_flat n ds [] (rep0 n) rfl
  unfold lookM toldM
  rw [List.range_eq_range']
  exact congrArg tiesM h
/-- What the ties tell. -/
def tieL (f : Item → Option Call) (o : List Item) (k : Nat) : List Finding := match o[k]? with | none => [] | some x => (o.take k).flatMap fun y => if tieB f x y = true then [⟨5, y.rep, y⟩] else []
def tiesL (f : Item → Option Call) (o : List Item) : List Finding := (List.range o.length).flatMap (tieL f o)
theorem tieS_list (f : Item → Option Call) (x : Item) : ∀ (l : List Item) (s : Rep), (l.foldl (tieS f x) s).list = s.list ++ l.flatMap fun y => if tieB f x y = true then [⟨5, y.rep, y⟩] else []
  | [], s => by simp
  | y :: l, s => by
    rw [List.foldl_cons, tieS_list f x l, List.flatMap_cons]
    unfold tieS
    split
    · show (s.list ++ _) ++ _ = _
      rw [List.append_assoc]
    · simp
theorem tieRow_list (f : Item → Option Call) (o : List Item) (s : Rep) (k : Nat) : (tieRow f o s k).list = s.list ++ tieL f o k := by
  unfold tieRow tieL
  cases o[k]? with
  | none => simp
  | some x => exact tieS_list _ _ _ _
theorem ties_list (f : Item → Option Call) (o : List Item) : ∀ (l : List Nat) (s : Rep), (l.foldl (tieRow f o) s).list = s.list ++ l.flatMap (tieL f o)
  | [], s => by simp
  | k :: l, s => by rw [List.foldl_cons, ties_list f o l, tieRow_list, List.flatMap_cons, List.append_assoc]
theorem tiesM_list (s : Rep) : (tiesM s).list = s.list ++ tiesL s.calls s.order := ties_list _ _ _ _
/-- What grows as it goes on. -/
structure Grows (s t : Rep) : Prop where
  n : t.n = s.n
  list : ∃ o, t.list = s.list ++ o
  calls : ∀ y c, s.calls y = some c → t.calls y = some c
theorem Grows.refl (s : Rep) : Grows s s := ⟨rfl, ⟨[], by simp⟩, fun _ _ h => h⟩
theorem Grows.trans {s t u : Rep} (h : Grows s t) (k : Grows t u) : Grows s u := by
  obtain ⟨o, ho⟩ := h.list
  obtain ⟨p, hp⟩ := k.list
  exact ⟨k.n.trans h.n, ⟨o ++ p, by rw [hp, ho, List.append_assoc]⟩, fun y c hc => k.calls y c (h.calls y c hc)⟩
theorem Grows.tell (s : Rep) (k rep : Int) (x : Item) : Grows s (tellM s k rep x) := ⟨rfl, ⟨_, rfl⟩, fun _ _ h => h⟩
theorem Grows.mark (s : Rep) (rep : Int) (e : Entry) : Grows s (markM s rep e) := by
  unfold markM
  split
  · rename_i hn
    refine ⟨rfl, ⟨[], by show s.list = _; simp⟩, fun y c hc => ?_⟩
    have hne : y ≠ e.item := fun h => by rw [h, hn] at hc; cases hc
    show putF s.calls e.item e.inst.call y = some c
    rw [putF_other _ _ hne]; exact hc
  · split
    · exact Grows.refl _
    · exact Grows.tell _ _ _ _
theorem Grows.entry (s : Rep) (rep : Int) (e : Entry) : Grows s (entryM s rep e) := by
  have key : ∀ s1, Grows s s1 → Grows s (if (e.inst.status == 3) = true then markM s1 rep e else s1) := by
    intro s1 h1
    split
    · exact h1.trans (Grows.mark _ _ _)
    · exact h1
  unfold entryM
  split
  · exact Grows.tell _ _ _ _
  · refine key (if lessBal e.inst.prom e.inst.vote = true then tellM s 3 rep e.item else s) ?_
    split
    · exact Grows.tell _ _ _ _
    · exact Grows.refl _
theorem Grows.step (s : Rep) (x : Int × Bool × Entry) : Grows s (mstep s x) := by
  unfold mstep; split
  · exact Grows.entry _ _ _
  · exact Grows.tell _ _ _ _
theorem Grows.steps : ∀ (l : List (Int × Bool × Entry)) (s : Rep), Grows s (l.foldl mstep s)
  | [], s => Grows.refl s
  | x :: l, s => (Grows.step s x).trans (Grows.steps l _)
/-- What is committed of this is known. -/
def Kn (n : Int) (s : Rep) (x : Bool × Entry) : Prop := x.1 = true → goodN x.2.inst n = true → (x.2.inst.status == 3) = true → ∃ c, s.calls x.2.item = some c
/-- Nothing is wrong with this. -/
def Cl (n : Int) (s : Rep) (x : Bool × Entry) : Prop := x.1 = true ∧ goodN x.2.inst n = true ∧ lessBal x.2.inst.prom x.2.inst.vote = false ∧ ((x.2.inst.status == 3) = true → ∃ c, s.calls x.2.item = some c ∧ eqA (CV c) (CV x.2.inst.call) = true)
theorem Kn.mono {n : Int} {s t : Rep} {x : Bool × Entry} (h : Kn n s x) (g : Grows s t) : Kn n t x := fun a b c => let ⟨d, hd⟩ := h a b c; ⟨d, g.calls _ _ hd⟩
theorem Cl.mono {n : Int} {s t : Rep} {x : Bool × Entry} (h : Cl n s x) (g : Grows s t) : Cl n t x := ⟨h.1, h.2.1, h.2.2.1, fun a => let ⟨d, hd, he⟩ := h.2.2.2 a; ⟨d, g.calls _ _ hd, he⟩⟩
theorem mark_known (s : Rep) (rep : Int) (e : Entry) : ∃ c, (markM s rep e).calls e.item = some c := by
  unfold markM
  split
  · exact ⟨_, putF_same ..⟩
  · rename_i c hc
    split
    · exact ⟨c, hc⟩
    · exact ⟨c, hc⟩
theorem Kn.step (n : Int) (s : Rep) (hn : s.n = n) (x : Int × Bool × Entry) : Kn n (mstep s x) x.2 := by
  intro h1 h2 h3
  unfold mstep
  rw [if_pos h1]
  unfold entryM
  rw [hn, h2, if_neg (by simp)]
  dsimp only
  rw [if_pos h3]
  exact mark_known _ _ _
theorem Kn.steps (n : Int) : ∀ (l : List (Int × Bool × Entry)) (s : Rep), s.n = n → ∀ x ∈ l, Kn n (l.foldl mstep s) x.2
  | [], _, _, _, hx => absurd hx List.not_mem_nil
  | y :: l, s, h, x, hx => by
    rw [List.foldl_cons]
    rcases List.mem_cons.1 hx with e | hx
    · rw [e]; exact Kn.mono (Kn.step n s h y) (Grows.steps l _)
    · exact Kn.steps n l (mstep s y) (by rw [mstep_n]; exact h) x hx
/-- What is known already changes nothing of what is committed. -/
theorem known_step (n : Int) {s : Rep} (hn : s.n = n) {x : Int × Bool × Entry} (h : Kn n s x.2) : (mstep s x).calls = s.calls ∧ (mstep s x).order = s.order := by
  unfold mstep
  split
  · rename_i h1
    unfold entryM
    split
    · exact ⟨rfl, rfl⟩
    · rename_i h2
      dsimp only
      have key : ∀ s1 : Rep, s1.calls = s.calls → s1.order = s.order → (if (x.2.2.inst.status == 3) = true then markM s1 x.1 x.2.2 else s1).calls = s.calls ∧ (if (x.2.2.inst.status == 3) = true then markM s1 x.1 x.2.2 else s1).order = s.order := by
        intro s1 e1 e2
        split
        · rename_i h3
          obtain ⟨c, hc⟩ := h h1 (by rw [hn] at h2; simpa using h2) h3
          unfold markM
          rw [e1, hc]
          dsimp only
          split
          · exact ⟨e1, e2⟩
          · exact ⟨e1, e2⟩
        · exact ⟨e1, e2⟩
      refine key (if lessBal x.2.2.inst.prom x.2.2.inst.vote = true then tellM s 3 x.1 x.2.2.item else s) ?_ ?_
      · split <;> rfl
      · split <;> rfl
  · exact ⟨rfl, rfl⟩
theorem known_steps (n : Int) : ∀ (l : List (Int × Bool × Entry)) (s : Rep), s.n = n → (∀ x ∈ l, Kn n s x.2) → (l.foldl mstep s).calls = s.calls ∧ (l.foldl mstep s).order = s.order
  | [], s, _, _ => ⟨rfl, rfl⟩
  | y :: l, s, h, hk => by
    rw [List.foldl_cons]
    obtain ⟨e1, e2⟩ := known_step n (s := s) h (x := y) (hk y (List.mem_cons_self ..))
    obtain ⟨f1, f2⟩ := known_steps n l (mstep s y) (by rw [mstep_n]; exact h) fun x hx => (hk x (List.mem_cons_of_mem _ hx)).mono (Grows.step s y)
    exact ⟨f1.trans e1, f2.trans e2⟩
theorem tell_ne {s t : Rep} {k rep : Int} {x : Item} (g : Grows (tellM s k rep x) t) : t.list ≠ [] := by
  obtain ⟨o, ho⟩ := g.list
  rw [ho]
  show (s.list ++ _) ++ o ≠ []
  simp
theorem clean_of (n : Int) {s : Rep} (hn : s.n = n) {x : Int × Bool × Entry} (h : (mstep s x).list = []) : Cl n (mstep s x) x.2 := by
  unfold mstep at *
  split
  · rename_i h1
    rw [if_pos h1] at h
    unfold entryM at *
    split
    · rename_i h2
      rw [if_pos h2] at h
      exact absurd h (tell_ne (Grows.refl _))
    · rename_i h2
      rw [if_neg h2] at h
      dsimp only at h ⊢
      by_cases h3 : lessBal x.2.2.inst.prom x.2.2.inst.vote = true
      · rw [if_pos h3] at h
        exfalso
        revert h
        split
        · exact tell_ne (Grows.mark _ _ _)
        · exact tell_ne (Grows.refl _)
      · rw [if_neg h3] at h ⊢
        refine ⟨h1, by rw [hn] at h2; simpa using h2, by simpa using h3, fun h4 => ?_⟩
        rw [if_pos h4] at h ⊢
        unfold markM at *
        split
        · exact ⟨_, putF_same .., eqA_refl _⟩
        · rename_i c hc
          rw [hc] at h
          dsimp only at h
          split
          · rename_i h5; exact ⟨c, hc, h5⟩
          · rename_i h5
            rw [if_neg h5] at h
            exact absurd h (tell_ne (Grows.refl _))
  · rename_i h1
    rw [if_neg h1] at h
    exact absurd h (tell_ne (Grows.refl _))
theorem clean_steps (n : Int) : ∀ (l : List (Int × Bool × Entry)) (s : Rep), s.n = n → (l.foldl mstep s).list = [] → ∀ x ∈ l, Cl n (l.foldl mstep s) x.2
  | [], _, _, _, _, hx => absurd hx List.not_mem_nil
  | y :: l, s, h, he, x, hx => by
    rw [List.foldl_cons] at he ⊢
    rcases List.mem_cons.1 hx with e | hx
    · have h0 : (mstep s y).list = [] := by
        obtain ⟨o, ho⟩ := (Grows.steps l (mstep s y)).list
        rw [ho] at he
        exact (List.append_eq_nil_iff.1 he).1
      rw [e]
      exact Cl.mono (clean_of n h h0) (Grows.steps l _)
    · exact clean_steps n l (mstep s y) (by rw [mstep_n]; exact h) he x hx
theorem clean_step (n : Int) {s : Rep} (hn : s.n = n) {x : Int × Bool × Entry} (h : Cl n s x.2) : mstep s x = s := by
  obtain ⟨h1, h2, h3, h4⟩ := h
  unfold mstep
  rw [if_pos h1]
  unfold entryM
  rw [hn, h2, h3, if_neg (by simp)]
  dsimp only
  rw [if_neg (Bool.false_ne_true)]
  by_cases h5 : (x.2.2.inst.status == 3) = true
  · rw [if_pos h5]
    obtain ⟨c, hc, he⟩ := h4 h5
    unfold markM
    rw [hc]
    dsimp only
    rw [if_pos he]
  · rw [if_neg h5]
theorem clean_again (n : Int) : ∀ (l : List (Int × Bool × Entry)) (s : Rep), s.n = n → (∀ x ∈ l, Cl n s x.2) → l.foldl mstep s = s
  | [], s, _, _ => rfl
  | y :: l, s, h, hk => by
    rw [List.foldl_cons, clean_step n h (hk y (List.mem_cons_self ..))]
    exact clean_again n l s h fun x hx => hk x (List.mem_cons_of_mem _ hx)
/-- Dumps of which nothing is wrong, told twice, have nothing wrong either; and no less is wrong than once. -/
theorem look_again (n : Int) (ds : List Dump) : ((lookM n ds).list.length = 0 ↔ (lookM n (ds ++ ds)).list.length = 0) ∧ (lookM n ds).list.length ≤ (lookM n (ds ++ ds)).list.length := by
  have hn : (toldM n ds).n = n := by unfold toldM; rw [msteps_n]; rfl
  have e2 : toldM n (ds ++ ds) = (flatM n ds.length ds).foldl mstep (toldM n ds) := by
    unfold toldM
    rw [flatM_append, List.foldl_append, Nat.zero_add]
  have hin : ∀ x ∈ flatM n ds.length ds, ∃ y ∈ flatM n 0 ds, y.2 = x.2 := by
    intro x hx
    have : x.2 ∈ (flatM n 0 ds).map Prod.snd := by rw [flatM_snd n ds 0 ds.length]; exact List.mem_map_of_mem hx
    obtain ⟨y, hy, he⟩ := List.mem_map.1 this
    exact ⟨y, hy, he⟩
  obtain ⟨f1, f2⟩ := known_steps n (flatM n ds.length ds) (toldM n ds) hn fun x hx => by
    obtain ⟨y, hy, he⟩ := hin x hx
    rw [← he]
    exact Kn.steps n _ (rep0 n) rfl y hy
  obtain ⟨o, ho⟩ := (Grows.steps (flatM n ds.length ds) (toldM n ds)).list
  rw [← e2] at f1 f2 ho
  rw [lookM_told, lookM_told, tiesM_list, tiesM_list, f1, f2, ho]
  refine ⟨⟨fun h => ?_, fun h => ?_⟩, by simp only [List.length_append]; omega⟩
  · simp only [List.length_append] at h ⊢
    have h0 : (toldM n ds).list = [] := List.eq_nil_of_length_eq_zero (by omega)
    have h1 : toldM n (ds ++ ds) = toldM n ds := by
      rw [e2]
      refine clean_again n _ _ hn fun x hx => ?_
      obtain ⟨y, hy, he⟩ := hin x hx
      rw [← he]
      exact clean_steps n _ (rep0 n) rfl h0 y hy
    rw [h1, h0] at ho
    have : o = [] := by simpa using ho.symm
    subst this
    simpa using h
  · simp only [List.length_append] at h ⊢
    omega
end Go.Proofs.Ytahajjfbkdocaaa
