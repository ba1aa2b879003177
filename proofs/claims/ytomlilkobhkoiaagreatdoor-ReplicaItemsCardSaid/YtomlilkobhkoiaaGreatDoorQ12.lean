/- Several texts in one. -/
import Derived.Test.YtomlilkobhkoiaaGreatDoorQ7
import Derived.Test.YtomlilkobhkoiaaGreatDoorQ3
import Derived.Test.YtomlilkobhkoiaaGreatDoorQ4
/- A map of the call's own from keys to slices of its own, as a thing. Nothing of the program's functions stands here. -/
namespace Go.Proofs.YtomlilkobhkoiaaGreatDoor
open Go.RowKit
set_option linter.unusedVariables false
section
variable {α β : Type} (P : Program) (kt e : TypeId) (size : Nat) (V : β → Array Value) (kv : α → Value) (ok : α → Prop)
/-- The slices, each by its key. -/
def famR (L : List (α × Value × List β)) : Res := packR (L.map fun q => vecR e size q.2.1 q.2.2.length (vl V q.2.2))
structure KFit (N n : Nat) (g : α → Option Value) (L : List (α × Value × List β)) (f : α → List β) : Prop where
 n : n ≤ N
 keys : (L.map (·.1)).Pairwise (· ≠ ·)
 has : ∀ q ∈ L, g q.1 = some q.2.1 ∧ f q.1 = q.2.2 ∧ ok q.1
 none : ∀ x, (∀ q ∈ L, q.1 ≠ x) → g x = none ∧ f x = []
/-- In block b a map, of at most N entries: f. -/
def kmapR (b N : Nat) (f : α → List β) : Res :=
 exR fun q : {q : Nat × (α → Option Value) × List (α × Value × List β) // KFit ok N q.1 q.2.1 q.2.2 f} => packR [mapR P kt kv id ok b q.1.1 q.1.2.1, famR e size V q.1.2.2]
end
open Classical in
noncomputable def updK {α β : Type} (f : α → List β) (x : α) (l : List β) : α → List β := fun y => if y = x then l else f y
theorem updK_same {α β : Type} (f : α → List β) (x : α) (l : List β) : updK f x l x = l := by unfold updK; rw [if_pos rfl]
theorem updK_other {α β : Type} (f : α → List β) {x y : α} (l : List β) (h : y ≠ x) : updK f x l y = f y := by unfold updK; rw [if_neg h]
section
variable {α β : Type} {P : Program} {kt t e : TypeId} {size : Nat} {V : β → Array Value} {kv : α → Value} {ok : α → Prop} {w W : World} {F : Nat → Prop} {R : List Res} {b N : Nat} {f : α → List β}
theorem mapIs.look0 {n : Nat} {g : α → Option Value} (K : KeyOk P kt kv ok) (ht : P.underlying t = some (.map kt e)) {z v : Value} (hz : ∀ w, (zeroValue e).run P w = .ok z w) (h : mapIs P kt kv id ok W b n g) (x : α) (hx : ok x) (hv : (g x).getD z = v) :
  (Instr.lookup t (.map (some b)) (kv x) false).run P W = .ok v W := by
 rw [h.look1 K ht hz x hx, ← hv]
 cases g x <;> rfl
theorem Sts.kmapNew (T : Sts w F W R) : Sts w F (W.alloc (.map #[] 0)) (kmapR P kt e size V kv ok W.heap.size 0 (fun _ => []) :: R) := by
 have T1 := T.mapNew (P := P) (k := kt) (kv := kv) (ev := id) (ok := ok) (β := Value)
 refine Sts.close ⟨(0, fun _ => none, []), ⟨Nat.le_refl _, by simp, fun q h => by simp at h, fun x _ => ⟨rfl, rfl⟩⟩⟩ ?_
 refine Sts.pack (L := [mapR P kt kv id ok W.heap.size 0 fun _ => none, famR e size V []]) ?_
 refine Sts.perm ?_ (List.Perm.swap _ _ _)
 exact Sts.pack (L := []) T1
/-- What the map says of a key, its slice, and the others. -/
theorem Sts.kmapPick (T : Sts w F W (kmapR P kt e size V kv ok b N f :: R)) (x : α) (hx : ok x) :
  ∃ (v : Value) (n : Nat) (g : α → Option Value) (O : Res), n ≤ N ∧ (g x).getD (.slice none 0 0) = v ∧
   Sts w F W (mapR P kt kv id ok b n g :: vecR e size v (f x).length (vl V (f x)) :: O :: R) ∧
   (∀ w' F' W' R', Sts w' F' W' (mapR P kt kv id ok b n g :: vecR e size v (f x).length (vl V (f x)) :: O :: R') → Sts w' F' W' (kmapR P kt e size V kv ok b N f :: R')) ∧
   (∀ w' F' W' R' v' l' n' N', Sts w' F' W' (mapR P kt kv id ok b n' (putF g x v') :: vecR e size v' l'.length (vl V l') :: O :: R') → n' ≤ N' → Sts w' F' W' (kmapR P kt e size V kv ok b N' (updK f x l') :: R')) := by
 obtain ⟨⟨⟨n, g, L⟩, hf⟩, T⟩ := T.open
 dsimp only at T hf
 have T : Sts w F W (mapR P kt kv id ok b n g :: famR e size V L :: R) := T.unpack
 by_cases h : ∃ q ∈ L, q.1 = x
 ·obtain ⟨q, hq, rfl⟩ := h
  obtain ⟨l1, l2, rfl⟩ := List.append_of_mem hq
  obtain ⟨h1, h2, h3⟩ := hf.has q hq
  refine ⟨q.2.1, n, g, famR e size V (l1 ++ l2), hf.n, by rw [h1]; rfl, ?_, ?_, ?_⟩
  ·rw [h2]
   have T1 := (T.perm (List.Perm.swap _ _ _)).unpack
   rw [List.map_append, List.map_cons] at T1
   have hp : ((l1.map (fun q => vecR e size q.2.1 q.2.2.length (vl V q.2.2)) ++ vecR e size q.2.1 q.2.2.length (vl V q.2.2) :: l2.map (fun q => vecR e size q.2.1 q.2.2.length (vl V q.2.2))) ++ mapR P kt kv id ok b n g :: R).Perm ((l1 ++ l2).map (fun q => vecR e size q.2.1 q.2.2.length (vl V q.2.2)) ++ (mapR P kt kv id ok b n g :: vecR e size q.2.1 q.2.2.length (vl V q.2.2) :: R)) := by
    rw [List.map_append, List.append_assoc, List.append_assoc, List.cons_append]
    refine List.Perm.append_left _ ?_
    refine List.Perm.trans (List.perm_middle.symm) ?_
    refine List.Perm.append_left _ ?_
    exact List.Perm.swap _ _ _
   have T2 := (Sts.pack (T1.perm hp))
   exact T2.perm (((List.Perm.swap _ _ _).trans ((List.Perm.swap _ _ _).cons _)))
  ·intro w' F' W' R' T'
   refine Sts.close ⟨(n, g, l1 ++ q :: l2), hf⟩ ?_
   refine Sts.pack (L := [_, _]) ?_
   rw [h2] at T'
   have T1 := (T'.perm (((List.Perm.swap _ _ _).cons _).trans (List.Perm.swap _ _ _))).unpack
   refine Sts.perm ?_ (List.Perm.swap _ _ _)
   refine Sts.pack (L := List.map _ (l1 ++ q :: l2)) ?_
   refine T1.perm ?_
   rw [List.map_append, List.map_append, List.append_assoc, List.append_assoc, List.map_cons, List.cons_append]
   refine List.Perm.append_left _ ?_
   refine List.Perm.trans ?_ (List.perm_middle)
   refine List.Perm.append_left _ ?_
   exact List.Perm.swap _ _ _
  ·intro w' F' W' R' v' l' n' N' T' hn'
   have hk := hf.keys
   rw [List.map_append, List.map_cons, List.pairwise_append, List.pairwise_cons] at hk
   have hne : ∀ p ∈ l1 ++ l2, p.1 ≠ q.1 := fun p hp => by
    rcases List.mem_append.1 hp with h | h
    ·exact hk.2.2 p.1 (List.mem_map_of_mem h) q.1 (by simp)
    ·exact fun e => hk.2.1.1 p.1 (List.mem_map_of_mem h) e.symm
   refine Sts.close ⟨(n', putF g q.1 v', l1 ++ (q.1, v', l') :: l2), ?_⟩ ?_
   ·refine ⟨hn', ?_, fun p hp => ?_, fun y hy => ?_⟩
    ·rw [List.map_append, List.map_cons]
     have := hf.keys
     rw [List.map_append, List.map_cons] at this
     exact this
    ·rcases List.mem_append.1 hp with h | h
     ·have hp2 := hne p (List.mem_append.2 (.inl h))
      have h4 := hf.has p (List.mem_append.2 (.inl h))
      exact ⟨(putF_other _ _ hp2).trans h4.1, by rw [updK_other _ _ hp2]; exact h4.2.1, h4.2.2⟩
     ·rcases List.mem_cons.1 h with h | h
      ·subst h; exact ⟨putF_same _ _ _, updK_same _ _ _, h3⟩
      ·have hp2 := hne p (List.mem_append.2 (.inr h))
       have h4 := hf.has p (List.mem_append.2 (.inr (List.mem_cons_of_mem _ h)))
       exact ⟨(putF_other _ _ hp2).trans h4.1, by rw [updK_other _ _ hp2]; exact h4.2.1, h4.2.2⟩
    ·have hyq : y ≠ q.1 := fun e => hy (q.1, v', l') (by simp) e.symm
     have := hf.none y fun p hp e => by
      rcases List.mem_append.1 hp with h | h
      ·exact hy p (List.mem_append.2 (.inl h)) e
      ·rcases List.mem_cons.1 h with h | h
       ·subst h; exact hyq e.symm
       ·exact hy p (List.mem_append.2 (.inr (List.mem_cons_of_mem _ h))) e
     exact ⟨(putF_other _ _ hyq).trans this.1, by rw [updK_other _ _ hyq]; exact this.2⟩
   ·refine Sts.pack (L := [_, _]) ?_
    have T1 := (T'.perm (((List.Perm.swap _ _ _).cons _).trans (List.Perm.swap _ _ _))).unpack
    refine Sts.perm ?_ (List.Perm.swap _ _ _)
    refine Sts.pack (L := List.map _ (l1 ++ (q.1, v', l') :: l2)) ?_
    refine T1.perm ?_
    rw [List.map_append, List.map_append, List.append_assoc, List.append_assoc, List.map_cons, List.cons_append]
    refine List.Perm.append_left _ ?_
    refine List.Perm.trans ?_ (List.perm_middle)
    refine List.Perm.append_left _ ?_
    exact List.Perm.swap _ _ _
 ·have hno : ∀ q ∈ L, q.1 ≠ x := fun q hq e => h ⟨q, hq, e⟩
  obtain ⟨h1, h2⟩ := hf.none x hno
  refine ⟨.slice none 0 0, n, g, famR e size V L, hf.n, by rw [h1]; rfl, ?_, ?_, ?_⟩
  ·rw [h2]
   exact (T.vecNil e size).perm (List.Perm.swap _ _ _)
  ·intro w' F' W' R' T'
   refine Sts.close ⟨(n, g, L), hf⟩ ?_
   refine Sts.pack (L := [_, _]) ?_
   exact (T'.perm (List.Perm.swap _ _ _)).drop
  ·intro w' F' W' R' v' l' n' N' T' hn'
   refine Sts.close ⟨(n', putF g x v', (x, v', l') :: L), ?_⟩ ?_
   ·refine ⟨hn', ?_, fun p hp => ?_, fun y hy => ?_⟩
    ·rw [List.map_cons, List.pairwise_cons]
     exact ⟨fun a ha e => by obtain ⟨p, hp, rfl⟩ := List.mem_map.1 ha; exact hno p hp e.symm, hf.keys⟩
    ·rcases List.mem_cons.1 hp with h | h
     ·subst h; exact ⟨putF_same _ _ _, updK_same _ _ _, hx⟩
     ·have hp2 := hno p h
      have h4 := hf.has p h
      exact ⟨(putF_other _ _ hp2).trans h4.1, by rw [updK_other _ _ hp2]; exact h4.2.1, h4.2.2⟩
    ·have hyq : y ≠ x := fun e => hy (x, v', l') (by simp) e.symm
     have := hf.none y fun p hp e => hy p (List.mem_cons_of_mem _ hp) e
     exact ⟨(putF_other _ _ hyq).trans this.1, by rw [updK_other _ _ hyq]; exact this.2⟩
   ·refine Sts.pack (L := [_, _]) ?_
    have T1 := (T'.perm (((List.Perm.swap _ _ _).cons _).trans (List.Perm.swap _ _ _))).unpack
    refine Sts.perm ?_ (List.Perm.swap _ _ _)
    refine Sts.pack (L := List.map _ ((x, v', l') :: L)) ?_
    refine T1.perm ?_
    rw [List.map_cons, List.cons_append]
    exact (List.Perm.append_left _ (List.Perm.swap _ _ _)).trans List.perm_middle
end
end Go.Proofs.YtomlilkobhkoiaaGreatDoor
