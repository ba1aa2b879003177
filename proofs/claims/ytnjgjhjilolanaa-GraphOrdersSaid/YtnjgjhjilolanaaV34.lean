/- Several texts in one. -/
import Derived.Test.YtnjgjhjilolanaaV33
import Derived.Test.YtnjgjhjilolanaaV2
/- Layer 18, plain: what an item reaches, and its part, as the document finds them. No walk stands here. -/
namespace Go.Proofs.Ytnjgjhjilolanaa
open Go.RowKit
set_option linter.unusedVariables false
theorem mem_itemsTo {d : Nat → Int} {y : Item} : ∀ k, y ∈ itemsTo d k ↔ ∃ r, r < k ∧ ∃ j, j < (d r).toNat ∧ y = ⟨(r : Int), (j : Int) + 1⟩
  | 0 => by simp [itemsTo]
  | k + 1 => by
    rw [itemsTo, List.mem_append, mem_itemsTo k]
    constructor
    · rintro (⟨r, h1, h2⟩ | h)
      · exact ⟨r, by omega, h2⟩
      · unfold repL at h
        rw [List.mem_map] at h
        obtain ⟨j, hj, rfl⟩ := h
        exact ⟨k, by omega, j, List.mem_range.1 hj, rfl⟩
    · rintro ⟨r, h1, j, h2, rfl⟩
      by_cases e : r = k
      · subst e
        right
        unfold repL
        exact List.mem_map.2 ⟨j, List.mem_range.2 h2, rfl⟩
      · exact .inl ⟨r, by omega, j, h2, rfl⟩
/-- All items that a call can wait for. -/
def allIt : List Item := itemsL fun _ => 64
theorem allIt_len : allIt.length ≤ 448 := itemsTo_len (fun _ _ => Int.le_refl _) 7 (Nat.le_refl _)
theorem items_all {d : Nat → Int} (hd : ∀ i, i < 7 → d i ≤ 64) : ∀ y ∈ itemsL d, y ∈ allIt := by
  intro y hy
  obtain ⟨r, h1, j, h2, rfl⟩ := (mem_itemsTo 7).1 hy
  have := hd r h1
  exact (mem_itemsTo 7).2 ⟨r, h1, j, by show j < (64 : Int).toNat; omega, rfl⟩
/-- What is put behind, if it isn't there. -/
noncomputable def addI (o : List Item) (y : Item) : List Item := if inB y o = true then o else o ++ [y]
noncomputable def addL (l out : List Item) : List Item := l.foldl addI out
theorem addI_mem {o : List Item} {y z : Item} : z ∈ addI o y ↔ z ∈ o ∨ z = y := by
  unfold addI
  split
  · rename_i h
    have := inB_iff.1 h
    exact ⟨.inl, fun h => h.elim id fun h => h ▸ this⟩
  · simp
theorem addI_nodup {o : List Item} {y : Item} (h : o.Nodup) : (addI o y).Nodup := by
  unfold addI
  split
  · exact h
  · rename_i hn
    rw [List.nodup_append]
    exact ⟨h, by simp, fun a ha b hb => by simp at hb; subst hb; exact fun e => hn (inB_iff.2 (e ▸ ha))⟩
theorem addI_pre {o : List Item} {y : Item} : o <+: addI o y := by
  unfold addI
  split
  · exact List.prefix_refl _
  · exact List.prefix_append _ _
theorem addL_mem : ∀ {l o : List Item} {z : Item}, z ∈ addL l o ↔ z ∈ o ∨ z ∈ l
  | [], o, z => by simp [addL]
  | y :: l, o, z => by
    show z ∈ addL l (addI o y) ↔ _
    rw [addL_mem, addI_mem, List.mem_cons, or_assoc]
theorem addL_nodup : ∀ {l o : List Item}, o.Nodup → (addL l o).Nodup
  | [], o, h => h
  | y :: l, o, h => addL_nodup (l := l) (addI_nodup h)
theorem addL_pre : ∀ {l o : List Item}, o <+: addL l o
  | [], o => List.prefix_refl _
  | y :: l, o => addI_pre.trans (addL_pre (l := l))
theorem addL_snoc (l o : List Item) (y : Item) : addL (l ++ [y]) o = addI (addL l o) y := by unfold addL; rw [List.foldl_append]; rfl
noncomputable def frmI (x : Item) (k : Nat) (out : List Item) : Item := if k = 0 then x else (out[k - 1]?).getD x
noncomputable def rchF (m : RowsMK) (q : RowsML) (x : Item) : Nat → Nat → List Item → List Item
  | 0, _, out => out
  | n + 1, k, out => if k ≤ out.length then rchF m q x n (k + 1) (addL (waitsM m q (frmI x k out)) out) else out
noncomputable def reachL (m : RowsMK) (q : RowsML) (x : Item) : List Item := rchF m q x 450 0 []
section
variable {m : RowsMK} {q : RowsML} {its : List Item} {x : Item}
theorem rchF_end (n k : Nat) (out : List Item) (h : out.length < k) : rchF m q x n k out = out := by
  cases n with
  | zero => rfl
  | succ n => rw [rchF, if_neg (by omega)]
structure RInv (m : RowsMK) (q : RowsML) (x : Item) (k : Nat) (out : List Item) : Prop where
  le : k ≤ out.length + 1
  nd : out.Nodup
  all : ∀ y ∈ out, y ∈ allIt
  src : ∀ y ∈ out, ∃ z, Rch m q x z ∧ y ∈ waitsM m q z
  don : ∀ j, j < k → ∀ z ∈ waitsM m q (frmI x j out), z ∈ out
theorem RInv.start : RInv m q x 0 [] := ⟨by omega, List.nodup_nil, by simp, by simp, fun j h => by omega⟩
theorem RInv.len {k : Nat} {out : List Item} (h : RInv m q x k out) : out.length ≤ 448 := Nat.le_trans (nodup_len out allIt h.nd h.all) allIt_len
theorem frm_pre {j : Nat} {o o' : List Item} (h : o <+: o') (hj : j ≤ o.length) : frmI x j o' = frmI x j o := by
  unfold frmI
  split
  · rfl
  · obtain ⟨t, rfl⟩ := h
    rw [List.getElem?_append_left (by omega)]
theorem frm_src {k : Nat} {out : List Item} (h : RInv m q x k out) (hk : k ≤ out.length) : Rch m q x (frmI x k out) := by
  unfold frmI
  split
  · exact .refl x
  · have hlt : k - 1 < out.length := by omega
    rw [List.getElem?_eq_getElem hlt, Option.getD_some]
    obtain ⟨z, h1, h2⟩ := h.src _ (List.getElem_mem hlt)
    exact .step h1 h2
theorem waits_all (G : GInv m its) (y : Item) : ∀ z ∈ waitsM m q y, z ∈ allIt := fun z hz => by
  unfold waitsM at hz
  exact items_all (fun i hi => G.deps y i hi) z (List.mem_filter.1 hz).1
theorem RInv.step (G : GInv m its) {k : Nat} {out : List Item} (h : RInv m q x k out) (hk : k ≤ out.length) : RInv m q x (k + 1) (addL (waitsM m q (frmI x k out)) out) where
  le := by
    have := (addL_pre (l := waitsM m q (frmI x k out)) (o := out)).length_le
    omega
  nd := addL_nodup h.nd
  all y hy := by
    rcases addL_mem.1 hy with hy | hy
    · exact h.all y hy
    · exact waits_all G _ y hy
  src y hy := by
    rcases addL_mem.1 hy with hy | hy
    · exact h.src y hy
    · exact ⟨_, frm_src h hk, hy⟩
  don j hj z hz := by
    rw [frm_pre addL_pre (by omega)] at hz
    by_cases e : j = k
    · subst e; exact addL_mem.2 (.inr hz)
    · exact addL_mem.2 (.inl (h.don j (by omega) z hz))
theorem rchF_spec (G : GInv m its) : ∀ (n k : Nat) (out : List Item), RInv m q x k out → n + k = 450 → RInv m q x ((rchF m q x n k out).length + 1) (rchF m q x n k out)
  | 0, k, out, h, hn => by have := h.le; have := h.len; omega
  | n + 1, k, out, h, hn => by
    rw [rchF]
    split
    · rename_i hk
      exact rchF_spec G n (k + 1) _ (h.step G hk) (by omega)
    · rename_i hk
      have : k = out.length + 1 := by have := h.le; omega
      rw [← this]; exact h
theorem reach_inv (G : GInv m its) : RInv m q x ((reachL m q x).length + 1) (reachL m q x) := rchF_spec G 450 0 [] .start rfl
theorem reach_nodup (G : GInv m its) : (reachL m q x).Nodup := (reach_inv G).nd
theorem reach_mem (G : GInv m its) {y : Item} : y ∈ reachL m q x ↔ ∃ z, Rch m q x z ∧ y ∈ waitsM m q z := by
  have hI := reach_inv (q := q) (x := x) G
  refine ⟨hI.src y, ?_⟩
  have key : ∀ z, Rch m q x z → ∀ y ∈ waitsM m q z, y ∈ reachL m q x := by
    intro z hz
    induction hz with
    | refl =>
      intro y hy
      exact hI.don 0 (by omega) y hy
    | step _ h ih =>
      intro y hy
      have hb := ih _ h
      obtain ⟨j, hj, e⟩ := List.getElem_of_mem hb
      refine hI.don (j + 1) (by omega) y ?_
      unfold frmI
      rw [if_neg (by omega), Nat.add_sub_cancel, List.getElem?_eq_getElem hj, Option.getD_some, e]
      exact hy
  rintro ⟨z, h1, h2⟩
  exact key z h1 y h2
theorem reach_iff (G : GInv m its) {y : Item} (h : y ≠ x) : y ∈ reachL m q x ↔ Rch m q x y := by
  rw [reach_mem G]
  constructor
  · rintro ⟨z, h1, h2⟩; exact .step h1 h2
  · intro hr
    cases hr with
    | refl => exact absurd rfl h
    | step h1 h2 => exact ⟨_, h1, h2⟩
theorem bef_lt (m : RowsMK) (x y : Item) : befB m x y = ltM m x y := by
  rw [Bool.eq_iff_iff, ltM_iff]
  unfold befB
  simp only [Bool.or_eq_true, Bool.and_eq_true, decide_eq_true_eq, beq_iff_eq, lessI]
/-- An item in its place among a part's. -/
noncomputable def insL (m : RowsMK) (p : List Item) (y : Item) : List Item := p.takeWhile (fun z => befB m z y) ++ y :: p.dropWhile (fun z => befB m z y)
noncomputable def partL (m : RowsMK) (q : RowsML) (x : Item) : List Item := (reachL m q x).foldl (fun p y => if (eqA (IV y) (IV x) || !inB x (reachL m q y)) = true then p else insL m p y) [x]
theorem insL_mem {p : List Item} {y z : Item} : z ∈ insL m p y ↔ z = y ∨ z ∈ p := by
  have h := List.takeWhile_append_dropWhile (p := fun z => befB m z y) (l := p)
  unfold insL
  constructor
  · intro hz
    rcases List.mem_append.1 hz with hz | hz
    · exact .inr ((List.takeWhile_sublist _).subset hz)
    · rcases List.mem_cons.1 hz with rfl | hz
      · exact .inl rfl
      · exact .inr ((List.dropWhile_sublist _).subset hz)
  · rintro (rfl | hz)
    · simp
    · rw [← h] at hz
      rcases List.mem_append.1 hz with hz | hz
      · exact List.mem_append.2 (.inl hz)
      · exact List.mem_append.2 (.inr (List.mem_cons.2 (.inr hz)))
abbrev Srt (m : RowsMK) (p : List Item) : Prop := p.Pairwise (fun a c => ltM m a c = true)
theorem ltM_ne {a c : Item} (h : ltM m a c = true) : a ≠ c := fun e => by
  subst e
  have := (ltM_swo m).irrefl a
  rw [h] at this; cases this
theorem insL_srt {p : List Item} {y : Item} (h : Srt m p) (hy : y ∉ p) : Srt m (insL m p y) := by
  induction p with
  | nil => unfold insL; simp
  | cons a t ih =>
    have h' := List.pairwise_cons.1 h
    by_cases hb : befB m a y = true
    · have e : insL m (a :: t) y = a :: insL m t y := by unfold insL; rw [List.takeWhile_cons_of_pos (by exact hb), List.dropWhile_cons_of_pos (by exact hb)]; rfl
      rw [e]
      refine List.pairwise_cons.2 ⟨fun z hz => ?_, ih h'.2 (fun hc => hy (by simp [hc]))⟩
      rcases insL_mem.1 hz with rfl | hz
      · rw [← bef_lt]; exact hb
      · exact h'.1 z hz
    · have e : insL m (a :: t) y = y :: a :: t := by unfold insL; rw [List.takeWhile_cons_of_neg (by exact hb), List.dropWhile_cons_of_neg (by exact hb)]; rfl
      rw [e]
      have hya : ltM m y a = true := by
        cases hc : ltM m y a with
        | true => rfl
        | false =>
          exact absurd (ltM_total m y a hc (by rw [← bef_lt]; simpa using hb)) (fun e => hy (by simp [e]))
      refine List.pairwise_cons.2 ⟨fun z hz => ?_, h⟩
      rcases List.mem_cons.1 hz with rfl | hz
      · exact hya
      · exact (ltM_swo m).trans y a z hya (h'.1 z hz)
theorem srt_one : ∀ {l k : List Item}, Srt m l → Srt m k → (∀ v, v ∈ l ↔ v ∈ k) → l = k
  | [], [], _, _, _ => rfl
  | [], b :: k, _, _, h => by have := (h b).2 (by simp); simp at this
  | a :: l, [], _, _, h => by have := (h a).1 (by simp); simp at this
  | a :: l, b :: k, h1, h2, h => by
    have g1 := List.pairwise_cons.1 h1
    have g2 := List.pairwise_cons.1 h2
    have e : a = b := by
      rcases List.mem_cons.1 ((h a).1 (by simp)) with e | e
      · exact e
      · rcases List.mem_cons.1 ((h b).2 (by simp)) with e2 | e2
        · exact e2.symm
        · have t := (ltM_swo m).trans a b a (g1.1 b e2) (g2.1 a e)
          exact absurd rfl (ltM_ne t)
    subst e
    rw [srt_one g1.2 g2.2 fun v => ?_]
    constructor
    · intro hv
      rcases List.mem_cons.1 ((h v).1 (by simp [hv])) with rfl | hv2
      · exact absurd rfl (ltM_ne (g1.1 v hv))
      · exact hv2
    · intro hv
      rcases List.mem_cons.1 ((h v).2 (by simp [hv])) with rfl | hv2
      · exact absurd rfl (ltM_ne (g2.1 v hv))
      · exact hv2
theorem sortM_srt {l : List Item} (hn : l.Nodup) : Srt m (sortM m l) := by
  have hn2 : (sortM m l).Nodup := (sortM_perm m l).nodup_iff.2 hn
  have hs := sortM_sorted m l
  unfold Srt
  rw [List.pairwise_iff_getElem]
  intro i j hi hj hij
  have h1 := hs i j hij hj
  cases hc : ltM m (sortM m l)[i] (sortM m l)[j] with
  | true => rfl
  | false =>
    have := ltM_total m _ _ hc h1
    have h2 := (List.getElem_inj hn2).1 this
    omega
theorem part_fold (G : GInv m its) : ∀ (l p : List Item), Srt m p → (∀ y ∈ l, y ∉ p ∨ y = x) → l.Nodup → x ∈ p →
    Srt m (l.foldl (fun p y => if (eqA (IV y) (IV x) || !inB x (reachL m q y)) = true then p else insL m p y) p) ∧ ∀ v, v ∈ l.foldl (fun p y => if (eqA (IV y) (IV x) || !inB x (reachL m q y)) = true then p else insL m p y) p ↔ v ∈ p ∨ (v ∈ l ∧ v ≠ x ∧ x ∈ reachL m q v)
  | [], p, h, _, _, _ => ⟨h, fun v => by simp⟩
  | y :: l, p, h, hl, hn, hx => by
    have hn2 := List.nodup_cons.1 hn
    rw [List.foldl_cons]
    by_cases hc : (eqA (IV y) (IV x) || !inB x (reachL m q y)) = true
    · rw [if_pos hc]
      obtain ⟨h1, h2⟩ := part_fold G l p h (fun z hz => hl z (by simp [hz])) hn2.2 hx
      refine ⟨h1, fun v => ?_⟩
      rw [h2 v]
      constructor
      · rintro (a | ⟨a, b⟩)
        · exact .inl a
        · exact .inr ⟨by simp [a], b⟩
      · rintro (a | ⟨a, b, c⟩)
        · exact .inl a
        · rcases List.mem_cons.1 a with rfl | a
          · exfalso
            rw [Bool.or_eq_true] at hc
            rcases hc with hc | hc
            · exact b (IV_eq (eqA_iff.1 hc))
            · rw [inB_iff.2 c] at hc; cases hc
          · exact .inr ⟨a, b, c⟩
    · rw [if_neg hc]
      have hyx : y ≠ x := fun e => hc (by rw [e, eqA_refl]; rfl)
      have hyr : x ∈ reachL m q y := by
        rw [← inB_iff]
        cases hi : inB x (reachL m q y) with
        | true => rfl
        | false => rw [hi] at hc; simp at hc
      have hyp : y ∉ p := (hl y (by simp)).resolve_right hyx
      obtain ⟨h1, h2⟩ := part_fold G l (insL m p y) (insL_srt h hyp) (fun z hz => by
        rcases hl z (by simp [hz]) with a | a
        · refine .inl fun hc => ?_
          rcases insL_mem.1 hc with rfl | hc
          · exact hn2.1 hz
          · exact a hc
        · exact .inr a) hn2.2 (insL_mem.2 (.inr hx))
      refine ⟨h1, fun v => ?_⟩
      rw [h2 v, insL_mem]
      constructor
      · rintro ((rfl | a) | ⟨a, b⟩)
        · exact .inr ⟨by simp, hyx, hyr⟩
        · exact .inl a
        · exact .inr ⟨by simp [a], b⟩
      · rintro (a | ⟨a, b, c⟩)
        · exact .inl (.inr a)
        · rcases List.mem_cons.1 a with rfl | a
          · exact .inl (.inl rfl)
          · exact .inr ⟨a, b, c⟩
theorem partL_spec (G : GInv m its) (x : Item) : Srt m (partL m q x) ∧ ∀ v, v ∈ partL m q x ↔ Rch m q x v ∧ Rch m q v x := by
  obtain ⟨h1, h2⟩ := part_fold (q := q) (x := x) G (reachL m q x) [x] (by simp) (fun y _ => by by_cases e : y = x <;> simp [e]) (reach_nodup G) (by simp)
  refine ⟨h1, fun v => ?_⟩
  have h3 := h2 v
  unfold partL
  rw [h3]
  constructor
  · rintro (a | ⟨a, b, c⟩)
    · simp at a; subst a; exact ⟨.refl v, .refl v⟩
    · exact ⟨(reach_iff G b).1 a, (reach_iff G (fun e => b e.symm)).1 c⟩
  · rintro ⟨a, b⟩
    by_cases e : v = x
    · simp [e]
    · exact .inr ⟨(reach_iff G e).2 a, e, (reach_iff G (fun e' => e e'.symm)).2 b⟩
theorem partOk (G : GInv m its) : PtOk m q x (partL m q) where
  mem y _ v := (partL_spec G y).2 v
  eq y _ C hC hm := srt_one (sortM_srt hC) (partL_spec G y).1 fun v => by rw [(sortM_perm m C).mem_iff, hm v, (partL_spec G y).2 v]
end
end Go.Proofs.Ytnjgjhjilolanaa

namespace Go.Proofs.Ytnjgjhjilolanaa
open Go.RowKit
attribute [local go_sem] row_alloc row_drew row_drewN row_ext row_setCell row_setRow size_ext setRow_alloc setRow_drew loadOf storeOf piece_lit DV_piece loadVal_at storeVal_at allOne_lit DV_size DV_one
attribute [local go_sem high] cell_alloc frozen_alloc setCell_alloc cell_ext frozen_ext
attribute [local go_sem ↓] index_deps0 load_deps0 store_deps0
attribute [local go_sem] index_deps load_deps store_deps
def hasD (d : Nat → Int) (r n : Int) : Bool := decide (0 ≤ r ∧ r < 7 ∧ 1 ≤ n ∧ n ≤ d r.toNat)
/-! The document's Has: the same, by a loop. -/
set_option maxHeartbeats 400000 in
theorem rhas_yes (d : Nat → Int) (r n : Int) (hr0 : 0 ≤ r) (hr : r < 7) (hn : 0 < n) : 
    Ans Try.prog 48 #[.agg (DV d), .agg #[.int .i64 r, .int .i64 n]] (.bool (decide (n ≤ d r.toNat))) := by
  intro w
  obtain ⟨k, rfl⟩ := Int.eq_ofNat_of_zero_le hr0
  rw [Int.toNat_natCast]
  have hD := DV_get d k (by omega)
  generalize d k = v at *
  go_enter Try.func48, Try.ntmps48
  go_wp2
  go_loop [5] (fun i => ∃ j : Nat, j ≤ k ∧ i = .int .i64 j) (fun i => 7 - (intOf i).toNat)
  case atStart => exact ⟨0, by omega, rfl⟩
  case round =>
    obtain ⟨j, hj, rfl⟩ := hrel
    by_cases hjk : j < k
    · have hne : ((j : Int) == (k : Int)) = false := by rw [beq_eq_false_iff_ne]; omega
      go_wp2
      go_round
      case rel => exact ⟨j + 1, by omega, by go_num⟩
      case measure => simp [intOf]; omega
    · obtain rfl : j = k := by omega
      go_wp2
      go_quiet (fail)
      go_wp2
      go_ret
      exact ⟨rfl, below_drewN (((Below.refl _ _).alloc (Nat.le_refl _) _).alloc (by simp) _) _⟩
set_option maxHeartbeats 400000 in
theorem rhas_np (d : Nat → Int) (r n : Int) (hr0 : 0 ≤ r) (hr : r < 7) (hn : ¬ 0 < n) : 
    Ans Try.prog 48 #[.agg (DV d), .agg #[.int .i64 r, .int .i64 n]] (.bool false) := by
  intro w
  obtain ⟨k, rfl⟩ := Int.eq_ofNat_of_zero_le hr0
  have hn' : decide (0 < n) = false := by simpa using hn
  go_enter Try.func48, Try.ntmps48
  go_wp2
  go_loop [5] (fun i => ∃ j : Nat, j ≤ k ∧ i = .int .i64 j) (fun i => 7 - (intOf i).toNat)
  case atStart => exact ⟨0, by omega, rfl⟩
  case round =>
    obtain ⟨j, hj, rfl⟩ := hrel
    by_cases hjk : j < k
    · have hne : ((j : Int) == (k : Int)) = false := by rw [beq_eq_false_iff_ne]; omega
      go_wp2
      go_round
      case rel => exact ⟨j + 1, by omega, by go_num⟩
      case measure => simp [intOf]; omega
    · obtain rfl : j = k := by omega
      go_wp2
      go_quiet (fail)
      go_wp2
      go_ret
      exact ⟨rfl, below_drewN (((Below.refl _ _).alloc (Nat.le_refl _) _).alloc (by simp) _) _⟩
set_option maxHeartbeats 400000 in
theorem rhas_out (d : Nat → Int) (r n : Int) (hr0 : ¬ (0 ≤ r ∧ r < 7)) : 
    Ans Try.prog 48 #[.agg (DV d), .agg #[.int .i64 r, .int .i64 n]] (.bool false) := by
  intro w
  go_enter Try.func48, Try.ntmps48
  go_wp2
  go_loop [5] (fun i => ∃ j : Nat, j ≤ 7 ∧ i = .int .i64 j) (fun i => 7 - (intOf i).toNat)
  case atStart => exact ⟨0, by omega, rfl⟩
  case round =>
    obtain ⟨j, hj, rfl⟩ := hrel
    by_cases hjk : j < 7
    · have hne : ((j : Int) == r) = false := by rw [beq_eq_false_iff_ne]; omega
      go_wp2
      go_round
      case rel => exact ⟨j + 1, by omega, by go_num⟩
      case measure => simp [intOf]; omega
    · obtain rfl : j = 7 := by omega
      go_wp2
      go_ret
      exact ⟨rfl, (((Below.refl _ _).alloc (Nat.le_refl _) _).alloc (by simp) _)⟩
theorem rhas_any (d : Nat → Int) (r n : Int) : Ans Try.prog 48 #[.agg (DV d), .agg #[.int .i64 r, .int .i64 n]] (.bool (hasD d r n)) := by
  by_cases h : 0 ≤ r ∧ r < 7
  · by_cases hn : 0 < n
    · have := rhas_yes d r n h.1 h.2 hn
      rw [show hasD d r n = decide (n ≤ d r.toNat) by unfold hasD; simp [h.1, h.2]; omega]; exact this
    · have := rhas_np d r n h.1 h.2 hn
      rw [show hasD d r n = false by unfold hasD; rw [decide_eq_false_iff_not]; omega]; exact this
  · have := rhas_out d r n h
    rw [show hasD d r n = false by unfold hasD; rw [decide_eq_false_iff_not]; omega]; exact this
end Go.Proofs.Ytnjgjhjilolanaa
