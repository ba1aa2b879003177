/- Several texts in one. -/
import Derived.Test.YtpganpiidgkofaaZ36
import Derived.Test.YtpganpiidgkofaaZ35
/- Layer 9, plain: a ledger's plate and its rows go together, whatever happens. No walk stands here. -/
namespace Go.Proofs.Ytpganpiidgkofaa
open Go.RowKit
set_option linter.unusedVariables false
/-- Rows that know the same. -/
def RowsEq (a b : RowsM) : Prop := a.n = b.n ∧ ∀ x, (getM a x).map NV = (getM b x).map NV
theorem RowsEq.refl (a : RowsM) : RowsEq a a := ⟨rfl, fun _ => rfl⟩
theorem RowsEq.symm {a b : RowsM} (h : RowsEq a b) : RowsEq b a := ⟨h.1.symm, fun x => (h.2 x).symm⟩
theorem RowsEq.trans {a b c : RowsM} (h : RowsEq a b) (k : RowsEq b c) : RowsEq a c := ⟨h.1.trans k.1, fun x => (h.2 x).trans (k.2 x)⟩
theorem RowsEq.set {a b : RowsM} (h : RowsEq a b) (x : Item) {i j : Inst} (hij : NV i = NV j) : RowsEq (setM a x i) (setM b x j) := by
  refine ⟨by rw [setM_n, setM_n]; exact h.1, fun y => ?_⟩
  by_cases hg : goodI x a.n = true
  · have hg2 : goodI x b.n = true := h.1 ▸ hg
    by_cases e : x = y
    · subst e; rw [getM_set_same _ hg, getM_set_same _ hg2]; simp [hij]
    · rw [getM_set_other _ hg e, getM_set_other _ hg2 e]; exact h.2 y
  · have hg2 : ¬ goodI x b.n = true := h.1 ▸ hg
    have e1 : setM a x i = a := by unfold setM; rw [if_neg hg]
    have e2 : setM b x j = b := by unfold setM; rw [if_neg hg2]
    rw [e1, e2]; exact h.2 y
/-- What is known behind records. -/
noncomputable def foldM (m : RowsM) (rs : List Ent) : RowsM := rs.foldl (fun m e => setM m e.1 e.2) m
noncomputable def foldE (n : Int) (rs : List Ent) : RowsM := foldM ⟨n, fun _ => []⟩ rs
theorem foldM_n (rs : List Ent) : ∀ m, (foldM m rs).n = m.n := by
  induction rs with
  | nil => intro m; rfl
  | cons e t ih => intro m; show (foldM (setM m e.1 e.2) t).n = _; rw [ih, setM_n]
theorem foldE_n (n : Int) (rs : List Ent) : (foldE n rs).n = n := foldM_n rs _
theorem foldE_snoc (n : Int) (rs : List Ent) (e : Ent) : foldE n (rs ++ [e]) = setM (foldE n rs) e.1 e.2 := by
  unfold foldE foldM; rw [List.foldl_append]; rfl
theorem mK_recs {n : Int} (hn : n ≤ 7) : ∀ (rs : List Ent) (at' : Nat) (a b : RowsM), GoodE n rs → RowsEq a b → RowsEq ((recT at' rs).foldl (fun m t => setM m (readS ⟨t.2, false⟩).1 (readS ⟨t.2, false⟩).2.1) a) (foldM b rs)
  | [], _, _, _, _, h => h
  | e :: t, at', a, b, hg, h => by
    have he := hg e (by simp)
    obtain ⟨_, h2, h3⟩ := read_rec hn he.1 he.2
    show RowsEq ((recT _ t).foldl _ (setM a (readS ⟨recB e.1 e.2, false⟩).1 (readS ⟨recB e.1 e.2, false⟩).2.1)) (foldM (setM b e.1 e.2) t)
    rw [h2]
    exact mK_recs hn t _ _ _ (fun x hx => hg x (by simp [hx])) (h.set e.1 h3)
theorem mK_recT {n : Int} (hn : n ≤ 7) {rs : List Ent} (hg : GoodE n rs) : RowsEq (mK n (recT 0 rs)) (foldE n rs) := mK_recs hn rs 0 _ _ hg (RowsEq.refl _)
/-! all that is known, in its order -/
noncomputable def entsC (g : Item → Option Inst) : List Ent := (List.range 7).flatMap fun r => (List.range 64).filterMap fun k => (g ⟨((r : Nat) : Int), ((k : Nat) : Int) + 1⟩).map fun t => (⟨((r : Nat) : Int), ((k : Nat) : Int) + 1⟩, t)
theorem filterMap_pre {α β : Type} (f : α → Option β) {l m : List α} (h : ∀ x ∈ m, f x = none) : (l ++ m).filterMap f = l.filterMap f := by
  rw [List.filterMap_append]
  have : m.filterMap f = [] := List.filterMap_eq_nil_iff.2 h
  rw [this, List.append_nil]
theorem getM_top {m : RowsM} {r k : Nat} (h : (topM m r).toNat ≤ k) : getM m ⟨(r : Int), (k : Int) + 1⟩ = none := by
  unfold getM
  split
  · rename_i hg
    unfold goodI at hg
    rw [decide_eq_true_iff] at hg
    simp only at hg
    unfold topM at h
    rw [if_pos ⟨by omega, hg.2.1⟩] at h
    simp only
    rw [List.getElem?_eq_none (by omega)]
    rfl
  · rfl
theorem ents_C {m : RowsM} (hm : RowsOk m) : ents m = entsC (getM m) := by
  have hr : ∀ r : Nat, entR m r (topM m r).toNat = (List.range 64).filterMap fun k => (getM m ⟨((r : Nat) : Int), ((k : Nat) : Int) + 1⟩).map fun t => (⟨((r : Nat) : Int), ((k : Nat) : Int) + 1⟩, t) := fun r => by
    have ht := hm.top (r : Int)
    obtain ⟨d, hd⟩ := Nat.exists_eq_add_of_le (show (topM m r).toNat ≤ 64 by omega)
    rw [hd, List.range_add, filterMap_pre]
    · rfl
    · intro x hx
      obtain ⟨j, _, rfl⟩ := List.mem_map.1 hx
      rw [getM_top (by omega)]; rfl
  have hto : ∀ n, entsTo m n = (List.range n).flatMap fun r => (List.range 64).filterMap fun k => (getM m ⟨((r : Nat) : Int), ((k : Nat) : Int) + 1⟩).map fun t => (⟨((r : Nat) : Int), ((k : Nat) : Int) + 1⟩, t) := fun n => by
    induction n with
    | zero => rfl
    | succ n ih => rw [entsTo, ih, hr, show List.range (n + 1) = List.range n ++ [n] from List.range_succ, List.flatMap_append]; simp
  exact hto 7
/-- Entries, as they are told. -/
def shown (L : List Ent) : List (Item × Array Value) := L.map fun e => (e.1, NV e.2)
theorem shown_C (g : Item → Option Inst) : shown (entsC g) = (List.range 7).flatMap fun r => (List.range 64).filterMap fun k => ((g ⟨((r : Nat) : Int), ((k : Nat) : Int) + 1⟩).map NV).map fun t => (⟨((r : Nat) : Int), ((k : Nat) : Int) + 1⟩, t) := by
  unfold shown entsC
  rw [List.map_flatMap]
  congr 1
  funext r
  rw [List.map_filterMap]
  congr 1
  funext k
  cases g ⟨((r : Nat) : Int), ((k : Nat) : Int) + 1⟩ <;> rfl
theorem RowsEq.shown {a b : RowsM} (h : RowsEq a b) (ha : RowsOk a) (hb : RowsOk b) : shown (ents a) = shown (ents b) := by
  rw [ents_C ha, ents_C hb, shown_C, shown_C]
  congr 1
  funext r
  congr 1
  funext k
  rw [h.2]
theorem ents_has {m : RowsM} (hm : RowsOk m) {x : Item} {t : Inst} (h : getM m x = some t) : (x, t) ∈ ents m := by
  rw [ents_C hm]
  have hg := getM_good h
  unfold goodI at hg
  rw [decide_eq_true_iff] at hg
  have hn := hm.n
  unfold entsC
  rw [List.mem_flatMap]
  refine ⟨x.rep.toNat, by rw [List.mem_range]; omega, ?_⟩
  rw [List.mem_filterMap]
  refine ⟨x.num.toNat - 1, by rw [List.mem_range]; omega, ?_⟩
  have e : (⟨((x.rep.toNat : Nat) : Int), ((x.num.toNat - 1 : Nat) : Int) + 1⟩ : Item) = x := by
    obtain ⟨a, b⟩ := x
    simp only at hg ⊢
    congr 1 <;> omega
  rw [e, h]; rfl
theorem fold_same {m : RowsM} : ∀ (L : List Ent) (m0 : RowsM), m0.n = m.n → (∀ e ∈ L, getM m e.1 = some e.2) → ∀ x, ((∃ e ∈ L, e.1 = x) → getM (foldM m0 L) x = getM m x) ∧ ((¬ ∃ e ∈ L, e.1 = x) → getM (foldM m0 L) x = getM m0 x)
  | [], m0, _, _, x => ⟨fun ⟨_, h, _⟩ => by simp at h, fun _ => rfl⟩
  | e :: t, m0, hn, hL, x => by
    have he := hL e (by simp)
    have hg : goodI e.1 m0.n = true := hn ▸ getM_good he
    have ih := fold_same t (setM m0 e.1 e.2) (by rw [setM_n]; exact hn) (fun y hy => hL y (by simp [hy])) x
    show (_ → getM (foldM (setM m0 e.1 e.2) t) x = _) ∧ (_ → getM (foldM (setM m0 e.1 e.2) t) x = _)
    by_cases h1 : ∃ y ∈ t, y.1 = x
    · refine ⟨fun _ => ih.1 h1, fun h2 => ?_⟩
      obtain ⟨y, hy, hx⟩ := h1
      exact absurd ⟨y, by simp [hy], hx⟩ h2
    · rw [ih.2 h1]
      by_cases h2 : e.1 = x
      · subst h2
        rw [getM_set_same _ hg]
        exact ⟨fun _ => he.symm, fun h => absurd ⟨e, by simp, rfl⟩ h⟩
      · rw [getM_set_other _ hg h2]
        refine ⟨fun ⟨y, hy, hx⟩ => ?_, fun _ => rfl⟩
        rcases List.mem_cons.1 hy with rfl | hy
        · exact absurd hx h2
        · exact absurd ⟨y, hy, hx⟩ h1
/-- Written anew: the records of all that is known. -/
theorem fold_ents {m : RowsM} (hm : RowsOk m) : RowsEq (foldE m.n (ents m)) m := by
  refine ⟨foldE_n _ _, fun x => ?_⟩
  have h := fold_same (m := m) (ents m) ⟨m.n, fun _ => []⟩ rfl (fun e he => ents_mem he) x
  by_cases hx : ∃ e ∈ ents m, e.1 = x
  · unfold foldE; rw [h.1 hx]
  · unfold foldE
    rw [h.2 hx, getM_new]
    cases hg : getM m x with
    | none => rfl
    | some t => exact absurd ⟨(x, t), ents_has hm hg, rfl⟩ hx
/-! a ledger: its plate's records, and its rows -/
structure LedI (n : Int) (D : List UInt8) (safe : Nat) (m : RowsM) (r1 r2 : List Ent) : Prop where
  n7 : 0 ≤ n ∧ n ≤ 7
  mn : m.n = n
  ok : RowsOk m
  good : RowsGood m
  recs : GoodE n (r1 ++ r2)
  data : D = recsOf (r1 ++ r2)
  at' : safe = (recsOf r1).length
  len : D.length ≤ 65536
  same : RowsEq m (foldE n (r1 ++ r2))
theorem LedI.new {n : Int} (h : 0 ≤ n ∧ n ≤ 7) : LedI n [] 0 ⟨n, fun _ => []⟩ [] [] :=
  ⟨h, rfl, RowsOk.new h, RowsGood.new n, fun _ h => by simp at h, rfl, rfl, by simp, RowsEq.refl _⟩
theorem GoodE.app {n : Int} {a b : List Ent} (ha : GoodE n a) (hb : GoodE n b) : GoodE n (a ++ b) := fun e he => by
  rcases List.mem_append.1 he with h | h
  · exact ha e h
  · exact hb e h
theorem LedI.goodEnts {n : Int} {D : List UInt8} {safe : Nat} {m : RowsM} {r1 r2 : List Ent} (h : LedI n D safe m r1 r2) : GoodE n (ents m) := fun e he => by
  have h1 := ents_mem he
  rw [← h.mn]
  exact ⟨getM_good h1, h.good _ _ h1⟩
theorem LedI.sync {n : Int} {D : List UInt8} {safe : Nat} {m : RowsM} {r1 r2 : List Ent} (h : LedI n D safe m r1 r2) : LedI n D D.length m (r1 ++ r2) [] :=
  ⟨h.n7, h.mn, h.ok, h.good, by rw [List.append_nil]; exact h.recs, by rw [List.append_nil]; exact h.data, by rw [h.data], h.len, by rw [List.append_nil]; exact h.same⟩
theorem LedI.tidy {n : Int} {D : List UInt8} {safe : Nat} {m : RowsM} {r1 r2 : List Ent} (h : LedI n D safe m r1 r2) (k : Nat) :
    (tightP D safe m k = (D, safe, 0)) ∨ (LedI n (tightP D safe m k).1 (tightP D safe m k).2.1 m (ents m) [] ∧ (tightP D safe m k).2.2 = 0) ∨ (tightP D safe m k = (D, safe, 6)) := by
  unfold tightP
  split
  · unfold tidyP
    split
    · right; left
      refine ⟨⟨h.n7, h.mn, h.ok, h.good, by rw [List.append_nil]; exact h.goodEnts, by rw [List.append_nil], rfl, by assumption, ?_⟩, rfl⟩
      rw [List.append_nil]
      have := fold_ents h.ok
      rw [h.mn] at this
      exact this.symm
    · exact .inr (.inr rfl)
  · exact .inl rfl
/-- What is behind an Add: refused, or full, or added. -/
theorem LedI.add {n : Int} {D : List UInt8} {safe : Nat} {m : RowsM} {r1 r2 : List Ent} (h : LedI n D safe m r1 r2) (x : Item) (i : Inst) :
    ((addM D safe m x i).2.2.2 ≠ 0 ∧ (addM D safe m x i).2.2.1 = m ∧ (LedI n (addM D safe m x i).1 (addM D safe m x i).2.1 m r1 r2 ∨ LedI n (addM D safe m x i).1 (addM D safe m x i).2.1 m (ents m) [])) ∨
    ((addM D safe m x i).2.2.2 = 0 ∧ (addM D safe m x i).2.2.1 = setM m x i ∧ (LedI n (addM D safe m x i).1 (addM D safe m x i).2.1 (setM m x i) r1 (r2 ++ [(x, i)]) ∨ LedI n (addM D safe m x i).1 (addM D safe m x i).2.1 (setM m x i) (ents m) [(x, i)])) := by
  have step : ∀ {D' : List UInt8} {safe' : Nat} {a b : List Ent}, LedI n D' safe' m a b → goodI x m.n = true → goodN i m.n = true → D'.length + (recOf (x, i)).length ≤ 65536 → LedI n (D' ++ recOf (x, i)) safe' (setM m x i) a (b ++ [(x, i)]) := fun {D' safe' a b} h hx hi hl => by
    refine ⟨h.n7, by rw [setM_n]; exact h.mn, h.ok.set x i, h.good.set hx hi, ?_, ?_, h.at', by rw [List.length_append]; exact hl, ?_⟩
    · rw [← List.append_assoc]
      exact h.recs.app fun e he => by simp at he; subst he; rw [← h.mn]; exact ⟨hx, hi⟩
    · rw [← List.append_assoc, recsOf_app, ← h.data]; simp [recsOf]
    · rw [← List.append_assoc, foldE_snoc]; exact h.same.set x rfl
  by_cases hg : goodI x m.n = true ∧ goodN i m.n = true
  · have e : addM D safe m x i = if (tightP D safe m (recOf (x, i)).length).2.2 = 0 then
          if (tightP D safe m (recOf (x, i)).length).1.length + (recOf (x, i)).length ≤ 65536 then ((tightP D safe m (recOf (x, i)).length).1 ++ recOf (x, i), (tightP D safe m (recOf (x, i)).length).2.1, setM m x i, 0)
          else ((tightP D safe m (recOf (x, i)).length).1, (tightP D safe m (recOf (x, i)).length).2.1, m, 6)
        else ((tightP D safe m (recOf (x, i)).length).1, (tightP D safe m (recOf (x, i)).length).2.1, m, (tightP D safe m (recOf (x, i)).length).2.2) := by unfold addM; rw [if_pos hg]
    rw [e]
    rcases h.tidy (recOf (x, i)).length with ht | ⟨hI, ht⟩ | ht
    · rw [ht, if_pos rfl]
      split
      · exact .inr ⟨rfl, rfl, .inl (step h hg.1 hg.2 (by assumption))⟩
      · exact .inl ⟨by simp, rfl, .inl h⟩
    · rw [if_pos ht]
      split
      · exact .inr ⟨rfl, rfl, .inr (step hI hg.1 hg.2 (by assumption))⟩
      · exact .inl ⟨by simp, rfl, .inr hI⟩
    · rw [ht, if_neg (by simp)]
      exact .inl ⟨by simp, rfl, .inl h⟩
  · have e : addM D safe m x i = (D, safe, m, 1) := by unfold addM; rw [if_neg hg]
    rw [e]
    exact .inl ⟨by simp, rfl, .inl h⟩
/-- Whatever the plate holds, what is opened goes with it. -/
theorem mK_ok {n : Int} (h : 0 ≤ n ∧ n ≤ 7) : ∀ (ts : List (Nat × List UInt8)), ts.all (fun t => okT n t.2) = true → ∀ m : RowsM, m.n = n → RowsOk m → RowsGood m → RowsOk (ts.foldl (fun m t => setM m (readS ⟨t.2, false⟩).1 (readS ⟨t.2, false⟩).2.1) m) ∧ RowsGood (ts.foldl (fun m t => setM m (readS ⟨t.2, false⟩).1 (readS ⟨t.2, false⟩).2.1) m)
  | [], _, m, _, h1, h2 => ⟨h1, h2⟩
  | t :: ts, hok, m, hn, h1, h2 => by
    simp at hok
    have ho := hok.1
    unfold okT at ho
    simp only [Bool.and_eq_true] at ho
    refine mK_ok h ts (by simpa using hok.2) _ (by rw [setM_n]; exact hn) (h1.set _ _) (h2.set (by rw [hn]; exact ho.1.2) (by rw [hn]; exact ho.2))
theorem takeWhile_good {α : Type} (p : α → Bool) : ∀ l : List α, (l.takeWhile p).all p = true
  | [] => rfl
  | a :: t => by
    rw [List.takeWhile_cons]
    split
    · rename_i h
      rw [List.all_cons, h, takeWhile_good p t]; rfl
    · rfl
theorem goT_all (n : Int) (D : List UInt8) : (goT n D).all (fun t => okT n t.2) = true := by
  unfold goT
  exact takeWhile_good _ _
theorem mK_rows {n : Int} (h : 0 ≤ n ∧ n ≤ 7) (D : List UInt8) : RowsOk (mK n (goT n D)) ∧ RowsGood (mK n (goT n D)) := mK_ok h _ (goT_all n D) _ rfl (RowsOk.new h) (RowsGood.new n)
noncomputable def openD (n : Int) (D : List UInt8) : List UInt8 := if eK (goT n D) < D.length then D.take (eK (goT n D)) else D
noncomputable def openF (n : Int) (D : List UInt8) (safe : Nat) : Nat := if eK (goT n D) < D.length then eK (goT n D) else safe
/-- Behind a loss of power: what is opened is some of what was added, in order. -/
theorem LedI.lose {n : Int} {D : List UInt8} {safe : Nat} {m : RowsM} {r1 r2 : List Ent} (h : LedI n D safe m r1 r2) (keep : Int) (s : UInt8) :
    ∃ j, j ≤ r2.length ∧ LedI n (openD n (lost D safe keep s)) (openF n (lost D safe keep s) (lost D safe keep s).length) (mK n (goT n (lost D safe keep s))) (r1 ++ r2.take j) [] := by
  have hsl : safe ≤ D.length := by rw [h.at', h.data, recsOf_app, List.length_append]; omega
  have h1 : D.take safe = recsOf r1 := by rw [h.data, h.at', recsOf_app, List.take_left]
  have h2 : D.drop safe = recsOf r2 := by rw [h.data, h.at', recsOf_app, List.drop_left]
  have hk := kept_le D.length safe keep hsl
  have hkl : keptN D.length safe keep ≤ (recsOf r2).length := by rw [← h2, List.length_drop]; omega
  obtain ⟨j, r, hj, hs, hr⟩ := spoiled h.n7.2 s r2 (keptN D.length safe keep) (fun e he => h.recs e (List.mem_append_right _ he)) hkl
  have hl : lost D safe keep s = recsOf (r1 ++ r2.take j) ++ r := by rw [lost_eq hsl, h1, h2, hs, recsOf_app, List.append_assoc]
  have hge : GoodE n (r1 ++ r2.take j) := fun e he => by
    rcases List.mem_append.1 he with h' | h'
    · exact h.recs e (List.mem_append_left _ h')
    · exact h.recs e (List.mem_append_right _ (List.mem_of_mem_take h'))
  have hg := goT_recs h.n7.2 hge hr
  rw [← hl] at hg
  have hlen : (lost D safe keep s).length ≤ D.length := by
    rw [lost_eq hsl, List.length_append]
    have e1 : ∀ (l : List UInt8), (spoilL l s).length = l.length := fun l => by unfold spoilL; split <;> simp_all
    rw [e1, List.length_take, List.length_take, List.length_drop]
    omega
  have hrows := mK_rows h.n7 (lost D safe keep s)
  have hmk := mK_recT h.n7.2 hge
  refine ⟨j, hj, ⟨h.n7, mK_n _ _, hrows.1, hrows.2, by rw [List.append_nil]; exact hge, ?_, ?_, ?_, by rw [List.append_nil, hg]; exact hmk⟩⟩
  · rw [List.append_nil]
    unfold openD
    rw [hg, eK_recs, hl]
    split
    · rw [List.take_left]
    · rename_i hlt
      rw [List.length_append] at hlt
      have : r = [] := List.eq_nil_of_length_eq_zero (by omega)
      rw [this, List.append_nil]
  · unfold openF
    rw [hg, eK_recs, hl]
    split
    · rfl
    · rename_i hlt
      rw [List.length_append] at hlt ⊢
      omega
  · unfold openD
    have hl2 := h.len
    split
    · rw [List.length_take]; omega
    · omega
end Go.Proofs.Ytpganpiidgkofaa
/- Layer 9, plain: books of what a ledger knows. No walk stands here. -/
namespace Go.Proofs.Ytpganpiidgkofaa
open Go.RowKit
set_option linter.unusedVariables false
theorem IV_inj {x y : Item} (h : IV x = IV y) : x = y := by
  obtain ⟨a, b⟩ := x
  obtain ⟨c, d⟩ := y
  have h0 : (IV ⟨a, b⟩)[0]? = (IV ⟨c, d⟩)[0]? := by rw [h]
  have h1 : (IV ⟨a, b⟩)[1]? = (IV ⟨c, d⟩)[1]? := by rw [h]
  simp [IV] at h0 h1
  rw [h0, h1]
theorem ents_apart {m : RowsM} (hm : RowsOk m) : (ents m).Pairwise fun a b => a.1 ≠ b.1 := by
  rw [ents_C hm]
  unfold entsC
  rw [List.pairwise_flatMap]
  refine ⟨fun r _ => ?_, ?_⟩
  · rw [List.pairwise_filterMap]
    refine (List.pairwise_lt_range (n := 64)).imp fun {k j} hkj b hb b' hb' e => ?_
    cases h1 : getM m ⟨((r : Nat) : Int), ((k : Nat) : Int) + 1⟩ with
    | none => rw [h1] at hb; simp at hb
    | some t =>
      cases h2 : getM m ⟨((r : Nat) : Int), ((j : Nat) : Int) + 1⟩ with
      | none => rw [h2] at hb'; simp at hb'
      | some t' =>
        rw [h1] at hb; rw [h2] at hb'
        simp at hb hb'
        subst hb; subst hb'
        simp at e
        omega
  · refine (List.pairwise_lt_range (n := 7)).imp fun {r s} hrs x hx y hy e => ?_
    rw [List.mem_filterMap] at hx hy
    obtain ⟨k, _, hx⟩ := hx
    obtain ⟨j, _, hy⟩ := hy
    cases h1 : getM m ⟨((r : Nat) : Int), ((k : Nat) : Int) + 1⟩ with
    | none => rw [h1] at hx; simp at hx
    | some t =>
      cases h2 : getM m ⟨((s : Nat) : Int), ((j : Nat) : Int) + 1⟩ with
      | none => rw [h2] at hy; simp at hy
      | some t' =>
        rw [h1] at hx; rw [h2] at hy
        simp at hx hy
        subst hx; subst hy
        simp at e
        omega
theorem setB_ents {m : RowsM} (hm : RowsOk m) {k : Nat} {e : Ent} (h : (ents m)[k]? = some e) : setB ((ents m).take k) e.1 e.2 = (ents m).take (k + 1) := by
  obtain ⟨hk, he⟩ := List.getElem?_eq_some_iff.1 h
  rw [setB_new, List.take_add_one, h]
  · rfl
  · intro j hj
    have hjk : j < k := by rw [List.length_take] at hj; omega
    rw [eqA_no]
    intro e2
    have e3 := IV_inj e2
    rw [List.getElem_take] at e3
    have := List.pairwise_iff_getElem.1 (ents_apart hm) j k (by omega) hk hjk
    rw [he] at this
    exact this e3.symm
/-- Do two books know the same? -/
noncomputable def sameB (K L : List Ent) : Bool := decide (K.length = L.length) && K.all fun e => L.any fun f => eqA (IV e.1) (IV f.1) && eqA (NV e.2) (NV f.2)
theorem shown_len (L : List Ent) : (shown L).length = L.length := by unfold shown; rw [List.length_map]
theorem sameB_shown {K L : List Ent} (h : shown K = shown L) : sameB K L = true := by
  have hl : K.length = L.length := by rw [← shown_len K, ← shown_len L, h]
  unfold sameB
  rw [decide_eq_true hl, Bool.true_and, List.all_eq_true]
  intro e he
  have h1 : (e.1, NV e.2) ∈ shown K := List.mem_map.2 ⟨e, he, rfl⟩
  rw [h] at h1
  obtain ⟨f, hf, hef⟩ := List.mem_map.1 h1
  rw [List.any_eq_true]
  injection hef with h2 h3
  exact ⟨f, hf, by rw [h2, h3, eqA_refl, eqA_refl]; rfl⟩
end Go.Proofs.Ytpganpiidgkofaa
