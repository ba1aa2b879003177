/- Several texts in one. -/
import Derived.Test.YtpganpiidgkofaaX24
import Derived.Test.YtpganpiidgkofaaX9
import Derived.Test.YtpganpiidgkofaaX22
/- Layer 9, plain: a ledger's plate and its rows go together, whatever happens. No walk stands here. -/
namespace Go.Proofs.Ytpganpiidgkofaa
open Go.RowKit
set_option linter.unusedVariables false
/-- Rows that know the same. -/
def RowsEq (a b : RowsM) : Prop := a.n = b.n ∧ ∀ x, (getM a x).map NV = (getM b x).map NV
theorem RowsEq.refl (a : RowsM) : RowsEq a a := ⟨rfl, fun _ => rfl⟩
theorem RowsEq.symm {a b : RowsM} (h : RowsEq a b) : RowsEq b a := ⟨h.1.symm, fun x => (h.2 x).symm⟩
theorem RowsEq.trans {a b c : RowsM} (h : RowsEq a b) (k : RowsEq b c) : RowsEq a c := ⟨h.1.trans k.1, fun x => (h.2 x).trans (k.2 x)⟩
theorem RowsEq.set {a b : RowsM} (h : RowsEq a b) (x : Item) {i j : Inst} (hij : NV i = NV j) : RowsEq (setM a x i) (setM b x j) := by
  refine ⟨by rw [setM_n, setM_n]; exact h.1, fun y => ?_⟩
  by_cases hg : goodI x a.n = true
  · have hg2 : goodI x b.n = true := h.1 ▸ hg
    by_cases e : x = y
    · subst e; rw [getM_set_same _ hg, getM_set_same _ hg2]; simp [hij]
    · rw [getM_set_other _ hg e, getM_set_other _ hg2 e]; exact h.2 y
  · have hg2 : ¬ goodI x b.n = true := h.1 ▸ hg
    have e1 : setM a x i = a := by unfold setM; rw [if_neg hg]
    have e2 : setM b x j = b := by unfold setM; rw [if_neg hg2]
    rw [e1, e2]; exact h.2 y
/-- What is known behind records. -/
noncomputable def foldM (m : RowsM) (rs : List Ent) : RowsM := rs.foldl (fun m e => setM m e.1 e.2) m
noncomputable def foldE (n : Int) (rs : List Ent) : RowsM := foldM ⟨n, fun _ => []⟩ rs
theorem foldM_n (rs : List Ent) : ∀ m, (foldM m rs).n = m.n := by
  induction rs with
  | nil => intro m; rfl
  | cons e t ih => intro m; show (foldM (setM m e.1 e.2) t).n = _; rw [ih, setM_n]
theorem foldE_n (n : Int) (rs : List Ent) : (foldE n rs).n = n := foldM_n rs _
theorem foldE_snoc (n : Int) (rs : List Ent) (e : Ent) : foldE n (rs ++ [e]) = setM (foldE n rs) e.1 e.2 := by
  unfold foldE foldM; rw [List.foldl_append]; rfl
theorem mK_recs {n : Int} (hn : n ≤ 7) : ∀ (rs : List Ent) (at' : Nat) (a b : RowsM), GoodE n rs → RowsEq a b → RowsEq ((recT at' rs).foldl (fun m t => setM m (readS ⟨t.2, false⟩).1 (readS ⟨t.2, false⟩).2.1) a) (foldM b rs)
  | [], _, _, _, _, h => h
  | e :: t, at', a, b, hg, h => by
    have he := hg e (by simp)
    obtain ⟨_, h2, h3⟩ := read_rec hn he.1 he.2
    show RowsEq ((recT _ t).foldl _ (setM a (readS ⟨recB e.1 e.2, false⟩).1 (readS ⟨recB e.1 e.2, false⟩).2.1)) (foldM (setM b e.1 e.2) t)
    rw [h2]
    exact mK_recs hn t _ _ _ (fun x hx => hg x (by simp [hx])) (h.set e.1 h3)
theorem mK_recT {n : Int} (hn : n ≤ 7) {rs : List Ent} (hg : GoodE n rs) : RowsEq (mK n (recT 0 rs)) (foldE n rs) := mK_recs hn rs 0 _ _ hg (RowsEq.refl _)
/-! all that is known, in its order -/
noncomputable def entsC (g : Item → Option Inst) : List Ent := (List.range 7).flatMap fun r => (List.range 64).filterMap fun k => (g ⟨((r : Nat) : Int), ((k : Nat) : Int) + 1⟩).map fun t => (⟨((r : Nat) : Int), ((k : Nat) : Int) + 1⟩, t)
theorem filterMap_pre {α β : Type} (f : α → Option β) {l m : List α} (h : ∀ x ∈ m, f x = none) : (l ++ m).filterMap f = l.filterMap f := by
  rw [List.filterMap_append]
  have : m.filterMap f = [] := List.filterMap_eq_nil_iff.2 h
  rw [this, List.append_nil]
theorem getM_top {m : RowsM} {r k : Nat} (h : (topM m r).toNat ≤ k) : getM m ⟨(r : Int), (k : Int) + 1⟩ = none := by
  unfold getM
  split
  · rename_i hg
    unfold goodI at hg
    rw [decide_eq_true_iff] at hg
    simp only at hg
    unfold topM at h
    rw [if_pos ⟨by omega, hg.2.1⟩] at h
    simp only
    rw [List.getElem?_eq_none (by omega)]
    rfl
  · rfl
theorem ents_C {m : RowsM} (hm : RowsOk m) : ents m = entsC (getM m) := by
  have hr : ∀ r : Nat, entR m r (topM m r).toNat = (List.range 64).filterMap fun k => (getM m ⟨((r : Nat) : Int), ((k : Nat) : Int) + 1⟩).map fun t => (⟨((r : Nat) : Int), ((k : Nat) : Int) + 1⟩, t) := fun r => by
    have ht := hm.top (r : Int)
    obtain ⟨d, hd⟩ := Nat.exists_eq_add_of_le (show (topM m r).toNat ≤ 64 by omega)
    rw [hd, List.range_add, filterMap_pre]
    · rfl
    · intro x hx
      obtain ⟨j, _, rfl⟩ := List.mem_map.1 hx
      rw [getM_top (by omega)]; rfl
  have hto : ∀ n, entsTo m n = (List.range n).flatMap fun r => (List.range 64).filterMap fun k => (getM m ⟨((r : Nat) : Int), ((k : Nat) : Int) + 1⟩).map fun t => (⟨((r : Nat) : Int), ((k : Nat) : Int) + 1⟩, t) := fun n => by
    induction n with
    | zero => rfl
    | succ n ih => rw [entsTo, ih, hr, show List.range (n + 1) = List.range n ++ [n] from List.range_succ, List.flatMap_append]; simp
  exact hto 7
/-- Entries, as they are told. -/
def shown (L : List Ent) : List (Item × Array Value) := L.map fun e => (e.1, NV e.2)
theorem shown_C (g : Item → Option Inst) : shown (entsC g) = (List.range 7).flatMap fun r => (List.range 64).filterMap fun k => ((g ⟨((r : Nat) : Int), ((k : Nat) : Int) + 1⟩).map NV).map fun t => (⟨((r : Nat) : Int), ((k : Nat) : Int) + 1⟩, t) := by
  unfold shown entsC
  rw [List.map_flatMap]
  congr 1
  funext r
  rw [List.map_filterMap]
  congr 1
  funext k
  cases g ⟨((r : Nat) : Int), ((k : Nat) : Int) + 1⟩ <;> rfl
theorem RowsEq.shown {a b : RowsM} (h : RowsEq a b) (ha : RowsOk a) (hb : RowsOk b) : shown (ents a) = shown (ents b) := by
  rw [ents_C ha, ents_C hb, shown_C, shown_C]
  congr 1
  funext r
  congr 1
  funext k
  rw [h.2]
theorem ents_has {m : RowsM} (hm : RowsOk m) {x : Item} {t : Inst} (h : getM m x = some t) : (x, t) ∈ ents m := by
  rw [ents_C hm]
  have hg := getM_good h
  unfold goodI at hg
  rw [decide_eq_true_iff] at hg
  have hn := hm.n
  unfold entsC
  rw [List.mem_flatMap]
  refine ⟨x.rep.toNat, by rw [List.mem_range]; omega, ?_⟩
  rw [List.mem_filterMap]
  refine ⟨x.num.toNat - 1, by rw [List.mem_range]; omega, ?_⟩
  have e : (⟨((x.rep.toNat : Nat) : Int), ((x.num.toNat - 1 : Nat) : Int) + 1⟩ : Item) = x := by
    obtain ⟨a, b⟩ := x
    simp only at hg ⊢
    congr 1 <;> omega
  rw [e, h]; rfl
theorem fold_same {m : RowsM} : ∀ (L : List Ent) (m0 : RowsM), m0.n = m.n → (∀ e ∈ L, getM m e.1 = some e.2) → ∀ x, ((∃ e ∈ L, e.1 = x) → getM (foldM m0 L) x = getM m x) ∧ ((¬ ∃ e ∈ L, e.1 = x) → getM (foldM m0 L) x = getM m0 x)
  | [], m0, _, _, x => ⟨fun ⟨_, h, _⟩ => by simp at h, fun _ => rfl⟩
  | e :: t, m0, hn, hL, x => by
    have he := hL e (by simp)
    have hg : goodI e.1 m0.n = true := hn ▸ getM_good he
    have ih := fold_same t (setM m0 e.1 e.2) (by rw [setM_n]; exact hn) (fun y hy => hL y (by simp [hy])) x
    show (_ → getM (foldM (setM m0 e.1 e.2) t) x = _) ∧ (_ → getM (foldM (setM m0 e.1 e.2) t) x = _)
    by_cases h1 : ∃ y ∈ t, y.1 = x
    · refine ⟨fun _ => ih.1 h1, fun h2 => ?_⟩
      obtain ⟨y, hy, hx⟩ := h1
      exact absurd ⟨y, by simp [hy], hx⟩ h2
    · rw [ih.2 h1]
      by_cases h2 : e.1 = x
      · subst h2
        rw [getM_set_same _ hg]
        exact ⟨fun _ => he.symm, fun h => absurd ⟨e, by simp, rfl⟩ h⟩
      · rw [getM_set_other _ hg h2]
        refine ⟨fun ⟨y, hy, hx⟩ => ?_, fun _ => rfl⟩
        rcases List.mem_cons.1 hy with rfl | hy
        · exact absurd hx h2
        · exact absurd ⟨y, hy, hx⟩ h1
/-- Written anew: the records of all that is known. -/
theorem fold_ents {m : RowsM} (hm : RowsOk m) : RowsEq (foldE m.n (ents m)) m := by
  refine ⟨foldE_n _ _, fun x => ?_⟩
  have h := fold_same (m := m) (ents m) ⟨m.n, fun _ => []⟩ rfl (fun e he => ents_mem he) x
  by_cases hx : ∃ e ∈ ents m, e.1 = x
  · unfold foldE; rw [h.1 hx]
  · unfold foldE
    rw [h.2 hx, getM_new]
    cases hg : getM m x with
    | none => rfl
    | some t => exact absurd ⟨(x, t), ents_has hm hg, rfl⟩ hx
/-! a ledger: its plate's records, and its rows -/
structure LedI (n : Int) (D : List UInt8) (safe : Nat) (m : RowsM) (r1 r2 : List Ent) : Prop where
  n7 : 0 ≤ n ∧ n ≤ 7
  mn : m.n = n
  ok : RowsOk m
  good : RowsGood m
  recs : GoodE n (r1 ++ r2)
  data : D = recsOf (r1 ++ r2)
  at' : safe = (recsOf r1).length
  len : D.length ≤ 65536
  same : RowsEq m (foldE n (r1 ++ r2))
theorem LedI.new {n : Int} (h : 0 ≤ n ∧ n ≤ 7) : LedI n [] 0 ⟨n, fun _ => []⟩ [] [] :=
  ⟨h, rfl, RowsOk.new h, RowsGood.new n, fun _ h => by simp at h, rfl, rfl, by simp, RowsEq.refl _⟩
theorem GoodE.app {n : Int} {a b : List Ent} (ha : GoodE n a) (hb : GoodE n b) : GoodE n (a ++ b) := fun e he => by
  rcases List.mem_append.1 he with h | h
  · exact ha e h
  · exact hb e h
theorem LedI.goodEnts {n : Int} {D : List UInt8} {safe : Nat} {m : RowsM} {r1 r2 : List Ent} (h : LedI n D safe m r1 r2) : GoodE n (ents m) := fun e he => by
  have h1 := ents_mem he
  rw [← h.mn]
  exact ⟨getM_good h1, h.good _ _ h1⟩
theorem LedI.sync {n : Int} {D : List UInt8} {safe : Nat} {m : RowsM} {r1 r2 : List Ent} (h : LedI n D safe m r1 r2) : LedI n D D.length m (r1 ++ r2) [] :=
  ⟨h.n7, h.mn, h.ok, h.good, by rw [List.append_nil]; exact h.recs, by rw [List.append_nil]; exact h.data, by rw [h.data], h.len, by rw [List.append_nil]; exact h.same⟩
theorem LedI.tidy {n : Int} {D : List UInt8} {safe : Nat} {m : RowsM} {r1 r2 : List Ent} (h : LedI n D safe m r1 r2) (k : Nat) :
    (tightP D safe m k = (D, safe, 0)) ∨ (LedI n (tightP D safe m k).1 (tightP D safe m k).2.1 m (ents m) [] ∧ (tightP D safe m k).2.2 = 0) ∨ (tightP D safe m k = (D, safe, 6)) := by
  unfold tightP
  split
  · unfold tidyP
    split
    · right; left
      refine ⟨⟨h.n7, h.mn, h.ok, h.good, by rw [List.append_nil]; exact h.goodEnts, by rw [List.append_nil], rfl, by assumption, ?_⟩, rfl⟩
      rw [List.append_nil]
      have := fold_ents h.ok
      rw [h.mn] at this
      exact this.symm
    · exact .inr (.inr rfl)
  · exact .inl rfl
/-- What is behind an Add: refused, or full, or added. -/
theorem LedI.add {n : Int} {D : List UInt8} {safe : Nat} {m : RowsM} {r1 r2 : List Ent} (h : LedI n D safe m r1 r2) (x : Item) (i : Inst) :
    ((addM D safe m x i).2.2.2 ≠ 0 ∧ (addM D safe m x i).2.2.1 = m ∧ (LedI n (addM D safe m x i).1 (addM D safe m x i).2.1 m r1 r2 ∨ LedI n (addM D safe m x i).1 (addM D safe m x i).2.1 m (ents m) [])) ∨
    ((addM D safe m x i).2.2.2 = 0 ∧ (addM D safe m x i).2.2.1 = setM m x i ∧ (LedI n (addM D safe m x i).1 (addM D safe m x i).2.1 (setM m x i) r1 (r2 ++ [(x, i)]) ∨ LedI n (addM D safe m x i).1 (addM D safe m x i).2.1 (setM m x i) (ents m) [(x, i)])) := by
  have step : ∀ {D' : List UInt8} {safe' : Nat} {a b : List Ent}, LedI n D' safe' m a b → goodI x m.n = true → goodN i m.n = true → D'.length + (recOf (x, i)).length ≤ 65536 → LedI n (D' ++ recOf (x, i)) safe' (setM m x i) a (b ++ [(x, i)]) := fun {D' safe' a b} h hx hi hl => by
    refine ⟨h.n7, by rw [setM_n]; exact h.mn, h.ok.set x i, h.good.set hx hi, ?_, ?_, h.at', by rw [List.length_append]; exact hl, ?_⟩
    · rw [← List.append_assoc]
      exact h.recs.app fun e he => by simp at he; subst he; rw [← h.mn]; exact ⟨hx, hi⟩
    · rw [← List.append_assoc, recsOf_app, ← h.data]; simp [recsOf]
    · rw [← List.append_assoc, foldE_snoc]; exact h.same.set x rfl
  by_cases hg : goodI x m.n = true ∧ goodN i m.n = true
  · have e : addM D safe m x i = if (tightP D safe m (recOf (x, i)).length).2.2 = 0 then
          if (tightP D safe m (recOf (x, i)).length).1.length + (recOf (x, i)).length ≤ 65536 then ((tightP D safe m (recOf (x, i)).length).1 ++ recOf (x, i), (tightP D safe m (recOf (x, i)).length).2.1, setM m x i, 0)
          else ((tightP D safe m (recOf (x, i)).length).1, (tightP D safe m (recOf (x, i)).length).2.1, m, 6)
        else ((tightP D safe m (recOf (x, i)).length).1, (tightP D safe m (recOf (x, i)).length).2.1, m, (tightP D safe m (recOf (x, i)).length).2.2) := by unfold addM; rw [if_pos hg]
    rw [e]
    rcases h.tidy (recOf (x, i)).length with ht | ⟨hI, ht⟩ | ht
    · rw [ht, if_pos rfl]
      split
      · exact .inr ⟨rfl, rfl, .inl (step h hg.1 hg.2 (by assumption))⟩
      · exact .inl ⟨by simp, rfl, .inl h⟩
    · rw [if_pos ht]
      split
      · exact .inr ⟨rfl, rfl, .inr (step hI hg.1 hg.2 (by assumption))⟩
      · exact .inl ⟨by simp, rfl, .inr hI⟩
    · rw [ht, if_neg (by simp)]
      exact .inl ⟨by simp, rfl, .inl h⟩
  · have e : addM D safe m x i = (D, safe, m, 1) := by unfold addM; rw [if_neg hg]
    rw [e]
    exact .inl ⟨by simp, rfl, .inl h⟩
/-- Whatever the plate holds, what is opened goes with it. -/
theorem mK_ok {n : Int} (h : 0 ≤ n ∧ n ≤ 7) : ∀ (ts : List (Nat × List UInt8)), ts.all (fun t => okT n t.2) = true → ∀ m : RowsM, m.n = n → RowsOk m → RowsGood m → RowsOk (ts.foldl (fun m t => setM m (readS ⟨t.2, false⟩).1 (readS ⟨t.2, false⟩).2.1) m) ∧ RowsGood (ts.foldl (fun m t => setM m (readS ⟨t.2, false⟩).1 (readS ⟨t.2, false⟩).2.1) m)
  | [], _, m, _, h1, h2 => ⟨h1, h2⟩
  | t :: ts, hok, m, hn, h1, h2 => by
    simp at hok
    have ho := hok.1
    unfold okT at ho
    simp only [Bool.and_eq_true] at ho
    refine mK_ok h ts (by simpa using hok.2) _ (by rw [setM_n]; exact hn) (h1.set _ _) (h2.set (by rw [hn]; exact ho.1.2) (by rw [hn]; exact ho.2))
theorem takeWhile_good {α : Type} (p : α → Bool) : ∀ l : List α, (l.takeWhile p).all p = true
  | [] => rfl
  | a :: t => by
    rw [List.takeWhile_cons]
    split
    · rename_i h
      rw [List.all_cons, h, takeWhile_good p t]; rfl
    · rfl
theorem goT_all (n : Int) (D : List UInt8) : (goT n D).all (fun t => okT n t.2) = true := by
  unfold goT
  exact takeWhile_good _ _
theorem mK_rows {n : Int} (h : 0 ≤ n ∧ n ≤ 7) (D : List UInt8) : RowsOk (mK n (goT n D)) ∧ RowsGood (mK n (goT n D)) := mK_ok h _ (goT_all n D) _ rfl (RowsOk.new h) (RowsGood.new n)
noncomputable def openD (n : Int) (D : List UInt8) : List UInt8 := if eK (goT n D) < D.length then D.take (eK (goT n D)) else D
noncomputable def openF (n : Int) (D : List UInt8) (safe : Nat) : Nat := if eK (goT n D) < D.length then eK (goT n D) else safe
/-- Behind a loss of power: what is opened is some of what was added, in order. -/
theorem LedI.lose {n : Int} {D : List UInt8} {safe : Nat} {m : RowsM} {r1 r2 : List Ent} (h : LedI n D safe m r1 r2) (keep : Int) (s : UInt8) :
    ∃ j, j ≤ r2.length ∧ LedI n (openD n (lost D safe keep s)) (openF n (lost D safe keep s) (lost D safe keep s).length) (mK n (goT n (lost D safe keep s))) (r1 ++ r2.take j) [] := by
  have hsl : safe ≤ D.length := by rw [h.at', h.data, recsOf_app, List.length_append]; omega
  have h1 : D.take safe = recsOf r1 := by rw [h.data, h.at', recsOf_app, List.take_left]
  have h2 : D.drop safe = recsOf r2 := by rw [h.data, h.at', recsOf_app, List.drop_left]
  have hk := kept_le D.length safe keep hsl
  have hkl : keptN D.length safe keep ≤ (recsOf r2).length := by rw [← h2, List.length_drop]; omega
  obtain ⟨j, r, hj, hs, hr⟩ := spoiled h.n7.2 s r2 (keptN D.length safe keep) (fun e he => h.recs e (List.mem_append_right _ he)) hkl
  have hl : lost D safe keep s = recsOf (r1 ++ r2.take j) ++ r := by rw [lost_eq hsl, h1, h2, hs, recsOf_app, List.append_assoc]
  have hge : GoodE n (r1 ++ r2.take j) := fun e he => by
    rcases List.mem_append.1 he with h' | h'
    · exact h.recs e (List.mem_append_left _ h')
    · exact h.recs e (List.mem_append_right _ (List.mem_of_mem_take h'))
  have hg := goT_recs h.n7.2 hge hr
  rw [← hl] at hg
  have hlen : (lost D safe keep s).length ≤ D.length := by
    rw [lost_eq hsl, List.length_append]
    have e1 : ∀ (l : List UInt8), (spoilL l s).length = l.length := fun l => by unfold spoilL; split <;> simp_all
    rw [e1, List.length_take, List.length_take, List.length_drop]
    omega
  have hrows := mK_rows h.n7 (lost D safe keep s)
  have hmk := mK_recT h.n7.2 hge
  refine ⟨j, hj, ⟨h.n7, mK_n _ _, hrows.1, hrows.2, by rw [List.append_nil]; exact hge, ?_, ?_, ?_, by rw [List.append_nil, hg]; exact hmk⟩⟩
  · rw [List.append_nil]
    unfold openD
    rw [hg, eK_recs, hl]
    split
    · rw [List.take_left]
    · rename_i hlt
      rw [List.length_append] at hlt
      have : r = [] := List.eq_nil_of_length_eq_zero (by omega)
      rw [this, List.append_nil]
  · unfold openF
    rw [hg, eK_recs, hl]
    split
    · rfl
    · rename_i hlt
      rw [List.length_append] at hlt ⊢
      omega
  · unfold openD
    have hl2 := h.len
    split
    · rw [List.length_take]; omega
    · omega
end Go.Proofs.Ytpganpiidgkofaa
/- Layer 9, plain: books of what a ledger knows. No walk stands here. -/
namespace Go.Proofs.Ytpganpiidgkofaa
open Go.RowKit
set_option linter.unusedVariables false
theorem IV_inj {x y : Item} (h : IV x = IV y) : x = y := by
  obtain ⟨a, b⟩ := x
  obtain ⟨c, d⟩ := y
  have h0 : (IV ⟨a, b⟩)[0]? = (IV ⟨c, d⟩)[0]? := by rw [h]
  have h1 : (IV ⟨a, b⟩)[1]? = (IV ⟨c, d⟩)[1]? := by rw [h]
  simp [IV] at h0 h1
  rw [h0, h1]
theorem ents_apart {m : RowsM} (hm : RowsOk m) : (ents m).Pairwise fun a b => a.1 ≠ b.1 := by
  rw [ents_C hm]
  unfold entsC
  rw [List.pairwise_flatMap]
  refine ⟨fun r _ => ?_, ?_⟩
  · rw [List.pairwise_filterMap]
    refine (List.pairwise_lt_range (n := 64)).imp fun {k j} hkj b hb b' hb' e => ?_
    cases h1 : getM m ⟨((r : Nat) : Int), ((k : Nat) : Int) + 1⟩ with
    | none => rw [h1] at hb; simp at hb
    | some t =>
      cases h2 : getM m ⟨((r : Nat) : Int), ((j : Nat) : Int) + 1⟩ with
      | none => rw [h2] at hb'; simp at hb'
      | some t' =>
        rw [h1] at hb; rw [h2] at hb'
        simp at hb hb'
        subst hb; subst hb'
        simp at e
        omega
  · refine (List.pairwise_lt_range (n := 7)).imp fun {r s} hrs x hx y hy e => ?_
    rw [List.mem_filterMap] at hx hy
    obtain ⟨k, _, hx⟩ := hx
    obtain ⟨j, _, hy⟩ := hy
    cases h1 : getM m ⟨((r : Nat) : Int), ((k : Nat) : Int) + 1⟩ with
    | none => rw [h1] at hx; simp at hx
    | some t =>
      cases h2 : getM m ⟨((s : Nat) : Int), ((j : Nat) : Int) + 1⟩ with
      | none => rw [h2] at hy; simp at hy
      | some t' =>
        rw [h1] at hx; rw [h2] at hy
        simp at hx hy
        subst hx; subst hy
        simp at e
        omega
theorem setB_ents {m : RowsM} (hm : RowsOk m) {k : Nat} {e : Ent} (h : (ents m)[k]? = some e) : setB ((ents m).take k) e.1 e.2 = (ents m).take (k + 1) := by
  obtain ⟨hk, he⟩ := List.getElem?_eq_some_iff.1 h
  rw [setB_new, List.take_add_one, h]
  · rfl
  · intro j hj
    have hjk : j < k := by rw [List.length_take] at hj; omega
    rw [eqA_no]
    intro e2
    have e3 := IV_inj e2
    rw [List.getElem_take] at e3
    have := List.pairwise_iff_getElem.1 (ents_apart hm) j k (by omega) hk hjk
    rw [he] at this
    exact this e3.symm
/-- Do two books know the same? -/
noncomputable def sameB (K L : List Ent) : Bool := decide (K.length = L.length) && K.all fun e => L.any fun f => eqA (IV e.1) (IV f.1) && eqA (NV e.2) (NV f.2)
theorem shown_len (L : List Ent) : (shown L).length = L.length := by unfold shown; rw [List.length_map]
theorem sameB_shown {K L : List Ent} (h : shown K = shown L) : sameB K L = true := by
  have hl : K.length = L.length := by rw [← shown_len K, ← shown_len L, h]
  unfold sameB
  rw [decide_eq_true hl, Bool.true_and, List.all_eq_true]
  intro e he
  have h1 : (e.1, NV e.2) ∈ shown K := List.mem_map.2 ⟨e, he, rfl⟩
  rw [h] at h1
  obtain ⟨f, hf, hef⟩ := List.mem_map.1 h1
  rw [List.any_eq_true]
  injection hef with h2 h3
  exact ⟨f, hf, by rw [h2, h3, eqA_refl, eqA_refl]; rfl⟩
end Go.Proofs.Ytpganpiidgkofaa
/- Layer 9: what a ledger knows, as a book. -/
namespace Go.Proofs.Ytpganpiidgkofaa
open Go.RowKit Go.Shelf
set_option linter.unusedVariables false
set_option maxRecDepth 20000
attribute [local go_sem] Oper.semAt_some
attribute [local go_sem] row_alloc row_drew row_drewN row_ext row_setCell row_setRow size_ext setRow_alloc setRow_drew loadOf storeOf piece_lit loadVal_at storeVal_at allOne_lit buildOf buildRes_some
attribute [local go_sem high] cell_alloc frozen_alloc setCell_alloc cell_ext frozen_ext cell_setRow frozen_setRow
attribute [local go_sem ↓] TDeed_ld0 TDeed_st0 TDeed_fd0 TDeed_bd0
attribute [local go_sem] TDeed_size TDeed_one TDeed_piece TDeed_c0 TDeed_c1 TDeed_c2 TDeed_c3 TDeed_c4 TDeed_c5 TDeed_set_kind TDeed_set_key TDeed_set_val TDeed_set_ver TDeed_set_ses TDeed_set_num TDeed_ld TDeed_st TDeed_f_kind TDeed_f_key TDeed_f_val TDeed_f_ver TDeed_f_ses TDeed_f_num TDeed_bd TDeed_fl TDeed_fl_kind TDeed_fl_key TDeed_fl_val TDeed_fl_ver TDeed_fl_ses TDeed_fl_num
attribute [local go_sem high] TDeed_eql TDeed_neq
attribute [local go_sem ↓] index_deps0 load_deps0 store_deps0
attribute [local go_sem] DV_piece DV_size DV_one index_deps load_deps store_deps
attribute [local go_sem high] TDeps_eql TDeps_neq
attribute [local go_sem ↓] TCall_ld0 TCall_st0 TCall_fd0 TCall_bd0
attribute [local go_sem] TCall_size TCall_one TCall_piece TCall_c0 TCall_c1 TCall_c2 TCall_c3 TCall_c4 TCall_c5 TCall_c6 TCall_c7 TCall_c8 TCall_c9 TCall_c10 TCall_c11 TCall_c12 TCall_c13 TCall_p_deed TCall_put_deed TCall_p_deps TCall_put_deps TCall_set_seq TCall_ld TCall_st TCall_f_deed TCall_f_deps TCall_f_seq TCall_bd TCall_fl TCall_fl_deed TCall_fl_deps TCall_fl_seq
attribute [local go_sem high] TCall_eql TCall_neq
attribute [local go_sem ↓] TItem_ld0 TItem_st0 TItem_fd0 TItem_bd0
attribute [local go_sem] TItem_size TItem_one TItem_piece TItem_c0 TItem_c1 TItem_set_rep TItem_set_num TItem_ld TItem_st TItem_f_rep TItem_f_num TItem_bd TItem_fl TItem_fl_rep TItem_fl_num
attribute [local go_sem high] TItem_eql TItem_neq
attribute [local go_sem ↓] TBallot_ld0 TBallot_st0 TBallot_fd0 TBallot_bd0
attribute [local go_sem] TBallot_size TBallot_one TBallot_piece TBallot_c0 TBallot_c1 TBallot_set_round TBallot_set_rep TBallot_ld TBallot_st TBallot_f_round TBallot_f_rep TBallot_bd TBallot_fl TBallot_fl_round TBallot_fl_rep
attribute [local go_sem high] TBallot_eql TBallot_neq
attribute [local go_sem ↓] TInst_ld0 TInst_st0 TInst_fd0 TInst_bd0
attribute [local go_sem] TInst_size TInst_one TInst_piece TInst_c0 TInst_c1 TInst_c2 TInst_c3 TInst_c4 TInst_c5 TInst_c6 TInst_c7 TInst_c8 TInst_c9 TInst_c10 TInst_c11 TInst_c12 TInst_c13 TInst_c14 TInst_c15 TInst_c16 TInst_c17 TInst_c18 TInst_c19 TInst_p_prom TInst_put_prom TInst_p_vote TInst_put_vote TInst_set_status TInst_p_call TInst_put_call TInst_set_same TInst_ld TInst_st TInst_f_prom TInst_f_vote TInst_f_status TInst_f_call TInst_f_same TInst_bd TInst_fl TInst_fl_prom TInst_fl_vote TInst_fl_status TInst_fl_call TInst_fl_same
attribute [local go_sem high] TInst_eql TInst_neq
theorem bookR_calm (B b : Nat) (L : List Ent) : (bookR b L).calm B := exR_calm fun q => packR_calm (calmL_cons (rowR_calm _ _ _) (calmL_cons (vecR_calm _ _ _ _ _ _) (calmL_cons (vecR_calm _ _ _ _ _ _) (calmL_nil _))))
section
variable {w W : World} {F : Nat → Prop} {R : List Res} {l p g : Nat} {D : List UInt8} {safe : Nat} {m : RowsM}
def BookPost (w : World) (F : Nat → Prop) (R : List Res) (l p g : Nat) (D : List UInt8) (safe : Nat) (m : RowsM) (e : Ending) (W' : World) : Prop := ∃ b, e = .returned (.pointer (some ⟨b, 0, none⟩)) ∧ Sts w F W' (bookR b (ents m) :: (ledL l p g D safe m ++ R))
set_option maxHeartbeats 4000000 in
theorem bookT (hm : RowsOk m) (T : Sts w F W (ledL l p g D safe m ++ R)) :
    Calls Try.prog 25 #[.pointer (some ⟨l, 0, none⟩)] W (BookPost w F R l p g D safe m) := by
  refine (callsIn_wide (n := 4)).1 ?_
  refine callsIn_of_wp_marks Try.func25 rfl trivial ?_ rfl
  simp only [Try.ntmps25, List.size_toArray, List.length_cons, List.length_nil, Nat.reduceAdd, Nat.reduceSub, Array.replicate_succ, Array.replicate_zero, List.push_toArray, List.append_toArray, List.nil_append, List.cons_append]
  refine wpIn_wide.2 ?_
  have T1 := T.bookNew.new #[.pointer (some ⟨W.heap.size, 0, none⟩)] 47
  rw [World.size_alloc] at T1
  have T1 : Sts w F _ (rowR (W.heap.size + 1) #[.pointer (some ⟨W.heap.size, 0, none⟩)] :: bookR W.heap.size [] :: rowR l (ledCells p g m.n) :: plR p D safe :: rowsIR g m :: R) := T1
  have T1 := T1.ord [2, 0, 1]
  have HT1 := Lib.hid T1
  clear T1 T
  go_wp2_with fail
  refine (ledAllT HT1.out).mono ?_
  clear HT1
  rintro e w1 ⟨rfl, T⟩
  have HT := Lib.hid T; clear T
  go_wp2_with fail
  have T := HT.out; clear HT
  simp only [World.size_alloc] at T ⊢
  generalize hc : W.heap.size + 1 + 1 = c at *
  generalize hb : W.heap.size + 1 = b at *
  generalize hb0 : W.heap.size = b0 at *
  clear hc hb hb0
  have T0 : Sts w F w1 ([bookR b0 ((ents m).take 0)] ++ (iterIR c g m ++ rowR b #[.pointer (some ⟨b0, 0, none⟩)] :: rowR l (ledCells p g m.n) :: plR p D safe :: R)) := by
    have := T.ord [3, 0, 5, 2, 1, 4]
    exact this
  clear T
  refine (wpIn_wide (n := 4)).1 ?_
  refine wp_rangeSts (gf := 116) (lb := #[.pointer (some ⟨c, 0, none⟩)]) (enc := fun x : Item × Inst => #[.agg (IV x.1), .agg (NV x.2)]) (xs := ents m)
    (fun k => [bookR b0 ((ents m).take k)]) (fun _ _ => [noR]) (iterIR c g m ++ rowR b #[.pointer (some ⟨b0, 0, none⟩)] :: rowR l (ledCells p g m.n) :: plR p D safe :: R)
    (fun k x a' own' => ∃ b1 b2, own' = [rowR b2 (NV x.2), rowR b1 (IV x.1), bookR b0 ((ents m).take k)] ∧ a' = { tmps := #[.pointer (some ⟨l, 0, none⟩), undef, .pointer none, .pointer (some ⟨b, 0, none⟩), .pointer (some ⟨b1, 0, none⟩), .pointer (some ⟨b2, 0, none⟩), .agg #[.slice none 0 0, .slice none 0 0], .pointer (some ⟨b0, 0, none⟩), .pointer (some ⟨l, 0, none⟩), .func (.func 116) #[] #[.pointer (some ⟨c, 0, none⟩)], .agg (IV x.1), .agg (NV x.2), undef, undef, undef, undef, undef], defers := [] })
    rfl (enters_of Try.func116 (by kernel_rfl) rfl) (fun _ => rfl) (Gives.part fun H hS => irAllG c g m hm _ H hS) T0 ?calm ?calmX ?assign ?body ?done ?stop
  case calm => exact fun k => calmL_cons (bookR_calm _ _ _) (calmL_nil _)
  case calmX => exact fun _ _ => calmL_cons (noR_calm _) (calmL_nil _)
  case assign =>
    intro lr k x W1 G1 K hx T1 hK
    have T2 := ((T1.new (IV x.1) 42).new (NV x.2) 39)
    rw [World.size_alloc] at T2
    have HT2 := Lib.hid T2
    clear T0 T1 T2
    gi_wp2
    exact hK _ _ _ ⟨_, _, rfl, rfl⟩ HT2.out
  case body =>
    rintro lr k x _ _ W1 G1 hx ⟨b1, b2, rfl, rfl⟩ T1 hread
    clear T0
    obtain ⟨F', w', TL⟩ := hread T1
    have TL : Sts w' F' W1 (rowR b2 (NV x.2) :: rowR b1 (IV x.1) :: bookR b0 ((ents m).take k) :: rowR c #[.pointer (some ⟨g, 0, none⟩)] :: rowsIR g m :: rowR b #[.pointer (some ⟨b0, 0, none⟩)] :: rowR l (ledCells p g m.n) :: plR p D safe :: R) := TL
    have rb := (TL.ord [5, 0, 1, 2, 3, 4]).row
    have lb := row_lt rb
    have cb : W1.cell? ⟨b, 0, none⟩ = some (.pointer (some ⟨b0, 0, none⟩)) := row_cell rb 0
    have r1 := T1.row; have r2 := T1.row1; have l1 := row_lt r1; have l2 := row_lt r2
    have hnx := setB_ents hm hx
    have hlen : ((ents m).take k).length ≤ 1000000 := by
      have h2 := ents_len hm
      have h3 : ((ents m).take k).length ≤ (ents m).length := List.length_take_le' _ _
      omega
    have hset := bookSetD b0 ((ents m).take k) hlen x.1 x.2
    rw [hnx] at hset
    have HSET := Lib.hid hset; have HT := Lib.hid T1
    clear hset hnx hlen TL hread T1 rb
    gi_wp2_with fail
    refine ⟨trivial, ?_⟩
    refine (CallsIn.inRound lr (callsIn_wide.2 (Does.at (R := [rowR b2 (NV x.2), rowR b1 (IV x.1)]) HSET.out (HT.out.ord [2, 0, 1])))).mono ?_
    rintro e w2 ⟨rfl, T⟩
    have T6 := (T.ord [1, 2, 0]).drop.drop
    have H6 := Lib.hid T6; clear T T6 HT HSET cb r1 r2
    gi_wp2
    exact H6.out
  case done =>
    intro D1 W1 T1
    clear T0
    rw [List.take_length] at T1
    have T1 : Sts w F W1 (objR D1 (.deferred (some [])) :: bookR b0 (ents m) :: rowR c #[.pointer (some ⟨g, 0, none⟩)] :: rowsIR g m :: rowR b #[.pointer (some ⟨b0, 0, none⟩)] :: rowR l (ledCells p g m.n) :: plR p D safe :: R) := T1
    have T2 := (T1.ord [2, 4, 0, 1, 5, 6, 3])
    have rb := T2.row1
    have lb := row_lt rb
    have cb : W1.cell? ⟨b, 0, none⟩ = some (.pointer (some ⟨b0, 0, none⟩)) := row_cell rb 0
    have T3 := (T2.drop.ord [1, 0])
    have hD := T3.obj
    have T6 : Sts w F (W1.putObj D1 (.deferred none)) (bookR b0 (ents m) :: (ledL l p g D safe m ++ R)) := (T3.putObj (.deferred none)).drop.drop
    have HT := Lib.hid T6; have HD := Lib.hid hD; clear T1 T2 T3 T6 hD
    go_wp2
    exact retM1 HD.out (results_tmp rfl _ _ _) ⟨b0, rfl, HT.out⟩ rfl
  case stop =>
    intro D1 c1 k W1 _ _ T1
    exact (Sts.no T1.drop).elim
end
end Go.Proofs.Ytpganpiidgkofaa
