/- Layer 24, the plain law: two committed calls of unlike items. -/
import Derived.Test.YtahajjfbkdocaaaAudN
namespace Go.Proofs.Ytahajjfbkdocaaa
set_option linter.unusedVariables false
/-- What is wrong, of such dumps. -/
noncomputable def lookE (n : Int) (ls : List (List Entry)) : List Finding := (lookM n (ls.map fun l => ⟨none, 0, l⟩)).list
theorem flatM_l (n : Int) : ∀ (ds : List Dump) (i : Nat), flatM n i ds = flatM n i (ds.map fun d => ⟨none, 0, d.l⟩)
  | [], _ => rfl
  | d :: ds, i => by
    show _ ++ flatM n (i + 1) ds = _ ++ flatM n (i + 1) (ds.map _)
    rw [flatM_l n ds (i + 1)]
theorem lookM_lookE (n : Int) (ds : List Dump) : (lookM n ds).list = lookE n (ds.map fun d => d.l) := by
  unfold lookE
  rw [lookM_told, lookM_told]
  unfold toldM
  rw [flatM_l, List.map_map]
  rfl
/-- A committed call. -/
def comE (x : Item) (c : Call) : Entry := ⟨x, { noInst with status := 3, call := c }⟩
theorem marks_one (n : Int) (e : Entry) : marks n (fun _ => none) [e] = [(goodI e.item n, e)] := by
  unfold marks
  cases goodI e.item n <;> rfl
theorem told_one (n : Int) (A : Option Addr) (k : Nat) (e : Entry) : toldM n [⟨A, k, [e]⟩] = mstep (rep0 n) (0, goodI e.item n, e) := by
  unfold toldM flatM
  dsimp only
  rw [marks_one]
  rfl
theorem told_two (n : Int) (A B : Option Addr) (k m : Nat) (a b : Entry) : toldM n [⟨A, k, [a]⟩, ⟨B, m, [b]⟩] = mstep (mstep (rep0 n) (0, goodI a.item n, a)) (1, goodI b.item n, b) := by
  unfold toldM flatM
  dsimp only
  rw [marks_one]
  unfold flatM
  dsimp only
  rw [marks_one]
  rfl
theorem com_sound (n : Int) (x : Item) (c : Call) (h : (lookE n [[comE x c]]).length = 0) : goodI x n = true ∧ goodN (comE x c).inst n = true := by
  have h1 : lookE n [[comE x c]] = [] := List.eq_nil_of_length_eq_zero h
  unfold lookE at h1
  rw [lookM_told, tiesM_list] at h1
  have h2 := (List.append_eq_nil_iff.1 h1).1
  rw [List.map_cons, List.map_nil, told_one] at h2
  have h3 : Cl n (mstep (rep0 n) (0, goodI x n, comE x c)) (goodI x n, comE x c) := clean_of n rfl h2
  exact ⟨h3.1, h3.2.1⟩
theorem com_add (n rep : Int) (s : Rep) (hs : s.n = n) (x : Item) (c : Call) (h1 : goodN (comE x c).inst n = true) (h2 : s.calls x = none) : mstep s (rep, true, comE x c) = addM s x c := by
  unfold mstep
  rw [if_pos rfl]
  unfold entryM
  dsimp only
  rw [hs, h1, if_neg (by simp)]
  have h3 : lessBal (comE x c).inst.prom (comE x c).inst.vote = false := (by decide : lessBal noBallot noBallot = false)
  rw [h3, if_neg (Bool.false_ne_true), if_pos (by rfl)]
  unfold markM
  rw [show (comE x c).item = x from rfl, h2]
  rfl
theorem com_two (n : Int) (x y : Item) (c d : Call) (hxy : eqA (IV x) (IV y) = false) (h : (lookE n [[comE x c]]).length = 0) (k : (lookE n [[comE y d]]).length = 0) :
    lookE n [[comE x c], [comE y d]] = if (clashB c.deed d.deed && !hasD c.deps y.rep y.num && !hasD d.deps x.rep x.num) = true then [⟨5, x.rep, x⟩] else [] := by
  obtain ⟨g1, g2⟩ := com_sound n x c h
  obtain ⟨k1, k2⟩ := com_sound n y d k
  have hne : y ≠ x := fun e => by subst e; rw [eqA_refl] at hxy; cases hxy
  unfold lookE
  rw [lookM_told, tiesM_list, List.map_cons, List.map_cons, List.map_nil, told_two, show (comE x c).item = x from rfl, show (comE y d).item = y from rfl, g1, k1, com_add n 0 (rep0 n) rfl x c g2 rfl]
  rw [com_add n 1 (addM (rep0 n) x c) rfl y d k2 (by show putF _ x c y = none; rw [putF_other _ _ hne]; rfl)]
  have e1 : (addM (addM (rep0 n) x c) y d).list = [] := rfl
  have e2 : (addM (addM (rep0 n) x c) y d).order = [x, y] := rfl
  have e3 : callOf (addM (addM (rep0 n) x c) y d).calls y = d := by
    have : (addM (addM (rep0 n) x c) y d).calls y = some d := putF_same ..
    unfold callOf; rw [this]
  have e4 : callOf (addM (addM (rep0 n) x c) y d).calls x = c := by
    have : (addM (addM (rep0 n) x c) y d).calls x = some c := by
      show putF (putF _ x c) y d x = some c
      rw [putF_other _ _ (fun e => hne e.symm), putF_same]
    unfold callOf; rw [this]
  rw [e1, e2]
  generalize (addM (addM (rep0 n) x c) y d).calls = f at *
  have e5 : tieB f y x = (clashB c.deed d.deed && !hasD c.deps y.rep y.num && !hasD d.deps x.rep x.num) := by
    unfold tieB
    rw [e3, e4, clashB_comm d.deed c.deed]
    cases clashB c.deed d.deed <;> cases hasD c.deps y.rep y.num <;> cases hasD d.deps x.rep x.num <;> rfl
  rw [← e5]
  show [] ++ (tieL f [x, y] 0 ++ (tieL f [x, y] 1 ++ [])) = _
  unfold tieL
  simp
/-- One entry alone has few wrongs. -/
theorem one_few (n : Int) (e : Entry) : (lookE n [[e]]).length ≤ 2 := by
  have h : lookE n [[e]] = (mstep (rep0 n) (0, goodI e.item n, e)).list ++ tiesL (mstep (rep0 n) (0, goodI e.item n, e)).calls (mstep (rep0 n) (0, goodI e.item n, e)).order := by
    unfold lookE
    rw [lookM_told, tiesM_list, List.map_cons, List.map_nil, told_one]
  have h1 : (mstep (rep0 n) (0, goodI e.item n, e)).list.length ≤ 2 ∧ (mstep (rep0 n) (0, goodI e.item n, e)).order.length ≤ 1 := by
    unfold mstep
    split
    · obtain ⟨a, b, -⟩ := entryM_len (rep0 n) 0 e
      exact ⟨a, b⟩
    · exact ⟨Nat.le_succ 1, Nat.zero_le 1⟩
  rw [h]
  generalize mstep (rep0 n) (0, goodI e.item n, e) = s at *
  obtain ⟨h1, h2⟩ := h1
  have h3 : tiesL s.calls s.order = [] := by
    unfold tiesL
    match hq : s.order.length, h2 with
    | 0, _ => rfl
    | 1, _ =>
      show tieL _ _ 0 ++ [] = []
      unfold tieL
      cases s.order[0]? <;> simp
  rw [h3, List.append_nil]
  exact h1
/-- In numbers. -/
theorem has_num (d : Nat → Int) (y : Item) (n : Int) (hn : n ≤ 7) (hy : goodI y n = true) : (!hasD d y.rep y.num) = decide (d y.rep.toNat < y.num) := by
  unfold goodI at hy
  rw [decide_eq_true_iff] at hy
  unfold hasD
  rw [← decide_not]
  congr 1
  rw [eq_iff_iff]
  constructor
  · intro h
    by_cases h1 : d y.rep.toNat < y.num
    · exact h1
    · exact absurd ⟨hy.1, by omega, hy.2.2.1, by omega⟩ h
  · rintro h ⟨_, _, _, h4⟩
    omega
end Go.Proofs.Ytahajjfbkdocaaa
