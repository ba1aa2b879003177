/- Several texts in one. -/
import Derived.Test.YtpganpiidgkofaaZ5
import Derived.Test.YtpganpiidgkofaaZ2
import Derived.ChangeKeysEq
/- A row of numbers as a value: equality, loads, stores, building. -/
namespace Go.Proofs.Ytpganpiidgkofaa
open Go.RowKit
set_option linter.unusedVariables false
set_option maxRecDepth 20000
theorem TDeps_ext (x y : Nat → Int) : DV x = DV y ↔ ∀ i, i < 7 → x i = y i := ⟨DV_inj, DV_congr⟩
theorem TDeps_eq (d : Nat) (a b : Nat → Int) (w : World) : (Op.equalIn (d + 2) 35 (.agg (DV a)) (.agg (DV b))).run Try.prog w = .ok (eqA (DV a) (DV b)) w := by
  obtain ⟨i, hi, hz⟩ : ∃ i, Try.prog.info? 3 = some i ∧ i.size = 1 := by
    have h : (Try.prog.info? 3).map (·.size) = some 1 := by kernel_rfl
    cases hq : Try.prog.info? 3 with
    | none => rw [hq] at h; cases h
    | some i => rw [hq] at h; exact ⟨i, rfl, by simpa using h⟩
  have hC : Try.prog.cellsOf 3 = 1 := by kernel_rfl
  rw [run_equalIn_array w (d + 1) (DV a) (DV b) Try.underlying35 hi, hC]
  have key : ∀ is : List Nat, (∀ i ∈ is, i < 7) → (Op.eqItems (d + 1) 3 1 (DV a) (DV b) is).run Try.prog w = .ok (is.all fun i => a i == b i) w := by
    intro is
    induction is with
    | nil => intro _; rfl
    | cons i is ih =>
      intro h
      have hi7 := h i (by simp)
      have ha : (isAgg 3).run Try.prog w = .ok false w := by
        unfold isAgg
        simp only [Sem.run_bind, run_underlying Try.underlying3, Result.andThen_ok]
        rfl
      have p1 : ∀ d : Nat → Int, (part 3 (DV d) (i * 1)).run Try.prog w = .ok (.int .i64 (d i)) w := fun d => by
        simp [part, ha, DV_get d i hi7]
      have e1 : (Op.equalIn (d + 1) 3 (.int .i64 (a i)) (.int .i64 (b i))).run Try.prog w = .ok (a i == b i) w := run_equalIn_int w d _ .i64 .i64 _ _ Try.underlying3
      simp only [Op.eqItems, Sem.run_bind, p1, e1, Result.andThen_ok, List.all_cons]
      cases hb : (a i == b i)
      · simp
      · simp only [Bool.not_true, Bool.false_eq_true, if_false, Bool.true_and]
        exact ih fun j hj => h j (by simp [hj])
  rw [key _ (fun i hi => by simpa using hi)]
  congr 1
  refine eqA_of ?_
  rw [TDeps_ext]
  simp [List.all_eq_true]
theorem TDeps_eql (x y : Nat → Int) (w : World) : (binOp .eql 35 (.agg (DV x)) (.agg (DV y))).run Try.prog w = .ok (.bool (eqA (DV x) (DV y))) w := eql_of (TDeps_eq 9998 x y) w
theorem TDeps_neq (x y : Nat → Int) (w : World) : (binOp .neq 35 (.agg (DV x)) (.agg (DV y))).run Try.prog w = .ok (.bool (!eqA (DV x) (DV y))) w := neq_of (TDeps_eq 9998 x y) w
end Go.Proofs.Ytpganpiidgkofaa
/- Layer 4: a deed as a value; its fields. -/
namespace Go.Proofs.Ytpganpiidgkofaa
open Go.RowKit
structure Deed where
  kind : Int
  key : ByteArray
  val : ByteArray
  ver : Int
  ses : Int
  num : Int
/-- a deed as a value -/
def EV (d : Deed) : Array Value := #[.int .i64 d.kind, .string d.key, .string d.val, .int .i64 d.ver, .int .i64 d.ses, .int .i64 d.num]
section
variable (d : Deed)
theorem EV_size : (EV d).size = 6 := rfl
theorem EV_piece : piece (EV d) 0 6 = EV d := piece_all _ _ rfl
theorem EV_one : allOne (EV d) = true := by simp [allOne, EV, Value.oneCell']
theorem EV_0 : (EV d)[0]? = some (.int .i64 d.kind) := rfl
theorem EV_1 : (EV d)[1]? = some (.string d.key) := rfl
theorem EV_2 : (EV d)[2]? = some (.string d.val) := rfl
theorem EV_3 : (EV d)[3]? = some (.int .i64 d.ver) := rfl
theorem EV_4 : (EV d)[4]? = some (.int .i64 d.ses) := rfl
theorem EV_5 : (EV d)[5]? = some (.int .i64 d.num) := rfl
theorem EV_set_ses (n : Int) : (EV d).setIfInBounds 4 (.int .i64 n) = EV { d with ses := n } := rfl
end
theorem load_deed0 (v : Value) : Instr.loadAt 33 v = loadSem 33 v := rfl
theorem store_deed0 (v u : Value) : Instr.storeAt 33 v u = storeSem 33 v u := rfl
theorem load_deed (w : World) (v : Value) : (loadSem 33 v).run Try.prog w = loadVal Try.prog 33 6 w v :=
  load_val Try.underlying33 rfl (by kernel_rfl) w v
theorem store_deed (w : World) (v u : Value) : (storeSem 33 v u).run Try.prog w = storeVal Try.prog 33 6 w v u :=
  store_val (by kernel_rfl) w v u
end Go.Proofs.Ytpganpiidgkofaa

namespace Go.Proofs.Ytpganpiidgkofaa
open Go.RowKit
attribute [local go_sem] row_alloc row_drew row_drewN row_ext row_setCell row_setRow size_ext setRow_alloc setRow_drew loadOf storeOf piece_lit loadVal_at storeVal_at allOne_lit EV_size EV_one EV_piece EV_0 EV_1 EV_2 EV_3 EV_4 EV_5
attribute [local go_sem high] cell_alloc frozen_alloc setCell_alloc cell_ext frozen_ext
attribute [local go_sem ↓] load_deed0 store_deed0
attribute [local go_sem] load_deed store_deed
theorem tl_nil (s : ByteArray) : s.toList = [] ↔ s.size = 0 := by
  rw [ByteArray.toList_eq, ← List.length_eq_zero_iff, Array.length_toList]; exact Iff.rfl
theorem bbT (a b : Int) : ((!(a == 0) == (b == 0)) = true) ↔ (a = 0 ↔ ¬ b = 0) := by
  by_cases h1 : a = 0
  · by_cases h2 : b = 0
    · simp [h1, h2]
    · have e2 : (b == 0) = false := by simpa using h2
      simp [h1, e2, h2]
  · have e1 : (a == 0) = false := by simpa using h1
    by_cases h2 : b = 0
    · simp [e1, h1, h2]
    · have e2 : (b == 0) = false := by simpa using h2
      simp [e1, e2, h1, h2]
theorem bbF (a b : Int) : ((!(a == 0) == (b == 0)) = false) ↔ (a = 0 ↔ b = 0) := by
  rw [← Bool.not_eq_true, bbT]
  constructor <;> intro h <;> omega
def Kinds (d : Deed) : Prop := (d.kind = 0 ∧ d.val.size = 0 ∧ d.ver = 0 ∧ d.key.size = 0 ∧ d.ses = 0) ∨ ((d.kind = 1 ∨ d.kind = 4) ∧ d.val.size = 0 ∧ d.ver = 0 ∧ ¬ d.key.size = 0) ∨
  (d.kind = 2 ∧ ¬ d.key.size = 0 ∧ d.ver = 0) ∨ (d.kind = 3 ∧ ¬ d.key.size = 0) ∨ (d.kind = 5 ∧ d.val.size = 0 ∧ d.ver = 0)
instance (d : Deed) : Decidable (Kinds d) := by unfold Kinds; exact inferInstance
def goodB (d : Deed) : Bool := decide (0 ≤ d.ses ∧ d.ses ≤ 1099511627776 ∧ 0 ≤ d.num ∧ d.num ≤ 1099511627776 ∧ (d.ses = 0 ↔ d.num = 0) ∧ d.key.size ≤ 16 ∧ d.val.size ≤ 32 ∧ 0 ≤ d.ver ∧ d.ver ≤ 1099511627776 ∧ Kinds d)
set_option maxHeartbeats 2000000 in
theorem good4_any (d : Deed) : Ans Try.prog 112 #[.agg (EV d)] (.bool (goodB d)) := by
  intro w
  go_enter Try.func112, Try.ntmps112
  go_wp2
  all_goals go_ret
  all_goals refine ⟨congrArg (fun b => Ending.returned (.bool b)) ?_, (Below.refl _ _).alloc (Nat.le_refl _) _⟩
  all_goals unfold goodB Kinds
  all_goals (try simp only [tl_nil, bbT, bbF, beq_iff_eq, beq_eq_false_iff_ne, ne_eq] at *)
  all_goals first
    | exact (decide_eq_false (by omega)).symm
    | exact (decide_eq_true (by omega)).symm
    | (rw [Bool.eq_iff_iff, decide_eq_true_eq]; simp only [Bool.and_eq_true, Bool.not_eq_true', List.isEmpty_eq_false_iff, ne_eq, tl_nil, beq_iff_eq]; constructor <;> intro h <;> omega)
end Go.Proofs.Ytpganpiidgkofaa

namespace Go.Proofs.Ytpganpiidgkofaa
open Go.RowKit
attribute [local go_sem] row_alloc row_drew row_drewN row_ext row_setCell row_setRow size_ext setRow_alloc setRow_drew loadOf storeOf piece_lit loadVal_at storeVal_at allOne_lit EV_size EV_one EV_piece EV_0 EV_1 EV_2 EV_3 EV_4 EV_5
attribute [local go_sem high] cell_alloc frozen_alloc setCell_alloc cell_ext frozen_ext
attribute [local go_sem ↓] load_deed0 store_deed0
attribute [local go_sem] load_deed store_deed

def noDeed : Deed := ⟨0, ByteArray.empty, ByteArray.empty, 0, 0, 0⟩
def eqE (a b : Deed) : Bool := decide (a.kind = b.kind ∧ a.key.toList = b.key.toList ∧ a.val.toList = b.val.toList ∧ a.ver = b.ver ∧ a.ses = b.ses ∧ a.num = b.num)
theorem toList_inj {a b : ByteArray} (h : a.toList = b.toList) : a = b := by
  rw [ByteArray.toList_eq, ByteArray.toList_eq] at h
  obtain ⟨⟨x⟩⟩ := a
  obtain ⟨⟨y⟩⟩ := b
  simp at h
  rw [h]
theorem eqE_iff (a b : Deed) : eqE a b = true ↔ a = b := by
  unfold eqE
  rw [decide_eq_true_eq]
  constructor
  · rintro ⟨h1, h2, h3, h4, h5, h6⟩
    obtain ⟨a1, a2, a3, a4, a5, a6⟩ := a
    obtain ⟨b1, b2, b3, b4, b5, b6⟩ := b
    simp only at h1 h2 h3 h4 h5 h6
    have := toList_inj h2
    have := toList_inj h3
    subst_vars
    rfl
  · rintro rfl; exact ⟨rfl, rfl, rfl, rfl, rfl, rfl⟩
theorem eqE_no (d : Deed) : eqE d noDeed = true ↔ d.kind = 0 ∧ d.key.size = 0 ∧ d.val.size = 0 ∧ d.ver = 0 ∧ d.ses = 0 ∧ d.num = 0 := by
  have e : ∀ s : ByteArray, s.toList = ByteArray.empty.toList ↔ s.size = 0 := fun s => by rw [← tl_nil]; simp [ByteArray.toList_eq]
  unfold eqE noDeed
  rw [decide_eq_true_eq, e, e]
theorem eqE_self (a : Deed) : eqE a a = true := (eqE_iff a a).2 rfl
theorem run_eql_deed (w : World) (a b : Deed) : (binOp .eql 33 (.agg (EV a)) (.agg (EV b))).run Try.prog w = .ok (.bool (eqE a b)) w := by
  rw [run_eql_struct]
  unfold EV eqE
  simp [go_sem]
  repeat' split
  all_goals simp_all
theorem zero_deed : #[Value.int .i64 0, Value.string ⟨#[]⟩, Value.string ⟨#[]⟩, Value.int .i64 0, Value.int .i64 0, Value.int .i64 0] = EV noDeed := rfl
attribute [local go_sem high] run_eql_deed
attribute [local go_sem] zero_deed
theorem ie_true (s : ByteArray) : s.toList.isEmpty = true ↔ s.size = 0 := by rw [List.isEmpty_iff, tl_nil]
theorem ie_false (s : ByteArray) : s.toList.isEmpty = false ↔ ¬ s.size = 0 := by rw [← ie_true, Bool.not_eq_true]
def ref3 (d : Deed) (k : Nat) : Int := if k = 0 then d.ver else if k = 1 then d.ses else d.num
set_option maxHeartbeats 4000000 in
theorem rgood4_any (d : Deed) : Ans Try.prog 96 #[.agg (EV d)] (.bool (goodB d)) := by
  intro w
  go_enter Try.func96, Try.ntmps96
  go_wp2
  go_loop [14] (fun i => ∃ k : Nat, k ≤ 3 ∧ i = .int .i64 k ∧ Hid (∀ j, j < k → 0 ≤ ref3 d j ∧ ref3 d j ≤ 1099511627776)) (fun i => 3 - (intOf i).toNat)
  case atStart => exact ⟨0, by omega, rfl, fun j hj => by omega⟩
  case round =>
    obtain ⟨k, hk, rfl, hG⟩ := hrel
    by_cases hlt : k < 3
    · have hno : ¬ (0 ≤ ref3 d k ∧ ref3 d k ≤ 1099511627776) → goodB d = false := by
        intro h
        unfold goodB
        refine decide_eq_false (fun hg => h ?_)
        match k, hlt with
        | 0, _ => exact ⟨hg.2.2.2.2.2.2.2.1, hg.2.2.2.2.2.2.2.2.1⟩
        | 1, _ => exact ⟨hg.1, hg.2.1⟩
        | 2, _ => exact ⟨hg.2.2.1, hg.2.2.2.1⟩
      have hk3 : k = 0 ∨ k = 1 ∨ k = 2 := by omega
      rcases hk3 with rfl | rfl | rfl
      · have Hno : Hid (¬ (0 ≤ d.ver ∧ d.ver ≤ 1099511627776) → goodB d = false) := hno
        clear hno
        go_wp2
        all_goals first
          | (go_ret
             exact ⟨congrArg (fun b => Ending.returned (.bool b)) (Hno.out (by omega)).symm, ((Below.refl _ _).alloc (Nat.le_refl _) _).alloc (by simp) _⟩)
          | (refine ⟨⟨1, by omega, by go_num, fun j hj => ?_⟩, ?_⟩
             · have hj' := hG j
               by_cases e : j = 0
               · subst e; exact ⟨by simp [ref3]; omega, by simp [ref3]; omega⟩
               · exact hj' (by omega)
             · simp [intOf])
      · have Hno : Hid (¬ (0 ≤ d.ses ∧ d.ses ≤ 1099511627776) → goodB d = false) := hno
        clear hno
        go_wp2
        all_goals first
          | (go_ret
             exact ⟨congrArg (fun b => Ending.returned (.bool b)) (Hno.out (by omega)).symm, ((Below.refl _ _).alloc (Nat.le_refl _) _).alloc (by simp) _⟩)
          | (refine ⟨⟨2, by omega, by go_num, fun j hj => ?_⟩, ?_⟩
             · have hj' := hG j
               by_cases e : j = 1
               · subst e; exact ⟨by simp [ref3]; omega, by simp [ref3]; omega⟩
               · exact hj' (by omega)
             · simp [intOf])
      · have Hno : Hid (¬ (0 ≤ d.num ∧ d.num ≤ 1099511627776) → goodB d = false) := hno
        clear hno
        go_wp2
        all_goals first
          | (go_ret
             exact ⟨congrArg (fun b => Ending.returned (.bool b)) (Hno.out (by omega)).symm, ((Below.refl _ _).alloc (Nat.le_refl _) _).alloc (by simp) _⟩)
          | (refine ⟨⟨3, by omega, by go_num, fun j hj => ?_⟩, ?_⟩
             · have hj' := hG j
               by_cases e : j = 2
               · subst e; exact ⟨by simp [ref3]; omega, by simp [ref3]; omega⟩
               · exact hj' (by omega)
             · simp [intOf])
    · obtain rfl : k = 3 := by omega
      obtain ⟨hv0, hv1⟩ := hG 0 (by omega)
      obtain ⟨hs0, hs1⟩ := hG 1 (by omega)
      obtain ⟨hn0, hn1⟩ := hG 2 (by omega)
      simp only [ref3, if_true, if_false, Nat.one_ne_zero, Nat.reduceEqDiff] at hv0 hv1 hs0 hs1 hn0 hn1
      clear hG
      go_wp2
      all_goals go_ret
      all_goals refine ⟨congrArg (fun b => Ending.returned (.bool b)) ?_, ((Below.refl _ _).alloc (Nat.le_refl _) _).alloc (by simp) _⟩
      all_goals unfold goodB Kinds
      all_goals (try simp only [beq_iff_eq, beq_eq_false_iff_ne, ne_eq] at *)
      all_goals (try simp only [tl_nil] at *)
      all_goals (try simp only [ie_true] at *)
      all_goals (try simp only [ie_false] at *)
      all_goals (try simp only [bne_eq_false_iff_eq] at *)
      all_goals (try simp only [bne_iff_ne, ne_eq] at *)
      all_goals first
        | exact (decide_eq_false (by omega)).symm
        | exact (decide_eq_true (by omega)).symm
        | (rw [Bool.eq_iff_iff, decide_eq_true_eq]; simp only [Bool.or_eq_true, List.isEmpty_iff, tl_nil, beq_iff_eq]; constructor <;> intro h <;> omega)
        | (rw [Bool.eq_iff_iff, decide_eq_true_eq, eqE_no]; constructor <;> intro h <;> omega)
end Go.Proofs.Ytpganpiidgkofaa
/- Deed as a value, as cells: its parts, equality, loads, stores, building. Printed by types.py. -/
namespace Go.Proofs.Ytpganpiidgkofaa
open Go.RowKit
set_option linter.unusedVariables false
section
variable (x y : Deed)
theorem TDeed_size : (EV x).size = 6 := rfl
theorem TDeed_one : allOne (EV x) = true := by simp [allOne, EV, Value.oneCell']
theorem TDeed_piece : piece (EV x) 0 6 = EV x := piece_all _ _ rfl
theorem TDeed_c0 : (EV x)[0]? = some (.int .i64 x.kind) := rfl
theorem TDeed_c1 : (EV x)[1]? = some (.string x.key) := rfl
theorem TDeed_c2 : (EV x)[2]? = some (.string x.val) := rfl
theorem TDeed_c3 : (EV x)[3]? = some (.int .i64 x.ver) := rfl
theorem TDeed_c4 : (EV x)[4]? = some (.int .i64 x.ses) := rfl
theorem TDeed_c5 : (EV x)[5]? = some (.int .i64 x.num) := rfl
theorem TDeed_set_kind (v : Int) : (EV x).setIfInBounds 0 (.int .i64 v) = EV { x with kind := v } := rfl
theorem TDeed_set_key (v : ByteArray) : (EV x).setIfInBounds 1 (.string v) = EV { x with key := v } := rfl
theorem TDeed_set_val (v : ByteArray) : (EV x).setIfInBounds 2 (.string v) = EV { x with val := v } := rfl
theorem TDeed_set_ver (v : Int) : (EV x).setIfInBounds 3 (.int .i64 v) = EV { x with ver := v } := rfl
theorem TDeed_set_ses (v : Int) : (EV x).setIfInBounds 4 (.int .i64 v) = EV { x with ses := v } := rfl
theorem TDeed_set_num (v : Int) : (EV x).setIfInBounds 5 (.int .i64 v) = EV { x with num := v } := rfl
theorem TDeed_cat : EV x = #[.int .i64 x.kind] ++ #[.string x.key] ++ #[.string x.val] ++ #[.int .i64 x.ver] ++ #[.int .i64 x.ses] ++ #[.int .i64 x.num] := by kernel_rfl
theorem TDeed_ext : EV x = EV y ↔ x.kind = y.kind ∧ x.key = y.key ∧ x.val = y.val ∧ x.ver = y.ver ∧ x.ses = y.ses ∧ x.num = y.num := by
  constructor
  · intro h
    refine ⟨?_, ?_, ?_, ?_, ?_, ?_⟩
    · have := congrArg (·[0]?) h; simpa [TDeed_c0, TDeed_size] using this
    · have := congrArg (·[1]?) h; simpa [TDeed_c1, TDeed_size] using this
    · have := congrArg (·[2]?) h; simpa [TDeed_c2, TDeed_size] using this
    · have := congrArg (·[3]?) h; simpa [TDeed_c3, TDeed_size] using this
    · have := congrArg (·[4]?) h; simpa [TDeed_c4, TDeed_size] using this
    · have := congrArg (·[5]?) h; simpa [TDeed_c5, TDeed_size] using this
  · rintro ⟨h0, h1, h2, h3, h4, h5⟩
    rw [TDeed_cat x, TDeed_cat y, h0, h1, h2, h3, h4, h5]
end
theorem TDeed_und : Try.prog.underlying 33 = some (.struct (Try.prog.fieldsOf 33)) := by kernel_rfl
theorem TDeed_eq (d : Nat) (x y : Deed) (w : World) : (Op.equalIn (d + 2) 33 (.agg (EV x)) (.agg (EV y))).run Try.prog w = .ok (eqA (EV x) (EV y)) w := by
  refine eq_struct (d := d + 1) (L := [(3, 0, x.kind == y.kind), (9, 1, x.key.toList == y.key.toList), (9, 2, x.val.toList == y.val.toList), (3, 3, x.ver == y.ver), (3, 4, x.ses == y.ses), (3, 5, x.num == y.num)]) TDeed_und (by kernel_rfl) (by kernel_rfl) ?_ ?_ w
  · simp only [List.forall_mem_cons]
    exact ⟨⟨_, _, part_cell Try.underlying3 rfl (by kernel_rfl) (TDeed_c0 x), part_cell Try.underlying3 rfl (by kernel_rfl) (TDeed_c0 y), fun w => run_equalIn_int w (d + 0) _ _ _ _ _ Try.underlying3⟩, ⟨_, _, part_cell Try.underlying9 rfl (by kernel_rfl) (TDeed_c1 x), part_cell Try.underlying9 rfl (by kernel_rfl) (TDeed_c1 y), fun w => run_equalIn_string w (d + 0) _ _ _ Try.underlying9⟩, ⟨_, _, part_cell Try.underlying9 rfl (by kernel_rfl) (TDeed_c2 x), part_cell Try.underlying9 rfl (by kernel_rfl) (TDeed_c2 y), fun w => run_equalIn_string w (d + 0) _ _ _ Try.underlying9⟩, ⟨_, _, part_cell Try.underlying3 rfl (by kernel_rfl) (TDeed_c3 x), part_cell Try.underlying3 rfl (by kernel_rfl) (TDeed_c3 y), fun w => run_equalIn_int w (d + 0) _ _ _ _ _ Try.underlying3⟩, ⟨_, _, part_cell Try.underlying3 rfl (by kernel_rfl) (TDeed_c4 x), part_cell Try.underlying3 rfl (by kernel_rfl) (TDeed_c4 y), fun w => run_equalIn_int w (d + 0) _ _ _ _ _ Try.underlying3⟩, ⟨_, _, part_cell Try.underlying3 rfl (by kernel_rfl) (TDeed_c5 x), part_cell Try.underlying3 rfl (by kernel_rfl) (TDeed_c5 y), fun w => run_equalIn_int w (d + 0) _ _ _ _ _ Try.underlying3⟩, by simp⟩
  · refine eqA_of ?_
    rw [TDeed_ext]
    simp [toList_inj_iff]
theorem TDeed_eql (x y : Deed) (w : World) : (binOp .eql 33 (.agg (EV x)) (.agg (EV y))).run Try.prog w = .ok (.bool (eqA (EV x) (EV y))) w := eql_of (TDeed_eq 9998 x y) w
theorem TDeed_neq (x y : Deed) (w : World) : (binOp .neq 33 (.agg (EV x)) (.agg (EV y))).run Try.prog w = .ok (.bool (!eqA (EV x) (EV y))) w := neq_of (TDeed_eq 9998 x y) w
theorem TDeed_ld0 (v : Value) : Instr.loadAt 33 v = loadSem 33 v := rfl
theorem TDeed_st0 (v u : Value) : Instr.storeAt 33 v u = storeSem 33 v u := rfl
theorem TDeed_fd0 (x : Value) (i : Nat) : Instr.field 33 x i = fieldSem 33 x i := rfl
theorem TDeed_bd0 (p : Array (Nat × Value)) : Instr.build 33 p = buildS 33 p := rfl
theorem TDeed_ld (w : World) (v : Value) : (loadSem 33 v).run Try.prog w = loadVal Try.prog 33 6 w v := load_val TDeed_und rfl (by kernel_rfl) w v
theorem TDeed_st (w : World) (v u : Value) : (storeSem 33 v u).run Try.prog w = storeVal Try.prog 33 6 w v u := store_val (by kernel_rfl) w v u
theorem TDeed_f_kind (x : Deed) (w : World) : (fieldSem 33 (.agg (EV x)) 0).run Try.prog w = .ok (.int .i64 x.kind) w := field_of TDeed_und (by kernel_rfl) (part_cell Try.underlying3 rfl (by kernel_rfl) (TDeed_c0 x)) w
theorem TDeed_f_key (x : Deed) (w : World) : (fieldSem 33 (.agg (EV x)) 1).run Try.prog w = .ok (.string x.key) w := field_of TDeed_und (by kernel_rfl) (part_cell Try.underlying9 rfl (by kernel_rfl) (TDeed_c1 x)) w
theorem TDeed_f_val (x : Deed) (w : World) : (fieldSem 33 (.agg (EV x)) 2).run Try.prog w = .ok (.string x.val) w := field_of TDeed_und (by kernel_rfl) (part_cell Try.underlying9 rfl (by kernel_rfl) (TDeed_c2 x)) w
theorem TDeed_f_ver (x : Deed) (w : World) : (fieldSem 33 (.agg (EV x)) 3).run Try.prog w = .ok (.int .i64 x.ver) w := field_of TDeed_und (by kernel_rfl) (part_cell Try.underlying3 rfl (by kernel_rfl) (TDeed_c3 x)) w
theorem TDeed_f_ses (x : Deed) (w : World) : (fieldSem 33 (.agg (EV x)) 4).run Try.prog w = .ok (.int .i64 x.ses) w := field_of TDeed_und (by kernel_rfl) (part_cell Try.underlying3 rfl (by kernel_rfl) (TDeed_c4 x)) w
theorem TDeed_f_num (x : Deed) (w : World) : (fieldSem 33 (.agg (EV x)) 5).run Try.prog w = .ok (.int .i64 x.num) w := field_of TDeed_und (by kernel_rfl) (part_cell Try.underlying3 rfl (by kernel_rfl) (TDeed_c5 x)) w
def TDeed_pl : Nat → Option (Nat × Nat) := fun i => (#[(0, 1), (1, 1), (2, 1), (3, 1), (4, 1), (5, 1)] : Array (Nat × Nat))[i]?
theorem TDeed_bd (w : World) (p : Array (Nat × Value)) : (buildS 33 p).run Try.prog w = buildOf Try.prog 33 TDeed_pl (EV noDeed) p w := build_struct TDeed_und (by kernel_rfl) (fun w => by kernel_rfl) w p
theorem TDeed_fl (X : Array Value) : fillS TDeed_pl X [] = some X := rfl
theorem TDeed_fl_kind (x : Deed) (v : Int) (r : List (Nat × Value)) : fillS TDeed_pl (EV x) ((0, .int .i64 v) :: r) = fillS TDeed_pl (EV { x with kind := v }) r := rfl
theorem TDeed_fl_key (x : Deed) (v : ByteArray) (r : List (Nat × Value)) : fillS TDeed_pl (EV x) ((1, .string v) :: r) = fillS TDeed_pl (EV { x with key := v }) r := rfl
theorem TDeed_fl_val (x : Deed) (v : ByteArray) (r : List (Nat × Value)) : fillS TDeed_pl (EV x) ((2, .string v) :: r) = fillS TDeed_pl (EV { x with val := v }) r := rfl
theorem TDeed_fl_ver (x : Deed) (v : Int) (r : List (Nat × Value)) : fillS TDeed_pl (EV x) ((3, .int .i64 v) :: r) = fillS TDeed_pl (EV { x with ver := v }) r := rfl
theorem TDeed_fl_ses (x : Deed) (v : Int) (r : List (Nat × Value)) : fillS TDeed_pl (EV x) ((4, .int .i64 v) :: r) = fillS TDeed_pl (EV { x with ses := v }) r := rfl
theorem TDeed_fl_num (x : Deed) (v : Int) (r : List (Nat × Value)) : fillS TDeed_pl (EV x) ((5, .int .i64 v) :: r) = fillS TDeed_pl (EV { x with num := v }) r := rfl
theorem TDeed_ret {fn : Func} {R : Ending → World → Prop} {a : Act} {w : World} {p : Tmp} (x : Deed) {g : Nat} (hr : fn.results = #[.cell p 33]) (hp : a.tmps.getD p undef = .pointer (some ⟨g, 0, none⟩)) (hdf : a.defers = []) (hrow : row? w g = some (EV x)) (hR : R (.returned (.agg (EV x))) w) : bodyPost Try.prog fn R .ret a w :=
  ret_row (EV x) TDeed_und rfl (by kernel_rfl) hr hp hdf (TDeed_size x) hrow hR
end Go.Proofs.Ytpganpiidgkofaa
