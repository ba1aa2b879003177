import Derived.Test.YtahajjfbkdocaaaDeedG
namespace Go.Proofs.Ytahajjfbkdocaaa
open Go.RowKit
attribute [local go_sem] row_alloc row_drew row_drewN row_ext row_setCell row_setRow size_ext setRow_alloc setRow_drew loadOf storeOf piece_lit loadVal_at storeVal_at allOne_lit EV_size EV_one EV_piece EV_0 EV_1 EV_2 EV_3 EV_4 EV_5
attribute [local go_sem high] cell_alloc frozen_alloc setCell_alloc cell_ext frozen_ext
attribute [local go_sem ↓] load_deed0 store_deed0
attribute [local go_sem] load_deed store_deed

def noDeed : Deed := ⟨0, ByteArray.empty, ByteArray.empty, 0, 0, 0⟩
def eqE (a b : Deed) : Bool := decide (a.kind = b.kind ∧ a.key.toList = b.key.toList ∧ a.val.toList = b.val.toList ∧ a.ver = b.ver ∧ a.ses = b.ses ∧ a.num = b.num)
theorem toList_inj {a b : ByteArray} (h : a.toList = b.toList) : a = b := by
  rw [ByteArray.toList_eq, ByteArray.toList_eq] at h
  obtain ⟨⟨x⟩⟩ := a
  obtain ⟨⟨y⟩⟩ := b
  simp at h
  rw [h]
theorem eqE_iff (a b : Deed) : eqE a b = true ↔ a = b := by
  unfold eqE
  rw [decide_eq_true_eq]
  constructor
  · rintro ⟨h1, h2, h3, h4, h5, h6⟩
    obtain ⟨a1, a2, a3, a4, a5, a6⟩ := a
    obtain ⟨b1, b2, b3, b4, b5, b6⟩ := b
    simp only at h1 h2 h3 h4 h5 h6
    have := toList_inj h2
    have := toList_inj h3
    subst_vars
    rfl
  · rintro rfl; exact ⟨rfl, rfl, rfl, rfl, rfl, rfl⟩
theorem eqE_no (d : Deed) : eqE d noDeed = true ↔ d.kind = 0 ∧ d.key.size = 0 ∧ d.val.size = 0 ∧ d.ver = 0 ∧ d.ses = 0 ∧ d.num = 0 := by
  have e : ∀ s : ByteArray, s.toList = ByteArray.empty.toList ↔ s.size = 0 := fun s => by rw [← tl_nil]; simp [ByteArray.toList_eq]
  unfold eqE noDeed
  rw [decide_eq_true_eq, e, e]
theorem eqE_self (a : Deed) : eqE a a = true := (eqE_iff a a).2 rfl
theorem run_eql_deed (w : World) (a b : Deed) : (binOp .eql 32 (.agg (EV a)) (.agg (EV b))).run Try.prog w = .ok (.bool (eqE a b)) w := by
  rw [run_eql_struct]
  unfold EV eqE
  simp [go_sem]
  repeat' split
  all_goals simp_all
theorem zero_deed : #[Value.int .i64 0, Value.string ⟨#[]⟩, Value.string ⟨#[]⟩, Value.int .i64 0, Value.int .i64 0, Value.int .i64 0] = EV noDeed := rfl
attribute [local go_sem high] run_eql_deed
attribute [local go_sem] zero_deed
theorem ie_true (s : ByteArray) : s.toList.isEmpty = true ↔ s.size = 0 := by rw [List.isEmpty_iff, tl_nil]
theorem ie_false (s : ByteArray) : s.toList.isEmpty = false ↔ ¬ s.size = 0 := by rw [← ie_true, Bool.not_eq_true]
def ref3 (d : Deed) (k : Nat) : Int := if k = 0 then d.ver else if k = 1 then d.ses else d.num
set_option maxHeartbeats 4000000 in
theorem rgood4_any (d : Deed) : Ans Try.prog 32 #[.agg (EV d)] (.bool (goodB d)) := by
  intro w
  go_enter Try.func32, Try.ntmps32
  go_wp2
  go_loop [14] (fun i => ∃ k : Nat, k ≤ 3 ∧ i = .int .i64 k ∧ Hid (∀ j, j < k → 0 ≤ ref3 d j ∧ ref3 d j ≤ 1099511627776)) (fun i => 3 - (intOf i).toNat)
  case atStart => exact ⟨0, by omega, rfl, fun j hj => by omega⟩
  case round =>
    obtain ⟨k, hk, rfl, hG⟩ := hrel
    by_cases hlt : k < 3
    · have hno : ¬ (0 ≤ ref3 d k ∧ ref3 d k ≤ 1099511627776) → goodB d = false := by
        intro h
        unfold goodB
        refine decide_eq_false (fun hg => h ?_)
        match k, hlt with
        | 0, _ => exact ⟨hg.2.2.2.2.2.2.2.1, hg.2.2.2.2.2.2.2.2.1⟩
        | 1, _ => exact ⟨hg.1, hg.2.1⟩
        | 2, _ => exact ⟨hg.2.2.1, hg.2.2.2.1⟩
      have hk3 : k = 0 ∨ k = 1 ∨ k = 2 := by omega
      rcases hk3 with rfl | rfl | rfl
      · have Hno : Hid (¬ (0 ≤ d.ver ∧ d.ver ≤ 1099511627776) → goodB d = false) := hno
        clear hno
        go_wp2
        all_goals first
          | (go_ret
             exact ⟨congrArg (fun b => Ending.returned (.bool b)) (Hno.out (by omega)).symm, ((Below.refl _ _).alloc (Nat.le_refl _) _).alloc (by simp) _⟩)
          | (refine ⟨⟨1, by omega, by go_num, fun j hj => ?_⟩, ?_⟩
             · have hj' := hG j
               by_cases e : j = 0
               · subst e; exact ⟨by simp [ref3]; omega, by simp [ref3]; omega⟩
               · exact hj' (by omega)
             · simp [intOf])
      · have Hno : Hid (¬ (0 ≤ d.ses ∧ d.ses ≤ 1099511627776) → goodB d = false) := hno
        clear hno
        go_wp2
        all_goals first
          | (go_ret
             exact ⟨congrArg (fun b => Ending.returned (.bool b)) (Hno.out (by omega)).symm, ((Below.refl _ _).alloc (Nat.le_refl _) _).alloc (by simp) _⟩)
          | (refine ⟨⟨2, by omega, by go_num, fun j hj => ?_⟩, ?_⟩
             · have hj' := hG j
               by_cases e : j = 1
               · subst e; exact ⟨by simp [ref3]; omega, by simp [ref3]; omega⟩
               · exact hj' (by omega)
             · simp [intOf])
      · have Hno : Hid (¬ (0 ≤ d.num ∧ d.num ≤ 1099511627776) → goodB d = false) := hno
        clear hno
        go_wp2
        all_goals first
          | (go_ret
             exact ⟨congrArg (fun b => Ending.returned (.bool b)) (Hno.out (by omega)).symm, ((Below.refl _ _).alloc (Nat.le_refl _) _).alloc (by simp) _⟩)
          | (refine ⟨⟨3, by omega, by go_num, fun j hj => ?_⟩, ?_⟩
             · have hj' := hG j
               by_cases e : j = 2
               · subst e; exact ⟨by simp [ref3]; omega, by simp [ref3]; omega⟩
               · exact hj' (by omega)
             · simp [intOf])
    · obtain rfl : k = 3 := by omega
      obtain ⟨hv0, hv1⟩ := hG 0 (by omega)
      obtain ⟨hs0, hs1⟩ := hG 1 (by omega)
      obtain ⟨hn0, hn1⟩ := hG 2 (by omega)
      simp only [ref3, if_true, if_false, Nat.one_ne_zero, Nat.reduceEqDiff] at hv0 hv1 hs0 hs1 hn0 hn1
      clear hG
      go_wp2
      all_goals go_ret
      all_goals refine ⟨congrArg (fun b => Ending.returned (.bool b)) ?_, ((Below.refl _ _).alloc (Nat.le_refl _) _).alloc (by simp) _⟩
      all_goals unfold goodB Kinds
      all_goals (try simp only [beq_iff_eq, beq_eq_false_iff_ne, ne_eq] at *)
      all_goals (try simp only [tl_nil] at *)
      all_goals (try simp only [ie_true] at *)
      all_goals (try simp only [ie_false] at *)
      all_goals (try simp only [bne_eq_false_iff_eq] at *)
      all_goals (try simp only [bne_iff_ne, ne_eq] at *)
      all_goals first
        | exact (decide_eq_false (by omega)).symm
        | exact (decide_eq_true (by omega)).symm
        | (rw [Bool.eq_iff_iff, decide_eq_true_eq]; simp only [Bool.or_eq_true, List.isEmpty_iff, tl_nil, beq_iff_eq]; constructor <;> intro h <;> omega)
        | (rw [Bool.eq_iff_iff, decide_eq_true_eq, eqE_no]; constructor <;> intro h <;> omega)
end Go.Proofs.Ytahajjfbkdocaaa
