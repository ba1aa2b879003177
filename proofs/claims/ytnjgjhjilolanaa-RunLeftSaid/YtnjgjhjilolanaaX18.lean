/- Several texts in one. -/
import Derived.Test.YtnjgjhjilolanaaX15
import Derived.Sort.AssemblyPlain
import Derived.Lib.BitFns
import Derived.Test.YtnjgjhjilolanaaX16
import Derived.Test.YtnjgjhjilolanaaX17
/- Items in a slice of the call's own, sorted in their place by a graph's order: the insertion sort. -/
namespace Go.Proofs.Ytnjgjhjilolanaa
open Go.RowKit Go.Shelf
open Go.Sort (swp insInner insOuter insertionSort)
set_option linter.unusedVariables false
set_option maxRecDepth 20000
attribute [local go_sem] row_alloc row_drew row_drewN row_ext row_setCell row_setRow size_ext setRow_alloc setRow_drew loadOf storeOf piece_lit loadVal_at storeVal_at allOne_lit buildOf buildRes_some
attribute [local go_sem high] cell_alloc frozen_alloc setCell_alloc cell_ext frozen_ext cell_setRow frozen_setRow
attribute [local go_sem ↓] TDeed_ld0 TDeed_st0 TDeed_fd0 TDeed_bd0
attribute [local go_sem] TDeed_size TDeed_one TDeed_piece TDeed_c0 TDeed_c1 TDeed_c2 TDeed_c3 TDeed_c4 TDeed_c5 TDeed_set_kind TDeed_set_key TDeed_set_val TDeed_set_ver TDeed_set_ses TDeed_set_num TDeed_ld TDeed_st TDeed_f_kind TDeed_f_key TDeed_f_val TDeed_f_ver TDeed_f_ses TDeed_f_num TDeed_bd TDeed_fl TDeed_fl_kind TDeed_fl_key TDeed_fl_val TDeed_fl_ver TDeed_fl_ses TDeed_fl_num
attribute [local go_sem high] TDeed_eql TDeed_neq
attribute [local go_sem ↓] index_deps0 load_deps0 store_deps0
attribute [local go_sem] DV_piece DV_size DV_one index_deps load_deps store_deps
attribute [local go_sem high] TDeps_eql TDeps_neq
attribute [local go_sem ↓] TCall_ld0 TCall_st0 TCall_fd0 TCall_bd0
attribute [local go_sem] TCall_size TCall_one TCall_piece TCall_c0 TCall_c1 TCall_c2 TCall_c3 TCall_c4 TCall_c5 TCall_c6 TCall_c7 TCall_c8 TCall_c9 TCall_c10 TCall_c11 TCall_c12 TCall_c13 TCall_p_deed TCall_put_deed TCall_p_deps TCall_put_deps TCall_set_seq TCall_ld TCall_st TCall_f_deed TCall_f_deps TCall_f_seq TCall_bd TCall_fl TCall_fl_deed TCall_fl_deps TCall_fl_seq
attribute [local go_sem high] TCall_eql TCall_neq
attribute [local go_sem ↓] TItem_ld0 TItem_st0 TItem_fd0 TItem_bd0
attribute [local go_sem] TItem_size TItem_one TItem_piece TItem_c0 TItem_c1 TItem_set_rep TItem_set_num TItem_ld TItem_st TItem_f_rep TItem_f_num TItem_bd TItem_fl TItem_fl_rep TItem_fl_num
attribute [local go_sem high] TItem_eql TItem_neq
instance : Inhabited Item := ⟨noItem⟩
/-- Items in a slice of the call's own. -/
abbrev itR (g c : Nat) (d : Array Item) : Res := vecR 35 2 (.slice (some ⟨g, 0, none⟩) d.size c) d.size (vl IV d.toList)
abbrev cvB (b : Nat) : Value := .func (.func 73) #[.pointer (some ⟨b, 0, none⟩)] #[]
/-- What stands ahead of what. -/
noncomputable def ltM (m : RowsMK) : Item → Item → Bool := fun x y => decide (befM m x y < 0)
section
variable {w W : World} {F : Nat → Prop} {R : List Res} {b gc gd g c : Nat} {m : RowsMK} {q : RowsML} {d : Array Item}
theorem get_list (d : Array Item) {i : Nat} (hi : i < d.size) : d.toList[i]'(by simpa using hi) = d[i]! := by
  rw [getElem!_pos d i hi]; rfl
theorem Sts.itLoad (T : Sts w F W (itR g c d :: R)) {i : Nat} (hi : i < d.size) : loadVal Try.prog 35 2 W (.pointer (some ⟨g, i * 2, none⟩)) = .ok (.agg (IV d[i]!)) W := by
  have T' : Sts w F W (vecR 35 2 (.slice (some ⟨g, 0, none⟩) d.toList.length c) d.toList.length (vl IV d.toList) :: R) := T
  have hlen : d.toList.length ≤ 9223372036854775807 := by
    rcases T'.vec.2 with ⟨h, _⟩ | ⟨g', cap, cur, hv, _, _, hn, hm, _⟩
    · cases h
    · unfold maxLen at hm; omega
  obtain ⟨A, c', hv, hA, -, -⟩ := vec_rows TItem_size T' (by omega) hlen
  injection hv with e1 e2 e3
  subst e1
  have hld := hA.load (P := Try.prog) (T := 35) TItem_size TItem_und rfl (by kernel_rfl) (Below.refl _ _) rfl (show i < d.toList.length by simpa using hi)
  rw [add_none, Nat.zero_add, get_list d hi] at hld
  exact hld
theorem Sts.itSet (T : Sts w F W (itR g c d :: R)) {i : Nat} (hi : i < d.size) (x : Item) : ∃ W1, storeVal Try.prog 35 2 W (.pointer (some ⟨g, i * 2, none⟩)) (.agg (IV x)) = .ok () W1 ∧ Sts w F W1 (itR g c (d.setIfInBounds i x) :: R) := by
  have T' : Sts w F W (vecR 35 2 (.slice (some ⟨g, 0, none⟩) d.toList.length c) d.toList.length (vl IV d.toList) :: R) := T
  obtain ⟨g', c', cur, hv, hr, hs, hx⟩ := vec_at TItem_size T' (by omega) (show i < d.toList.length by simpa using hi)
  injection hv with e1 e2 e3
  injection e1 with e1
  injection e1 with e1
  subst e1
  have T1 := hx x
  have hsz : (IV x).size = 2 := rfl
  have hone : allOne (IV x) = true := TItem_one x
  have hd : d.toList.set i x = (d.setIfInBounds i x).toList := by simp
  refine ⟨W.setRow g (splice cur (i * 2) (IV x)), ?_, ?_⟩
  · show storeOf _ _ _ _ _ _ _ = _
    unfold storeOf
    rw [hr]
    simp only [hsz, hone, and_self, if_true]
    by_cases h0 : i * 2 = 0 ∧ cur.size = 2
    · rw [if_pos h0]
      have hZ : splice cur (i * 2) (IV x) = IV x := by
        rw [h0.1]
        refine append_of_gets (by rw [splice_size, h0.2]; rfl) fun q hq => ?_
        rw [splice_get, if_pos ⟨Nat.zero_le _, by omega, by omega⟩, Nat.sub_zero]
      rw [hZ]
    · rw [if_neg h0, if_pos hs]
  · rw [hd] at T1
    have hn : (d.setIfInBounds i x).size = d.size := by simp
    show Sts w F _ (vecR _ 2 (.slice _ (d.setIfInBounds i x).size c) (d.setIfInBounds i x).size _ :: R)
    rw [hn]
    exact T1
theorem set_set_swp (d : Array Item) (i j : Nat) : (d.setIfInBounds i d[j]!).setIfInBounds j d[i]! = swp d i j := rfl
theorem swp_sz (d : Array Item) (i j : Nat) : (swp d i j).size = d.size := by simp [swp]
end
end Go.Proofs.Ytnjgjhjilolanaa
/- Items in a slice of the call's own, sorted in their place by a graph's order: the insertion sort, walked. -/
namespace Go.Proofs.Ytnjgjhjilolanaa
open Go.RowKit Go.Shelf
open Go.Sort (swp insInner insOuter insertionSort)
set_option linter.unusedVariables false
set_option maxRecDepth 20000
attribute [local go_sem] row_alloc row_drew row_drewN row_ext row_setCell row_setRow size_ext setRow_alloc setRow_drew loadOf storeOf piece_lit loadVal_at storeVal_at allOne_lit buildOf buildRes_some
attribute [local go_sem high] cell_alloc frozen_alloc setCell_alloc cell_ext frozen_ext cell_setRow frozen_setRow
attribute [local go_sem ↓] TDeed_ld0 TDeed_st0 TDeed_fd0 TDeed_bd0
attribute [local go_sem] TDeed_size TDeed_one TDeed_piece TDeed_c0 TDeed_c1 TDeed_c2 TDeed_c3 TDeed_c4 TDeed_c5 TDeed_set_kind TDeed_set_key TDeed_set_val TDeed_set_ver TDeed_set_ses TDeed_set_num TDeed_ld TDeed_st TDeed_f_kind TDeed_f_key TDeed_f_val TDeed_f_ver TDeed_f_ses TDeed_f_num TDeed_bd TDeed_fl TDeed_fl_kind TDeed_fl_key TDeed_fl_val TDeed_fl_ver TDeed_fl_ses TDeed_fl_num
attribute [local go_sem high] TDeed_eql TDeed_neq
attribute [local go_sem ↓] index_deps0 load_deps0 store_deps0
attribute [local go_sem] DV_piece DV_size DV_one index_deps load_deps store_deps
attribute [local go_sem high] TDeps_eql TDeps_neq
attribute [local go_sem ↓] TCall_ld0 TCall_st0 TCall_fd0 TCall_bd0
attribute [local go_sem] TCall_size TCall_one TCall_piece TCall_c0 TCall_c1 TCall_c2 TCall_c3 TCall_c4 TCall_c5 TCall_c6 TCall_c7 TCall_c8 TCall_c9 TCall_c10 TCall_c11 TCall_c12 TCall_c13 TCall_p_deed TCall_put_deed TCall_p_deps TCall_put_deps TCall_set_seq TCall_ld TCall_st TCall_f_deed TCall_f_deps TCall_f_seq TCall_bd TCall_fl TCall_fl_deed TCall_fl_deps TCall_fl_seq
attribute [local go_sem high] TCall_eql TCall_neq
attribute [local go_sem ↓] TItem_ld0 TItem_st0 TItem_fd0 TItem_bd0
attribute [local go_sem] TItem_size TItem_one TItem_piece TItem_c0 TItem_c1 TItem_set_rep TItem_set_num TItem_ld TItem_st TItem_f_rep TItem_f_num TItem_bd TItem_fl TItem_fl_rep TItem_fl_num
attribute [local go_sem high] TItem_eql TItem_neq
section
variable {w W : World} {F : Nat → Prop} {R : List Res} {b gc gd g c : Nat} {m : RowsMK} {q : RowsML} {d : Array Item}
end
end Go.Proofs.Ytnjgjhjilolanaa
/- How many bits a small number has. -/
namespace Go.Proofs.Ytnjgjhjilolanaa
open Go.RowKit
open Go.Sort (bitsLen)
theorem bitsLen_le : ∀ n : Fin 64, bitsLen n.val ≤ 6 := by decide +kernel
set_option maxRecDepth 2000 in
theorem len64T (k : Nat) (hk : k < 64) (w : World) : Calls Try.prog 83 #[.int .u64 k] w fun e w' => e = .returned (.int .i64 (bitsLen k)) ∧ w' = w := by
  have h1 : ¬ (4294967296 : Int) ≤ (k : Int) := by omega
  have h2 : ¬ (65536 : Int) ≤ (k : Int) := by omega
  have h3 : ¬ (256 : Int) ≤ (k : Int) := by omega
  go_enter Try.func83, Try.ntmps83
  go_upto_region 10 with fail
  go_step
  go_step
  go_step
  go_step
  go_step
  go_step
  go_step
  refine wpList_step (fun K hK => ?_)
  simp only [Region.wanted, reduceIte]
  go_step
  go_step
  refine wpList_step (fun K hK => ?_)
  simp only [Region.wanted, reduceIte]
  generalize hB : Value.string { data := List.toArray _ } = B at *
  have hx : ∀ w : World, (Instr.index 9 B (.int .u8 k)).run Try.prog w = .ok (.int .u8 (bitsLen k)) w := by
    intro w
    rw [← hB]
    clear hB hK h1 h2 h3
    iterate 64
      rcases k with _ | k
      · kernel_rfl
    omega
  clear hB
  have hl := bitsLen_le ⟨k, hk⟩
  simp only at hl
  go_simp
  go_wp2
  go_ret
  exact ⟨rfl, rfl⟩
end Go.Proofs.Ytnjgjhjilolanaa
/- Items in a slice of the call's own, sorted in their place by a graph's order: few of them; how many bits a number has. -/
namespace Go.Proofs.Ytnjgjhjilolanaa
open Go.RowKit Go.Shelf
open Go.Sort (swp insertionSort pdq bitsLen)
set_option linter.unusedVariables false
set_option maxRecDepth 20000
attribute [local go_sem] row_alloc row_drew row_drewN row_ext row_setCell row_setRow size_ext setRow_alloc setRow_drew loadOf storeOf piece_lit loadVal_at storeVal_at allOne_lit buildOf buildRes_some
attribute [local go_sem high] cell_alloc frozen_alloc setCell_alloc cell_ext frozen_ext cell_setRow frozen_setRow
attribute [local go_sem ↓] TDeed_ld0 TDeed_st0 TDeed_fd0 TDeed_bd0
attribute [local go_sem] TDeed_size TDeed_one TDeed_piece TDeed_c0 TDeed_c1 TDeed_c2 TDeed_c3 TDeed_c4 TDeed_c5 TDeed_set_kind TDeed_set_key TDeed_set_val TDeed_set_ver TDeed_set_ses TDeed_set_num TDeed_ld TDeed_st TDeed_f_kind TDeed_f_key TDeed_f_val TDeed_f_ver TDeed_f_ses TDeed_f_num TDeed_bd TDeed_fl TDeed_fl_kind TDeed_fl_key TDeed_fl_val TDeed_fl_ver TDeed_fl_ses TDeed_fl_num
attribute [local go_sem high] TDeed_eql TDeed_neq
attribute [local go_sem ↓] index_deps0 load_deps0 store_deps0
attribute [local go_sem] DV_piece DV_size DV_one index_deps load_deps store_deps
attribute [local go_sem high] TDeps_eql TDeps_neq
attribute [local go_sem ↓] TCall_ld0 TCall_st0 TCall_fd0 TCall_bd0
attribute [local go_sem] TCall_size TCall_one TCall_piece TCall_c0 TCall_c1 TCall_c2 TCall_c3 TCall_c4 TCall_c5 TCall_c6 TCall_c7 TCall_c8 TCall_c9 TCall_c10 TCall_c11 TCall_c12 TCall_c13 TCall_p_deed TCall_put_deed TCall_p_deps TCall_put_deps TCall_set_seq TCall_ld TCall_st TCall_f_deed TCall_f_deps TCall_f_seq TCall_bd TCall_fl TCall_fl_deed TCall_fl_deps TCall_fl_seq
attribute [local go_sem high] TCall_eql TCall_neq
attribute [local go_sem ↓] TItem_ld0 TItem_st0 TItem_fd0 TItem_bd0
attribute [local go_sem] TItem_size TItem_one TItem_piece TItem_c0 TItem_c1 TItem_set_rep TItem_set_num TItem_ld TItem_st TItem_f_rep TItem_f_num TItem_bd TItem_fl TItem_fl_rep TItem_fl_num
attribute [local go_sem high] TItem_eql TItem_neq
section
variable {w W : World} {F : Nat → Prop} {R : List Res} {b gc gd g c : Nat} {m : RowsMK} {q : RowsML} {d : Array Item}
theorem bitsLenT (k : Nat) (hk : k < 64) (w : World) : Calls Try.prog 69 #[.int .u64 k] w fun e w' => e = .returned (.int .i64 (bitsLen k)) ∧ w' = w := by
  go_enter Try.func69, Try.ntmps69
  go_wp2_with fail
  refine (len64T k hk _).mono ?_
  rintro e w5 ⟨rfl, rfl⟩
  go_wp2
  go_ret
  exact ⟨rfl, rfl⟩
/-- A graph's order sorts so many items. -/
def SortsTo (K : Nat) : Prop := ∀ (w W : World) (F : Nat → Prop) (R : List Res) (b gc gd g c : Nat) (m : RowsMK) (q : RowsML) (d : Array Item) (n : Nat), d.size = n → n ≤ K → (0 ≤ m.n ∧ m.n ≤ 7) → Sts w F W (itR g c d :: (grL b gc gd m q ++ R)) →
  Calls Try.prog 53 #[.slice (some ⟨g, 0, none⟩) n c, cvB b] W fun e W' => e = .returned (.tuple #[]) ∧ Sts w F W' (itR g c (pdq (ltM m) d 0 n (bitsLen n) true true) :: (grL b gc gd m q ++ R))
end
end Go.Proofs.Ytnjgjhjilolanaa
/- A graph's order of items is an order; what is sorted by it. No walk stands here. -/
namespace Go.Proofs.Ytnjgjhjilolanaa
open Go.RowKit
open Go.Sort (pdq bitsLen SWO PermIn SortedIn pdq_sorts)
set_option linter.unusedVariables false
noncomputable def sortM (m : RowsMK) (l : List Item) : List Item := (pdq (ltM m) l.toArray 0 l.length (bitsLen l.length) true true).toList
theorem IV_eq {x y : Item} (h : IV x = IV y) : x = y := by
  unfold IV at h
  obtain ⟨a, b⟩ := x
  obtain ⟨c, d⟩ := y
  simp at h
  obtain ⟨rfl, rfl⟩ := h
  rfl
theorem ltM_iff (m : RowsMK) (x y : Item) : ltM m x y = true ↔ seqK m x < seqK m y ∨ seqK m x = seqK m y ∧ (x.num < y.num ∨ x.num = y.num ∧ x.rep < y.rep) := by
  unfold ltM befM
  by_cases h : eqA (IV x) (IV y) = true
  · rw [if_pos h]
    have := IV_eq (eqA_iff.1 h)
    subst this
    simp
  · rw [if_neg h]
    by_cases hb : befB m x y = true
    · rw [if_pos hb]
      unfold befB at hb
      simp [lessI] at hb
      exact ⟨fun _ => hb, fun _ => by decide⟩
    · rw [if_neg hb]
      unfold befB at hb
      simp [lessI] at hb
      have : ¬ ((1:Int) < 0) := by omega
      simp only [this, decide_false, Bool.false_eq_true, false_iff]
      omega
theorem ltM_swo (m : RowsMK) : SWO (ltM m) where
  irrefl x := by
    cases h : ltM m x x with
    | false => rfl
    | true => rw [ltM_iff] at h; omega
  trans x y z h1 h2 := by
    rw [ltM_iff] at h1 h2 ⊢
    omega
  ntrans x y z h1 h2 := by
    rw [← Bool.not_eq_true, ltM_iff] at h1 h2 ⊢
    omega
theorem pdqM_sorts (m : RowsMK) (l : List Item) : PermIn 0 l.length l.toArray (pdq (ltM m) l.toArray 0 l.length (bitsLen l.length) true true) ∧ SortedIn (ltM m) 0 l.length (pdq (ltM m) l.toArray 0 l.length (bitsLen l.length) true true) :=
  pdq_sorts (ltM m) (ltM_swo m) l.toArray 0 l.length _ true true (Nat.zero_le _) (by simp) (.inl rfl)
theorem pdqM_size (m : RowsMK) (d : Array Item) (k : Nat) (hk : d.size = k) : (pdq (ltM m) d 0 k (bitsLen k) true true).size = k := by
  subst hk
  have := (pdqM_sorts m d.toList).1.1
  simpa using this
theorem sortM_length (m : RowsMK) (l : List Item) : (sortM m l).length = l.length := by
  unfold sortM
  rw [Array.length_toList, pdqM_size m _ _ (by simp)]
theorem sortM_perm (m : RowsMK) (l : List Item) : (sortM m l).Perm l := by
  have h := (pdqM_sorts m l).1.2.2
  have hs := (pdqM_sorts m l).1.1
  unfold sortM
  generalize pdq (ltM m) l.toArray 0 l.length (bitsLen l.length) true true = d at *
  simp at hs
  rw [← hs] at h
  simp at h
  rw [List.take_of_length_le (by omega)] at h
  exact h
end Go.Proofs.Ytnjgjhjilolanaa
/- Layer 18: a search through a graph, in memory; a part is told. -/
namespace Go.Proofs.Ytnjgjhjilolanaa
open Go.RowKit Go.Shelf
open Go.Sort (pdq bitsLen)
set_option linter.unusedVariables false
set_option maxRecDepth 20000
attribute [local go_sem] row_alloc row_drew row_drewN row_ext row_setCell row_setRow size_ext setRow_alloc setRow_drew loadOf storeOf piece_lit loadVal_at storeVal_at allOne_lit buildOf buildRes_some
attribute [local go_sem high] cell_alloc frozen_alloc setCell_alloc cell_ext frozen_ext cell_setRow frozen_setRow
attribute [local go_sem ↓] TDeed_ld0 TDeed_st0 TDeed_fd0 TDeed_bd0
attribute [local go_sem] TDeed_size TDeed_one TDeed_piece TDeed_c0 TDeed_c1 TDeed_c2 TDeed_c3 TDeed_c4 TDeed_c5 TDeed_set_kind TDeed_set_key TDeed_set_val TDeed_set_ver TDeed_set_ses TDeed_set_num TDeed_ld TDeed_st TDeed_f_kind TDeed_f_key TDeed_f_val TDeed_f_ver TDeed_f_ses TDeed_f_num TDeed_bd TDeed_fl TDeed_fl_kind TDeed_fl_key TDeed_fl_val TDeed_fl_ver TDeed_fl_ses TDeed_fl_num
attribute [local go_sem high] TDeed_eql TDeed_neq
attribute [local go_sem ↓] index_deps0 load_deps0 store_deps0
attribute [local go_sem] DV_piece DV_size DV_one index_deps load_deps store_deps
attribute [local go_sem high] TDeps_eql TDeps_neq
attribute [local go_sem ↓] TCall_ld0 TCall_st0 TCall_fd0 TCall_bd0
attribute [local go_sem] TCall_size TCall_one TCall_piece TCall_c0 TCall_c1 TCall_c2 TCall_c3 TCall_c4 TCall_c5 TCall_c6 TCall_c7 TCall_c8 TCall_c9 TCall_c10 TCall_c11 TCall_c12 TCall_c13 TCall_p_deed TCall_put_deed TCall_p_deps TCall_put_deps TCall_set_seq TCall_ld TCall_st TCall_f_deed TCall_f_deps TCall_f_seq TCall_bd TCall_fl TCall_fl_deed TCall_fl_deps TCall_fl_seq
attribute [local go_sem high] TCall_eql TCall_neq
attribute [local go_sem ↓] TItem_ld0 TItem_st0 TItem_fd0 TItem_bd0
attribute [local go_sem] TItem_size TItem_one TItem_piece TItem_c0 TItem_c1 TItem_set_rep TItem_set_num TItem_ld TItem_st TItem_f_rep TItem_f_num TItem_bd TItem_fl TItem_fl_rep TItem_fl_num
attribute [local go_sem high] TItem_eql TItem_neq
noncomputable def offM (l : List Item) (f : Item → Option Bool) : Item → Option Bool := l.foldl (fun f y => putF f y false) f
theorem offM_snoc (l : List Item) (y : Item) (f : Item → Option Bool) : offM (l ++ [y]) f = putF (offM l f) y false := by simp [offM]
theorem pit_slice1 (w : World) (A : Option Addr) (n c : Nat) : (Instr.buildSlice 36 1 #[(0, .slice A n c)]).run Try.prog w = .ok (.slice (some ⟨w.heap.size, 0, none⟩) 1 1) (w.alloc (.cells #[.slice A n c] 30)) := by kernel_rfl
theorem pit_i : ∃ i, Try.prog.info? 30 = some i ∧ i.zero = some (.slice none 0 0) ∧ i.size = 1 ∧ i.bytes = 24 := by
  have h : (Try.prog.info? 30).map (fun i => (i.zero, i.size, i.bytes)) = some (some (.slice none 0 0), 1, 24) := by kernel_rfl
  cases hi : Try.prog.info? 30 with
  | none => rw [hi] at h; simp at h
  | some i => rw [hi] at h; simp at h; exact ⟨i, rfl, h.1, h.2.1, h.2.2⟩
attribute [local go_sem] pit_slice1
noncomputable def partM (m : RowsMK) (x : Item) (S : WS) : WS :=
  { S with on := offM (S.st.drop (idxN x S.st)) S.on, st := S.st.take (idxN x S.st), pa := S.pa ++ [sortM m (S.st.drop (idxN x S.st))] }
section
variable {w W : World} {F : Nat → Prop} {R : List Res} {b gc gd : Nat} {m : RowsMK} {q : RowsML}
theorem Sts.paPush2 {v u : Value} {l : List Item} {pv : List (Value × List Item)} (T : Sts w F W (vecR 30 1 v (pv.length + 1) (vl PV pv ++ (PV (u, l)).toList) :: packR (pv.map (fun p => vecR 35 2 p.1 p.2.length (vl IV p.2))) :: vecR 35 2 u l.length (vl IV l) :: R)) : Sts w F W (paR v (pv.map (·.2) ++ [l]) :: R) := by
  have T1 := T.unpack1
  exact Sts.paPush (T1.perm (List.Perm.cons _ List.perm_middle))
set_option maxHeartbeats 16000000 in
theorem grPartT {K : Nat} (hK : SortsTo K) (hK6 : K ≤ 1000000) {wk N : Nat} {A : WA} {S : WS} (hA : A.le N) (hN : N + K < maxLen) (hst : S.st.length ≤ K) (hpa : S.pa.length ≤ 1000000) (hm : 0 ≤ m.n ∧ m.n ≤ 7) (x : Item) (hin : ∀ y ∈ S.st, InI y) (hmem : idxN x S.st < S.st.length)
    (T : Sts w F W (wkL wk b A S ++ (grL b gc gd m q ++ R))) :
    Calls Try.prog 65 #[.pointer (some ⟨wk, 0, none⟩), .agg (IV x)] W fun e W' => e = .returned (.tuple #[]) ∧ ∃ A', A'.le (N + K) ∧ Sts w F W' (wkL wk b A' (partM m x S) ++ (grL b gc gd m q ++ R)) := by
  obtain ⟨bi, bl, bo, n1, n2, c2, n3, c3, vs, vf, vp, vm⟩ := A
  obtain ⟨ix, ci, lo, on, st, fr, pa, mi⟩ := S
  obtain ⟨hA1, hA2, hA3⟩ := hA
  dsimp only at hst hpa hA1 hA2 hA3 hin hmem
  have T : Sts w F W (rowR wk (wkC b bi bl bo vs vf vp vm) :: numR bi n1 ci ix :: numR bl n2 c2 lo :: bitR bo n3 c3 on :: vecR 35 2 vs st.length (vl IV st) :: frR vf fr :: paR vp pa :: vecR 35 2 vm mi.length (vl IV mi) :: (grL b gc gd m q ++ R)) := T
  have T := T.ord [0, 3, 4, 6, 1, 2, 5, 7]
  generalize hRR : numR bi n1 ci ix :: numR bl n2 c2 lo :: frR vf fr :: vecR 35 2 vm mi.length (vl IV mi) :: (grL b gc gd m q ++ R) = RR at *
  have HRR := Lib.hid hRR; clear hRR
  obtain ⟨k, hk⟩ : ∃ k, k = idxN x st := ⟨_, rfl⟩
  have hii : idxI x st = (k : Int) := by rw [idxI, if_pos hmem, hk]
  obtain ⟨n, hn⟩ : ∃ n, n = st.length := ⟨_, rfl⟩
  have HN := Lib.hid hn
  rw [← hk, ← hn] at hmem
  rw [← hn] at hst
  obtain ⟨gs, cs, hvs⟩ : ∃ gs cs, vs = .slice (some ⟨gs, 0, none⟩) n cs := by
    rcases ((T.ord [2, 0, 1]).vec).2 with ⟨h, h0⟩ | ⟨g1, cap, cur, h, _⟩
    · omega
    · exact ⟨g1, cap, by rw [h, hn]⟩
  subst hvs
  have T1 := (T.new (IV x) 35).ord [1, 0]
  have HT := Lib.hid T1
  have HIX := Lib.hid (fun (W' : World) (R' : List Res) (T : Sts w F W' (vecR 35 2 (.slice (some ⟨gs, 0, none⟩) n cs) st.length (vl IV st) :: R')) => (indexR _ st (by rw [← hn]; omega) x).at1 T)
  rw [hii] at HIX
  have HK := Lib.hid hk
  clear T T1 hii hn hk
  go_enter Try.func65, Try.ntmps65
  go_upto_region 1 with fail
  generalize hw3 : W.alloc _ = w3 at *
  generalize W.heap.size = gx at *
  clear hw3
  have FS : ∀ W' X R', Sts w F W' (rowR wk X :: rowR gx (IV x) :: R') → X[4]? = some (.slice (some ⟨gs, 0, none⟩) n cs) → (W'.cell? ⟨wk, 4, none⟩ = some (.slice (some ⟨gs, 0, none⟩) n cs) ∧ row? W' gx = some (IV x)) := fun W' X R' T h1 => ⟨by rw [row_cell T.row 4, h1], T.row1⟩
  have HFS := Lib.hid FS
  have HT0 := Lib.hid HT.out.drew
  have S0 := HFS.out _ _ _ HT0.out rfl
  clear HT FS
  refine wp_region_held_drew (S := fun W' => (W'.cell? ⟨wk, 4, none⟩ = some (.slice (some ⟨gs, 0, none⟩) n cs) ∧ row? W' gx = some (IV x))) (by kernel_rfl) S0 (fun hHeld => ?_)
  clear S0
  refine wpAnyH_take (i := 0) (oi := _) (v := ?_) rfl (by kernel_rfl) (by kernel_rfl) (by kernel_rfl) (fun _ _ _ h => h) (Or.inl ⟨by kernel_rfl, ?_⟩) (by assumption) ?_
  rotate_left
  · (intro w hSw; (try dsimp only at hSw); go_simp; try (with_reducible rfl))
  simp only [Act.put, List.getElem_toArray, List.getElem_cons_zero, List.setIfInBounds_toArray, List.set_cons_zero, List.set_cons_succ]
  refine wpAnyH_take (i := 1) (oi := _) (v := ?_) rfl (by kernel_rfl) (by kernel_rfl) (by kernel_rfl) (fun _ _ _ h => h) (Or.inl ⟨by kernel_rfl, ?_⟩) (by assumption) ?_
  rotate_left
  · (intro w hSw; (try dsimp only at hSw); go_simp; try (with_reducible rfl))
  simp only [Act.put, List.getElem_toArray, List.getElem_cons_succ, List.getElem_cons_zero, List.setIfInBounds_toArray, List.set_cons_zero, List.set_cons_succ]
  refine wpAnyH_take (i := 2) (oi := _) (v := ?_) rfl (by kernel_rfl) (by kernel_rfl) (by kernel_rfl) (fun _ _ _ h => h) (Or.inl ⟨by kernel_rfl, ?_⟩) (by assumption) ?_
  rotate_left
  · (intro w hSw; (try dsimp only at hSw); go_simp; try (with_reducible rfl))
  simp only [Act.put, List.getElem_toArray, List.getElem_cons_succ, List.getElem_cons_zero, List.setIfInBounds_toArray, List.set_cons_zero, List.set_cons_succ]
  refine wpAnyH_take (i := 3) (oi := _) (v := ?_) rfl (by kernel_rfl) (by kernel_rfl) (by kernel_rfl) (fun _ _ _ h => h) (Or.inl ⟨by kernel_rfl, ?_⟩) (by assumption) ?_
  rotate_left
  · (intro w hSw; (try dsimp only at hSw); go_simp; try (with_reducible rfl))
  simp only [Act.put, List.getElem_toArray, List.getElem_cons_succ, List.getElem_cons_zero, List.setIfInBounds_toArray, List.set_cons_zero, List.set_cons_succ]
  refine wpAnyH_take (i := 4) (oi := _) (v := ?_) rfl (by kernel_rfl) (by kernel_rfl) (by kernel_rfl) (fun _ _ _ h => h) (Or.inl ⟨by kernel_rfl, ?_⟩) (by assumption) ?_
  rotate_left
  · (intro w hSw; (try dsimp only at hSw); go_simp; try (with_reducible rfl))
  simp only [Act.put, List.getElem_toArray, List.getElem_cons_succ, List.getElem_cons_zero, List.setIfInBounds_toArray, List.set_cons_zero, List.set_cons_succ]
  refine wpAnyH_ready (rs := [5]) (by kernel_rfl) (by simp) ?_
  refine AllReadyH.cons (o := _) rfl (fun K hK => ?_) AllReadyH.nil
  go_simp
  refine (HIX.out _ _ (HT0.out.ord [3, 0, 1, 2])).mono ?_
  clear HIX
  rintro e5 w5 ⟨rfl, hb⟩
  have HT := Lib.hid (HT0.out.pure hb)
  clear hb HT0
  refine hK.out _ _ (HFS.out _ _ _ HT.out rfl) (fun hHeld => ?_)
  clear hK K HFS
  refine wpAnyH_take (i := 6) (oi := _) (v := ?_) rfl (by kernel_rfl) (by kernel_rfl) (by kernel_rfl) (fun _ _ _ h => h) (Or.inl ⟨by kernel_rfl, ?_⟩) (by assumption) ?_
  rotate_left
  · (intro w hSw; (try dsimp only at hSw); go_simp; try (with_reducible rfl))
  simp only [Act.put, List.getElem_toArray, List.getElem_cons_succ, List.getElem_cons_zero, List.setIfInBounds_toArray, List.set_cons_zero, List.set_cons_succ]
  refine wpAnyH_done (by kernel_rfl) ?_ _
  try simp only [Exit.then]
  have r := HT.out.row; have lr := row_lt r; have c4 := row_cell r 4
  have hkn : (k : Int) ≤ (n : Int) := by omega
  have hk0 : (0 : Int) ≤ (k : Int) := by omega
  have hncs : n ≤ cs := by
    rcases ((HT.out.ord [3, 0, 1, 2]).vec).2 with ⟨h, h0⟩ | ⟨g1, cap, cur, h, _, _, h2, _⟩
    · cases h
    · injection h with e1 e2 e3; omega
  go_wp2_with fail
  have hcl : ∀ j y, (st.drop k)[j]? = some y → w5.cell? ⟨gs, k * 2 + j * 2, none⟩ = some (.int .i64 y.rep) ∧ w5.cell? ⟨gs, k * 2 + j * 2 + 1, none⟩ = some (.int .i64 y.num) := fun j y hj => by
    rw [List.getElem?_drop] at hj
    obtain ⟨hj1, rfl⟩ := List.getElem?_eq_some_iff.1 hj
    obtain ⟨g', c', hv, -, hcell⟩ := vec_cell TItem_size (HT.out.ord [3, 0, 1, 2]) (by omega) hj1
    injection hv with e1 e2 e3
    injection e1 with e1
    injection e1 with e1
    subst e1
    have h0 := hcell 0 _ rfl
    have h1 := hcell 1 _ rfl
    rw [show k * 2 + j * 2 = (k + j) * 2 by omega]
    exact ⟨h0, h1⟩
  obtain ⟨nk, hnk⟩ : ∃ nk, nk = n - k := ⟨_, rfl⟩
  have hdl : (st.drop k).length = nk := by rw [List.length_drop, ← HN.out, hnk]
  have HCT := Lib.hid (cloneT (c := cs - k) hdl (by omega) (by omega) hcl HT.out)
  have HNK := Lib.hid hnk
  rw [hnk] at HCT
  refine HCT.out.mono ?_
  clear HCT hcl r lr c4
  rintro e6 w6 ⟨g1, c1, rfl, T⟩
  rw [← hnk] at T ⊢
  have T2 := T.ord [1, 0]
  have r := T2.row; have lr := row_lt r; have c4 : w6.cell? ⟨wk, 4, none⟩ = some (.slice (some ⟨gs, 0, none⟩) n cs) := by rw [row_cell r 4]; rfl
  have f4 := row_frozen r 4
  have HT2 := Lib.hid T2
  have HDL := Lib.hid hdl
  clear T T2 HT hnk hdl
  go_upto_region 4 with fail
  have T3a := HT2.out.setCell 4 (.slice (some ⟨gs, 0, none⟩) k cs)
  generalize hw7 : w6.setCell _ _ = w7 at *
  clear hw7
  have T3 : Sts w F w7 (rowR wk (wkC b bi bl bo (.slice (some ⟨gs, 0, none⟩) k cs) vf vp vm) :: vecR 35 2 (.slice (some ⟨g1, 0, none⟩) nk c1) nk (vl IV (st.drop k)) :: rowR gx (IV x) :: bitR bo n3 c3 on :: vecR 35 2 (.slice (some ⟨gs, 0, none⟩) n cs) st.length (vl IV st) :: paR vp pa :: RR) := T3a
  have T4 := (T3.ord [4, 0, 1, 2, 3]).vecShort (k := k) TItem_size (by have := HN.out; omega) (A := some ⟨gs, 0, none⟩) (c := cs) (by have := HN.out; rw [← this])
  have T5 := (T4.ord [3, 1, 2, 4, 0, 5]).drop
  obtain ⟨d, hd, hds⟩ : ∃ d : Array Item, d.toList = st.drop k ∧ d.size = nk := ⟨(st.drop k).toArray, rfl, by have := HDL.out; simpa using this⟩
  have hdin : ∀ i, i < nk → InI d[i]! := fun i hi => by
    rw [← get_list d (by omega)]
    refine hin _ (List.mem_of_mem_drop (i := k) ?_)
    rw [← hd]
    exact List.getElem_mem _
  have T6 : Sts w F w7 (rowR wk (wkC b bi bl bo (.slice (some ⟨gs, 0, none⟩) k cs) vf vp vm) :: itR g1 c1 d :: bitR bo n3 c3 on :: vecR 35 2 (.slice (some ⟨gs, 0, none⟩) k cs) (st.take k).length (vl IV (st.take k)) :: paR vp pa :: RR) := by
    unfold itR
    rw [hd, hds]
    exact T5
  have HT := Lib.hid T6; have HDS := Lib.hid hds; have HD := Lib.hid hd; have HIN := Lib.hid hdin
  clear HT2 T3a T3 T4 T5 T6 hds hd hdin hin r lr c4 f4 hkn hk0
  have hnkK : nk ≤ K := by have := HNK.out; omega
  clear hmem
  go_wp2_with fail
  go_loopw [32] (fun u32 wr => ∃ (i n3' c3' : Nat), u32 = .int .i64 i ∧ i ≤ nk ∧ n3' ≤ n3 + i ∧ Sts w F wr (rowR wk (wkC b bi bl bo (.slice (some ⟨gs, 0, none⟩) k cs) vf vp vm) :: itR g1 c1 d :: bitR bo n3' c3' (offM (d.toList.take i) on) :: vecR 35 2 (.slice (some ⟨gs, 0, none⟩) k cs) (st.take k).length (vl IV (st.take k)) :: paR vp pa :: RR)) (fun u32 _ => nk - (intOf u32).toNat)
  case atStart => exact ⟨0, n3, c3, rfl, by omega, by omega, HT.out⟩
  case round =>
    clear HT
    obtain ⟨i, n3', c3', rfl, hi, hn3, T⟩ := hrel
    by_cases hin : i < nk
    · have hin' : (i : Int) < (nk : Int) := by omega
      have hi0 : (0 : Int) ≤ (i : Int) := by omega
      have hld := (T.ord [1, 0]).itLoad (i := i) (by have := HDS.out; omega)
      have hsn : offM (d.toList.take (i + 1)) on = putF (offM (d.toList.take i) on) d[i]! false := by
        have h1 : i < d.toList.length := by have := HDS.out; rw [Array.length_toList]; omega
        rw [List.take_succ_eq_append_getElem h1, offM_snoc, get_list d (by have := HDS.out; omega)]
      have HSN := Lib.hid hsn
      have HY := Lib.hid (HIN.out i hin)
      clear hsn
      generalize d[i]! = y at *
      generalize offM (d.toList.take i) on = on' at *
      have T2 := (T.new (IV y) 35).ord [1, 0]
      have HT := Lib.hid T2; clear T T2
      go_upto_region 7 with fail
      generalize hw3 : wr.alloc _ = w3 at *
      generalize wr.heap.size = gy at *
      clear hw3 hld
      have FS : ∀ W' X R', Sts w F W' (rowR wk X :: rowR gy (IV y) :: R') → X[3]? = some (.map (some bo)) → (W'.cell? ⟨wk, 3, none⟩ = some (.map (some bo)) ∧ row? W' gy = some (IV y)) := fun W' X R' T h1 => ⟨by rw [row_cell T.row 3, h1], T.row1⟩
      have HFS := Lib.hid FS
      have HT0 := Lib.hid HT.out.drew
      have S0 := HFS.out _ _ _ HT0.out rfl
      clear HT FS
      refine wp_region_held_drew (S := fun W' => (W'.cell? ⟨wk, 3, none⟩ = some (.map (some bo)) ∧ row? W' gy = some (IV y))) (by kernel_rfl) S0 (fun hHeld => ?_)
      clear S0
      refine wpAnyH_take (i := 0) (oi := _) (v := ?_) rfl (by kernel_rfl) (by kernel_rfl) (by kernel_rfl) (fun _ _ _ h => h) (Or.inl ⟨by kernel_rfl, ?_⟩) (by assumption) ?_
      rotate_left
      · (intro w hSw; (try dsimp only at hSw); go_simp; try (with_reducible rfl))
      simp only [Act.put, List.getElem_toArray, List.getElem_cons_zero, List.setIfInBounds_toArray, List.set_cons_zero, List.set_cons_succ]
      refine wpAnyH_take (i := 1) (oi := _) (v := ?_) rfl (by kernel_rfl) (by kernel_rfl) (by kernel_rfl) (fun _ _ _ h => h) (Or.inl ⟨by kernel_rfl, ?_⟩) (by assumption) ?_
      rotate_left
      · (intro w hSw; (try dsimp only at hSw); go_simp; try (with_reducible rfl))
      simp only [Act.put, List.getElem_toArray, List.getElem_cons_succ, List.getElem_cons_zero, List.setIfInBounds_toArray, List.set_cons_zero, List.set_cons_succ]
      refine wpAnyH_take (i := 2) (oi := _) (v := ?_) rfl (by kernel_rfl) (by kernel_rfl) (by kernel_rfl) (fun _ _ _ h => h) (Or.inl ⟨by kernel_rfl, ?_⟩) (by assumption) ?_
      rotate_left
      · (intro w hSw; (try dsimp only at hSw); go_simp; try (with_reducible rfl))
      simp only [Act.put, List.getElem_toArray, List.getElem_cons_succ, List.getElem_cons_zero, List.setIfInBounds_toArray, List.set_cons_zero, List.set_cons_succ]
      refine wpAnyH_take (i := 3) (oi := _) (v := ?_) rfl (by kernel_rfl) (by kernel_rfl) (by kernel_rfl) (fun _ _ _ h => h) (Or.inl ⟨by kernel_rfl, ?_⟩) (by assumption) ?_
      rotate_left
      · (intro w hSw; (try dsimp only at hSw); go_simp; try (with_reducible rfl))
      simp only [Act.put, List.getElem_toArray, List.getElem_cons_succ, List.getElem_cons_zero, List.setIfInBounds_toArray, List.set_cons_zero, List.set_cons_succ]
      refine wpAnyH_take (i := 4) (oi := _) (v := ?_) rfl (by kernel_rfl) (by kernel_rfl) (by kernel_rfl) (fun _ _ _ h => h) (Or.inl ⟨by kernel_rfl, ?_⟩) (by assumption) ?_
      rotate_left
      · (intro w hSw; (try dsimp only at hSw); go_simp; try (with_reducible rfl))
      simp only [Act.put, List.getElem_toArray, List.getElem_cons_succ, List.getElem_cons_zero, List.setIfInBounds_toArray, List.set_cons_zero, List.set_cons_succ]
      generalize w3.drew = w9 at *
      obtain ⟨w10, h10, T10, hsz⟩ := (HT0.out.ord [3, 0, 1, 2]).mapCPut itemOk Try.underlying29 (by omega) y HY.out false
      have HT10 := Lib.hid (T10.ord [1, 2, 3, 0]); clear T10 HT0 hsz
      refine wpAnyH_ready (rs := [5]) (by kernel_rfl) (by simp) ?_
      refine AllReadyH.cons (o := _) rfl (fun K hK => ?_) AllReadyH.nil
      go_simp
      refine hK.out _ _ (HFS.out _ _ _ HT10.out rfl) (fun hHeld => ?_)
      clear hK K HFS h10
      refine wpAnyH_done (by kernel_rfl) ?_ _
      try simp only [Exit.then]
      have T11 := (HT10.out.ord [1, 0]).drop
      rw [← HSN.out] at T11
      have HT := Lib.hid T11; clear HT10 T11
      go_wp2
      go_roundw
      case rel => exact ⟨i + 1, _, _, by go_num, by omega, by omega, HT.out⟩
      case measure => simp [intOf]; omega
    · have hin' : ¬ (i : Int) < (nk : Int) := by omega
      obtain rfl : i = nk := by omega
      have htk : d.toList.take i = d.toList := by rw [List.take_of_length_le (by rw [Array.length_toList, HDS.out]; exact Nat.le_refl _)]
      rw [htk, ← HRR.out] at T
      have T : Sts w F wr (rowR wk (wkC b bi bl bo (.slice (some ⟨gs, 0, none⟩) k cs) vf vp vm) :: itR g1 c1 d :: bitR bo n3' c3' (offM d.toList on) :: vecR 35 2 (.slice (some ⟨gs, 0, none⟩) k cs) (st.take k).length (vl IV (st.take k)) :: paR vp pa :: numR bi n1 ci ix :: numR bl n2 c2 lo :: frR vf fr :: vecR 35 2 vm mi.length (vl IV mi) :: rowR b #[.pointer (some ⟨gc, 0, none⟩), .pointer (some ⟨gd, 0, none⟩)] :: rowsIRK gc m :: rowsIRL gd q :: R) := T
      have r := T.row; have lr := row_lt r
      have c0 : wr.cell? ⟨wk, 0, none⟩ = some (.pointer (some ⟨b, 0, none⟩)) := by rw [row_cell r 0]; rfl
      have HS := Lib.hid (hK w wr F (rowR wk (wkC b bi bl bo (.slice (some ⟨gs, 0, none⟩) k cs) vf vp vm) :: bitR bo n3' c3' (offM d.toList on) :: vecR 35 2 (.slice (some ⟨gs, 0, none⟩) k cs) (st.take k).length (vl IV (st.take k)) :: paR vp pa :: numR bi n1 ci ix :: numR bl n2 c2 lo :: frR vf fr :: vecR 35 2 vm mi.length (vl IV mi) :: R) b gc gd g1 c1 m q d i HDS.out hnkK hm (by have T9 := T.ord [1, 9, 10, 11, 0, 2, 3, 4, 5, 6, 7, 8]; exact T9))
      clear T
      go_wp2_with fail
      refine HS.out.mono ?_
      clear HS r lr c0
      rintro e5 w5 ⟨rfl, T⟩
      obtain ⟨e, he⟩ : ∃ e, e = pdq (ltM m) d 0 i (bitsLen i) true true := ⟨_, rfl⟩
      rw [← he] at T
      have hes : e.size = i := by rw [he]; exact pdqM_size m d i HDS.out
      have hel : e.toList = sortM m (st.drop k) := by
        rw [he, sortM, HDL.out]
        have : d = (st.drop k).toArray := by rw [← HD.out]
        rw [this]
      have hlen : (sortM m (st.drop k)).length = i := by rw [← hel, Array.length_toList, hes]
      have HLEN := Lib.hid hlen
      have T1 : Sts w F w5 (vecR 35 2 (.slice (some ⟨g1, 0, none⟩) i c1) (sortM m (st.drop k)).length (vl IV (sortM m (st.drop k))) :: rowR b #[.pointer (some ⟨gc, 0, none⟩), .pointer (some ⟨gd, 0, none⟩)] :: rowsIRK gc m :: rowsIRL gd q :: rowR wk (wkC b bi bl bo (.slice (some ⟨gs, 0, none⟩) k cs) vf vp vm) :: bitR bo n3' c3' (offM d.toList on) :: vecR 35 2 (.slice (some ⟨gs, 0, none⟩) k cs) (st.take k).length (vl IV (st.take k)) :: paR vp pa :: numR bi n1 ci ix :: numR bl n2 c2 lo :: frR vf fr :: vecR 35 2 vm mi.length (vl IV mi) :: R) := by
        have T2 : Sts w F w5 (itR g1 c1 e :: rowR b #[.pointer (some ⟨gc, 0, none⟩), .pointer (some ⟨gd, 0, none⟩)] :: rowsIRK gc m :: rowsIRL gd q :: rowR wk (wkC b bi bl bo (.slice (some ⟨gs, 0, none⟩) k cs) vf vp vm) :: bitR bo n3' c3' (offM d.toList on) :: vecR 35 2 (.slice (some ⟨gs, 0, none⟩) k cs) (st.take k).length (vl IV (st.take k)) :: paR vp pa :: numR bi n1 ci ix :: numR bl n2 c2 lo :: frR vf fr :: vecR 35 2 vm mi.length (vl IV mi) :: R) := T
        unfold itR at T2
        rw [hel, hes] at T2
        rw [hlen]
        exact T2
      rw [HD.out] at T1
      clear T hes hel hlen he
      obtain ⟨pv, hpv, T2⟩ := (T1.ord [7, 0, 1, 2, 3, 4, 5, 6]).paOpen
      have T3 := T2.pack1
      have hpl : pv.length ≤ 1000000 := by rw [← hpv, List.length_map] at hpa; exact hpa
      have r := T3.ord [6, 0, 1, 2, 3, 4, 5] |>.row; have lr := row_lt r
      have c6 : w5.cell? ⟨wk, 6, none⟩ = some vp := by rw [row_cell r 6]; rfl
      have TA0 := T3.new #[.slice (some ⟨g1, 0, none⟩) i c1] 30
      have HNW := Lib.hid (news_row TA0.row)
      have HTA := Lib.hid (TA0.ord [1, 0])
      obtain ⟨i0, hi, hz0, hz1, hz2⟩ := pit_i
      clear T1 T2 T3 TA0
      have h63 : pv.length + 1 ≤ maxLen := by unfold maxLen; omega
      go_wp2_with (at_builtin; refine wpList_append_vec rfl _ _ 36 rfl 30 i0 _ 1 24 Try.underlying36 hi hz0 hz1 hz2 rfl (by omega) _ _ _ rfl HTA.out ⟨w5.heap.size, 0, none⟩ 1 1 [.slice (some ⟨g1, 0, none⟩) i c1] rfl rfl HNW.out (by simp [Value.oneCell']) ?c3 ?c4 ?_)
      case c3 => exact h63
      case c4 => omega
      intro v' w' T9
      obtain ⟨A9, c9, rfl⟩ := vec_shape2 T9
      rw [show min k st.length = (st.take k).length from List.length_take.symm] at T9
      clear HTA HNW r lr c6 hi hz0 hz1 hz2 h63
      have T10 := T9.ord [7, 0, 1, 2, 3, 4, 5, 6]
      have r := T10.row; have lr := row_lt r; have f6 := row_frozen r 6
      have c6 : w'.cell? ⟨wk, 6, none⟩ = some vp := by rw [row_cell r 6]; rfl
      have HT := Lib.hid T10
      clear T9 T10
      go_wp2
      have T11 := HT.out.setCell 6 (.slice A9 (pv.length + 1) c9)
      try simp only [Exit.inBlock, Exit.then]
      refine bodyPost_end (results_none rfl _ _ _) rfl ?_
      clear HT r lr f6 c6
      generalize w'.setCell _ _ = w8 at *
      have T12 : Sts w F w8 (rowR wk (wkC b bi bl bo (.slice (some ⟨gs, 0, none⟩) k cs) vf (.slice A9 (pv.length + 1) c9) vm) :: vecR 30 1 (.slice A9 (pv.length + 1) c9) (pv.length + 1) (vl PV pv ++ [.slice (some ⟨g1, 0, none⟩) i c1]) :: rowR w5.heap.size #[.slice (some ⟨g1, 0, none⟩) i c1] :: packR (pv.map (fun p => vecR 35 2 p.1 p.2.length (vl IV p.2))) :: vecR 35 2 (.slice (some ⟨g1, 0, none⟩) i c1) (sortM m (st.drop k)).length (vl IV (sortM m (st.drop k))) :: rowR b #[.pointer (some ⟨gc, 0, none⟩), .pointer (some ⟨gd, 0, none⟩)] :: rowsIRK gc m :: rowsIRL gd q :: bitR bo n3' c3' (offM (st.drop k) on) :: vecR 35 2 (.slice (some ⟨gs, 0, none⟩) k cs) (st.take k).length (vl IV (st.take k)) :: numR bi n1 ci ix :: numR bl n2 c2 lo :: frR vf fr :: vecR 35 2 vm mi.length (vl IV mi) :: R) := T11
      have T13 := (T12.ord [2, 1, 3, 4, 0]).drop
      have T14 := Sts.paPush2 (u := .slice (some ⟨g1, 0, none⟩) i c1) (l := sortM m (st.drop k)) (pv := pv) T13
      rw [hpv] at T14
      have T15 := T14.ord [1, 7, 8, 5, 6, 9, 0, 10, 2, 3, 4]
      have hk := HK.out
      refine ⟨rfl, ⟨bi, bl, bo, n1, n2, c2, n3', c3', .slice (some ⟨gs, 0, none⟩) k cs, vf, .slice A9 (pv.length + 1) c9, vm⟩, ⟨by dsimp only; omega, by dsimp only; omega, by dsimp only; omega⟩, ?_⟩
      subst hk
      exact T15
end
end Go.Proofs.Ytnjgjhjilolanaa
