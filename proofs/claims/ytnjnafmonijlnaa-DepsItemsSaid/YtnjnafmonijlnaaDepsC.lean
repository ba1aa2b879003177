import Derived.Test.YtnjnafmonijlnaaDeps
namespace Go.Proofs.Ytnjnafmonijlnaa
open Go.RowKit
attribute [local go_sem] row_alloc row_drew row_drewN row_ext row_setCell row_setRow size_ext setRow_alloc setRow_drew loadOf storeOf piece_lit DV_piece loadVal_at storeVal_at allOne_lit DV_size DV_one
attribute [local go_sem high] cell_alloc frozen_alloc setCell_alloc cell_ext frozen_ext
attribute [local go_sem ↓] index_deps0 load_deps0 store_deps0 slice_deps0
attribute [local go_sem] index_deps load_deps store_deps slice_deps2 slice_deps3 LV_size

def join2 (a d : Nat → Int) : Nat → Int := fun i => max (a i) (d i)
def joinL (l : List (Nat → Int)) : Nat → Int := l.foldl join2 (fun _ => 0)
def upTo (j : Nat) (a d : Nat → Int) : Nat → Int := fun i => if i < j then max (a i) (d i) else a i
theorem upTo_step (j : Nat) (a d : Nat → Int) : upd (upTo j a d) j (max (upTo j a d j) (d j)) = upTo (j + 1) a d := by
  funext i
  unfold upd upTo
  by_cases h : i = j
  · subst h; simp
  · rw [if_neg h]
    by_cases h2 : i < j
    · rw [if_pos h2, if_pos (by omega)]
    · rw [if_neg h2, if_neg (by omega)]
theorem ite_max (a b : Int) : (if a < b then b else a) = max a b := by
  split <;> omega
set_option maxHeartbeats 1000000 in
theorem join_any (l : List (Nat → Int)) (w : World) (g cap : Nat) (hl : l.length ≤ 1000000) (hg : row? w g = some (LV l)) :
    Calls Try.prog 19 #[.slice (some ⟨g, 0, none⟩) l.length cap] w fun e w' => e = .returned (.agg (DV (joinL l))) ∧ Below w.heap.size w w' := by
  have hlt := row_lt hg
  go_enter Try.func19, Try.ntmps19
  go_wp2
  go_loopw [10] (fun c wr => ∃ k : Nat, k ≤ l.length ∧ c = .int .i64 k ∧ row? wr w.heap.size = some (DV fun _ => 0) ∧ row? wr (w.heap.size + 1) = some (DV (joinL (l.take k))) ∧ Below w.heap.size w wr ∧ w.heap.size + 2 ≤ wr.heap.size) (fun c _ => l.length - (intOf c).toNat)
  case atStart =>
    refine ⟨0, by omega, rfl, ?_, ?_, ((Below.refl _ _).alloc (Nat.le_refl _) _).alloc (by simp) _, by simp⟩
    · rw [row_alloc, if_neg (by simp), row_alloc, if_pos rfl]; rfl
    · rw [row_alloc, if_pos (by simp)]; rfl
  case round =>
    obtain ⟨k, hk, rfl, h2, h3, hb, hz⟩ := hrel
    by_cases hkl : k < l.length
    · have hgr : row? wr g = some (LV l) := (row_below hb hlt).trans hg
      have hex := LV_piece l k hkl
      have hacc : joinL (l.take (k + 1)) = join2 (joinL (l.take k)) l[k] := by
        unfold joinL; rw [List.take_succ_eq_append_getElem hkl, List.foldl_append]; rfl
      have Hacc := Lib.hid hacc; clear hacc
      generalize l[k] = d at *
      generalize joinL (l.take k) = acc at *
      go_wp2
      obtain ⟨wo, rfl⟩ : ∃ wo : World, wo = wr := ⟨_, rfl⟩
      go_loopw [15] (fun c wi => ∃ j : Nat, j ≤ 7 ∧ c = .int .i64 j ∧ row? wi w.heap.size = some (DV fun _ => 0) ∧ row? wi (w.heap.size + 1) = some (DV (upTo j acc d)) ∧ Below w.heap.size w wi ∧ w.heap.size + 2 ≤ wi.heap.size) (fun c _ => 7 - (intOf c).toNat)
      case atStart =>
        refine ⟨0, by omega, rfl, ?_, ?_, hb.alloc (by omega) _, by simp; omega⟩
        · rw [row_alloc, if_neg (by omega)]; exact h2
        · rw [row_alloc, if_neg (by omega), h3]
          congr 2
      case round =>
        clear h2 h3 hb hz hgr hex
        obtain ⟨j, hj, rfl, h2, h3, hb, hz⟩ := hrel
        by_cases hj7 : j < 7
        · have hD1 := DV_get (upTo j acc d) j hj7
          have hD2 := DV_get d j hj7
          have hcell := row_cell h3
          have hfro := row_frozen h3
          have hst := upTo_step j acc d
          have Hst := Lib.hid hst; clear hst
          have H2 := Lib.hid h2; clear h2
          have H3 := Lib.hid h3; clear h3
          go_wp2
          go_roundw
          case rel =>
            refine ⟨j + 1, by omega, by go_num, ?_, ?_, hb.setCell (by simp) _, by simpa [World.setCell] using hz⟩
            · rw [row_setCell, if_neg (by omega)]; exact H2.out
            · rw [row_setCell, if_pos rfl, H3.out, ite_max]
              show some ((DV (upTo j acc d)).setIfInBounds j _) = _
              rw [DV_set, Hst.out]
          case measure => simp [intOf]; omega
        · obtain rfl : j = 7 := by omega
          have H2 := Lib.hid h2; clear h2
          have H3 := Lib.hid h3; clear h3
          go_wp2
          go_roundw
          case rel =>
            refine ⟨k + 1, by omega, by go_num, H2.out, ?_, hb, hz⟩
            rw [H3.out, Hacc.out]
            exact congrArg some (DV_congr fun i hi => by unfold upTo join2; rw [if_pos hi])
          case measure => simp [intOf]; omega
    · obtain rfl : k = l.length := by omega
      rw [List.take_length] at h3
      go_wp2
      refine ret_deps (joinL l) rfl rfl rfl ?_ ⟨rfl, below_setRow _ _ _ hb (Nat.le_refl _)⟩
      rw [row_setRow, if_pos rfl, h2]; rfl
set_option maxHeartbeats 1000000 in
theorem join_none (w : World) (c : Nat) :
    Calls Try.prog 19 #[.slice none 0 c] w fun e w' => e = .returned (.agg (DV fun _ => 0)) ∧ Below w.heap.size w w' := by
  go_enter Try.func19, Try.ntmps19
  have e0 : #[Value.int IntKind.i64 0, Value.int IntKind.i64 0, Value.int IntKind.i64 0, Value.int IntKind.i64 0, Value.int IntKind.i64 0, Value.int IntKind.i64 0, Value.int IntKind.i64 0] = DV fun _ => 0 := rfl
  go_wp2
  refine wp_loop_once ?_
  go_wp2
  refine ret_deps (fun _ => 0) rfl rfl rfl (by go_simp) ⟨rfl, ?_⟩
  exact ((Below.refl _ _).alloc (Nat.le_refl _) _).alloc (by simp) _
theorem upd_upd (d : Nat → Int) (i : Nat) (u v : Int) : upd (upd d i u) i v = upd d i v := by
  funext j; unfold upd; split <;> rfl
/-- the document's Join -/
def rjoin (a b : Nat → Int) : Nat → Int := fun i => max (max 0 (a i)) (b i)
theorem joinL_two (a b : Nat → Int) : joinL [a, b] = rjoin a b := rfl
def rjoinTo (j : Nat) (a b : Nat → Int) : Nat → Int := fun i => if i < j then rjoin a b i else 0
set_option maxHeartbeats 1000000 in
theorem rjoin_any (a b : Nat → Int) : Ans Try.prog 21 #[.agg (DV a), .agg (DV b)] (.agg (DV (rjoin a b))) := by
  intro w
  go_enter Try.func21, Try.ntmps21
  go_wp2
  go_loopw [6] (fun c wr => ∃ j : Nat, j ≤ 7 ∧ c = .int .i64 j ∧ row? wr w.heap.size = some (DV a) ∧ row? wr (w.heap.size + 1) = some (DV b) ∧ row? wr (w.heap.size + 1 + 1) = some (DV fun _ => 0) ∧ row? wr (w.heap.size + 1 + 1 + 1) = some (DV (rjoinTo j a b)) ∧ Below w.heap.size w wr) (fun c _ => 7 - (intOf c).toNat)
  case atStart =>
    refine ⟨0, by omega, rfl, ?_, ?_, ?_, ?_, (((Below.refl _ _).alloc (Nat.le_refl _) _).alloc (by simp) _).alloc (by simp; omega) _ |>.alloc (by simp; omega) _⟩
    · rw [row_alloc, if_neg (by simp; omega), row_alloc, if_neg (by simp; omega), row_alloc, if_neg (by simp), row_alloc, if_pos rfl]
    · rw [row_alloc, if_neg (by simp), row_alloc, if_neg (by simp), row_alloc, if_pos (by simp)]
    · rw [row_alloc, if_neg (by simp), row_alloc, if_pos (by simp)]; rfl
    · rw [row_alloc, if_pos (by simp)]; rfl
  case round =>
    obtain ⟨j, hj, rfl, h1, h2, h3, h4, hb⟩ := hrel
    by_cases hj7 : j < 7
    · have hA := DV_get a j hj7
      have hB := DV_get b j hj7
      have hO := DV_get (rjoinTo j a b) j hj7
      rw [show rjoinTo j a b j = 0 from if_neg (by omega)] at hO
      have c1 := row_cell h1
      have c2 := row_cell h2
      have c4 := row_cell h4
      have f4 := row_frozen h4
      have hst : ∀ v : Int, v = max (max 0 (a j)) (b j) → upd (rjoinTo j a b) j v = rjoinTo (j + 1) a b := by
        intro v hv; subst hv; funext i; unfold upd rjoinTo rjoin
        by_cases h : i = j
        · subst h; simp
        · rw [if_neg h]
          by_cases h2 : i < j
          · rw [if_pos h2, if_pos (by omega)]
          · rw [if_neg h2, if_neg (by omega)]
      have H1 := Lib.hid h1; clear h1
      have H2 := Lib.hid h2; clear h2
      have H3 := Lib.hid h3; clear h3
      have H4 := Lib.hid h4; clear h4
      by_cases ha : 0 < a j
      · by_cases hab : a j < b j
        · have e := hst (b j) (by omega)
          have E := Lib.hid e; clear e hst
          go_wp2
          go_quiet (fail)
          go_wp2
          go_quiet (fail)
          go_wp2
          go_roundw
          case rel =>
            refine ⟨j + 1, by omega, by go_num, ?_, ?_, ?_, ?_, ((below_drewN ((below_drewN hb _).setCell (by simp; omega) _) _).setCell (by simp; omega) _)⟩
            · rw [row_setCell, if_neg (by omega), row_drewN, row_setCell, if_neg (by omega), row_drewN]; exact H1.out
            · rw [row_setCell, if_neg (by omega), row_drewN, row_setCell, if_neg (by omega), row_drewN]; exact H2.out
            · rw [row_setCell, if_neg (by omega), row_drewN, row_setCell, if_neg (by omega), row_drewN]; exact H3.out
            · rw [row_setCell, if_pos rfl, row_drewN, row_setCell, if_pos rfl, row_drewN, H4.out]
              simp only [Option.map_some, DV_set, upd_upd, E.out]
          case measure => simp [intOf]; omega
        · have e := hst (a j) (by omega)
          have E := Lib.hid e; clear e hst
          go_wp2
          go_quiet (fail)
          go_wp2
          go_quiet (fail)
          go_wp2
          go_roundw
          case rel =>
            refine ⟨j + 1, by omega, by go_num, ?_, ?_, ?_, ?_, (below_drewN ((below_drewN hb _).setCell (by simp; omega) _) _)⟩
            · rw [row_drewN, row_setCell, if_neg (by omega), row_drewN]; exact H1.out
            · rw [row_drewN, row_setCell, if_neg (by omega), row_drewN]; exact H2.out
            · rw [row_drewN, row_setCell, if_neg (by omega), row_drewN]; exact H3.out
            · rw [row_drewN, row_setCell, if_pos rfl, row_drewN, H4.out]
              simp only [Option.map_some, DV_set, E.out]
          case measure => simp [intOf]; omega
      · by_cases hab : 0 < b j
        · have e := hst (b j) (by omega)
          have E := Lib.hid e; clear e hst
          go_wp2
          go_quiet (fail)
          go_wp2
          go_quiet (fail)
          go_wp2
          go_roundw
          case rel =>
            refine ⟨j + 1, by omega, by go_num, ?_, ?_, ?_, ?_, ((below_drewN hb _).setCell (by simp; omega) _)⟩
            · rw [row_setCell, if_neg (by omega), row_drewN]; exact H1.out
            · rw [row_setCell, if_neg (by omega), row_drewN]; exact H2.out
            · rw [row_setCell, if_neg (by omega), row_drewN]; exact H3.out
            · rw [row_setCell, if_pos rfl, row_drewN, H4.out]
              simp only [Option.map_some, DV_set, E.out]
          case measure => simp [intOf]; omega
        · have e : rjoinTo j a b = rjoinTo (j + 1) a b := by
            rw [← hst 0 (by omega)]; funext i; unfold upd; split
            · rename_i h; subst h; exact if_neg (by omega)
            · rfl
          have E := Lib.hid e; clear e hst
          go_wp2
          go_quiet (fail)
          go_wp2
          go_quiet (fail)
          go_wp2
          go_roundw
          case rel =>
            refine ⟨j + 1, by omega, by go_num, ?_, ?_, ?_, ?_, (below_drewN hb _)⟩
            · exact H1.out
            · exact H2.out
            · exact H3.out
            · rw [← E.out]; exact H4.out
          case measure => simp [intOf]; omega
    · obtain rfl : j = 7 := by omega
      go_wp2
      refine ret_deps (rjoin a b) rfl rfl rfl ?_ ⟨rfl, below_setRow _ _ _ hb (by omega)⟩
      rw [row_setRow, if_pos rfl, h3]
      exact congrArg some (DV_congr fun i hi => by unfold rjoinTo; rw [if_pos hi])
end Go.Proofs.Ytnjnafmonijlnaa
