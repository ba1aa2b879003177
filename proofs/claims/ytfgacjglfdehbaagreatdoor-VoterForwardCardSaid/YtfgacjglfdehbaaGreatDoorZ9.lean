/- Several texts in one. -/
import Derived.Test.YtfgacjglfdehbaaGreatDoorZ6
import Derived.Test.YtfgacjglfdehbaaGreatDoorZ8
import Derived.Test.YtfgacjglfdehbaaGreatDoorZ2
import Derived.Maps.OwnSet
/- Things in memory, in another order that is known. Nothing of the program stands here. -/
namespace Go.Proofs.YtfgacjglfdehbaaGreatDoor
open Go.RowKit
theorem Sts.ordr {w W : World} {F : Nat → Prop} {L L' : List Res} (h : Sts w F W L) (p : List Nat) (hp : p.isPerm (List.range p.length) = true := by rfl) (e : pickL L p = L' := by rfl) : Sts w F W L' := by
  rw [← e]; exact h.perm (pick_perm L p hp)
end Go.Proofs.YtfgacjglfdehbaaGreatDoor
/- The document's layer 9: items, and what is known of each: that is known. -/
namespace Go.Proofs.YtfgacjglfdehbaaGreatDoor
open Go.RowKit
set_option linter.unusedVariables false
set_option maxRecDepth 20000
attribute [local go_sem] row_alloc row_drew row_drewN row_ext row_setCell row_setRow size_ext setRow_alloc setRow_drew loadOf storeOf piece_lit loadVal_at storeVal_at allOne_lit buildOf buildRes_some
attribute [local go_sem high] cell_alloc frozen_alloc setCell_alloc cell_ext frozen_ext cell_setRow frozen_setRow
attribute [local go_sem ↓] TDeed_ld0 TDeed_st0 TDeed_fd0 TDeed_bd0
attribute [local go_sem] TDeed_size TDeed_one TDeed_piece TDeed_c0 TDeed_c1 TDeed_c2 TDeed_c3 TDeed_c4 TDeed_c5 TDeed_set_kind TDeed_set_key TDeed_set_val TDeed_set_ver TDeed_set_ses TDeed_set_num TDeed_ld TDeed_st TDeed_f_kind TDeed_f_key TDeed_f_val TDeed_f_ver TDeed_f_ses TDeed_f_num TDeed_bd TDeed_fl TDeed_fl_kind TDeed_fl_key TDeed_fl_val TDeed_fl_ver TDeed_fl_ses TDeed_fl_num
attribute [local go_sem high] TDeed_eql TDeed_neq
attribute [local go_sem ↓] index_deps0 load_deps0 store_deps0
attribute [local go_sem] DV_piece DV_size DV_one index_deps load_deps store_deps
attribute [local go_sem high] TDeps_eql TDeps_neq
attribute [local go_sem ↓] TCall_ld0 TCall_st0 TCall_fd0 TCall_bd0
attribute [local go_sem] TCall_size TCall_one TCall_piece TCall_c0 TCall_c1 TCall_c2 TCall_c3 TCall_c4 TCall_c5 TCall_c6 TCall_c7 TCall_c8 TCall_c9 TCall_c10 TCall_c11 TCall_c12 TCall_c13 TCall_p_deed TCall_put_deed TCall_p_deps TCall_put_deps TCall_set_seq TCall_ld TCall_st TCall_f_deed TCall_f_deps TCall_f_seq TCall_bd TCall_fl TCall_fl_deed TCall_fl_deps TCall_fl_seq
attribute [local go_sem high] TCall_eql TCall_neq
attribute [local go_sem ↓] TItem_ld0 TItem_st0 TItem_fd0 TItem_bd0
attribute [local go_sem] TItem_size TItem_one TItem_piece TItem_c0 TItem_c1 TItem_set_rep TItem_set_num TItem_ld TItem_st TItem_f_rep TItem_f_num TItem_bd TItem_fl TItem_fl_rep TItem_fl_num
attribute [local go_sem high] TItem_eql TItem_neq
attribute [local go_sem ↓] TBallot_ld0 TBallot_st0 TBallot_fd0 TBallot_bd0
attribute [local go_sem] TBallot_size TBallot_one TBallot_piece TBallot_c0 TBallot_c1 TBallot_set_round TBallot_set_rep TBallot_ld TBallot_st TBallot_f_round TBallot_f_rep TBallot_bd TBallot_fl TBallot_fl_round TBallot_fl_rep
attribute [local go_sem high] TBallot_eql TBallot_neq
attribute [local go_sem ↓] TInst_ld0 TInst_st0 TInst_fd0 TInst_bd0
attribute [local go_sem] TInst_size TInst_one TInst_piece TInst_c0 TInst_c1 TInst_c2 TInst_c3 TInst_c4 TInst_c5 TInst_c6 TInst_c7 TInst_c8 TInst_c9 TInst_c10 TInst_c11 TInst_c12 TInst_c13 TInst_c14 TInst_c15 TInst_c16 TInst_c17 TInst_c18 TInst_c19 TInst_p_prom TInst_put_prom TInst_p_vote TInst_put_vote TInst_set_status TInst_p_call TInst_put_call TInst_set_same TInst_ld TInst_st TInst_f_prom TInst_f_vote TInst_f_status TInst_f_call TInst_f_same TInst_bd TInst_fl TInst_fl_prom TInst_fl_vote TInst_fl_status TInst_fl_call TInst_fl_same
attribute [local go_sem high] TInst_eql TInst_neq
attribute [local go_sem ↓] inst_slice0
attribute [local go_sem] inst_slice1
abbrev Ent := Item × Inst
def KV (e : Ent) : Array Value := IV e.1
def WV (e : Ent) : Array Value := NV e.2
theorem KV_size (e : Ent) : (KV e).size = 2 := rfl
theorem WV_size (e : Ent) : (WV e).size = 20 := rfl
/-- A book in block b: its items, and what is known of each. -/
def bookR (b : Nat) (L : List Ent) : Res := exR fun q : Value × Value => packR [rowR b #[q.1, q.2], vecR 32 2 q.1 L.length (vl KV L), vecR 52 20 q.2 L.length (vl WV L)]
noncomputable def setB : List Ent → Item → Inst → List Ent
  | [], x, i => [(x, i)]
  | e :: t, x, i => if eqA (IV x) (IV e.1) = true then (e.1, i) :: t else e :: setB t x i
noncomputable def atB : List Ent → Item → Inst
  | [], _ => noInst
  | e :: t, x => if eqA (IV x) (IV e.1) = true then e.2 else atB t x
section
variable {w W : World} {F : Nat → Prop} {R : List Res} {b : Nat} {L : List Ent}
theorem Sts.bookOpen (T : Sts w F W (bookR b L :: R)) : ∃ A c B d, Sts w F W (rowR b #[.slice A L.length c, .slice B L.length d] :: vecR 32 2 (.slice A L.length c) L.length (vl KV L) :: vecR 52 20 (.slice B L.length d) L.length (vl WV L) :: R) := by
  obtain ⟨⟨v, h⟩, T⟩ := T.open
  have T : Sts w F W (rowR b #[v, h] :: vecR 32 2 v L.length (vl KV L) :: vecR 52 20 h L.length (vl WV L) :: R) := T.unpack
  obtain ⟨A, c, rfl⟩ := vec_shape2 T.drop
  obtain ⟨B, d, rfl⟩ := vec_shape2 T.drop.drop
  exact ⟨A, c, B, d, T⟩
theorem Sts.bookShut {v h : Value} (T : Sts w F W (rowR b #[v, h] :: vecR 32 2 v L.length (vl KV L) :: vecR 52 20 h L.length (vl WV L) :: R)) : Sts w F W (bookR b L :: R) :=
  (Sts.pack (L := [rowR b #[v, h], vecR 32 2 v L.length (vl KV L), vecR 52 20 h L.length (vl WV L)]) T).close (v, h)
theorem Sts.bookNew (T : Sts w F W R) : Sts w F (W.alloc (.cells #[.slice none 0 0, .slice none 0 0] 71)) (bookR W.heap.size [] :: R) := by
  have T1 := ((T.new #[.slice none 0 0, .slice none 0 0] 71).vecNil 52 20).vecNil 32 2
  exact Sts.bookShut (L := []) (v := .slice none 0 0) (h := .slice none 0 0) (T1.ordr [2, 0, 1])
end
theorem vl_congr {α : Type} {V : α → Array Value} : ∀ {l m : List α}, l.map V = m.map V → vl V l = vl V m := fun {l m} h => by
  have hf : ∀ l : List α, flatV V l = (l.map V).foldr (· ++ ·) #[] := fun l => by
    induction l with
    | nil => rfl
    | cons a l ih => simp [flatV, ih]
  unfold vl
  rw [hf, hf, h]
theorem setB_at : ∀ {L : List Ent} {k : Nat} {x : Item} {i : Inst} (hk : k < L.length), (∀ j (h : j < L.length), j < k → eqA (IV x) (IV L[j].1) = false) → eqA (IV x) (IV L[k].1) = true → setB L x i = L.set k (L[k].1, i)
  | [], k, _, _, hk, _, _ => by simp at hk
  | e :: t, 0, x, i, hk, _, h => by
    simp at h
    simp [setB, h]
  | e :: t, k + 1, x, i, hk, hn, h => by
    have h0 := hn 0 (by simp) (by omega)
    simp at h0
    have h1 := setB_at (L := t) (k := k) (x := x) (i := i) (by simpa using hk) (fun j hj hjk => by have := hn (j + 1) (by simpa using hj) (by omega); simpa using this) (by simpa using h)
    simp [setB, h0, h1]
theorem setB_new : ∀ {L : List Ent} {x : Item} {i : Inst}, (∀ j (h : j < L.length), eqA (IV x) (IV L[j].1) = false) → setB L x i = L ++ [(x, i)]
  | [], _, _, _ => rfl
  | e :: t, x, i, hn => by
    have h0 := hn 0 (by simp)
    simp at h0
    have h1 := setB_new (L := t) (x := x) (i := i) fun j hj => by have := hn (j + 1) (by simpa using hj); simpa using this
    simp [setB, h0, h1]
theorem item_slice0 (len : Nat) (parts : Array (Nat × Value)) : Instr.buildSlice 62 len parts = buildSem 62 len parts := rfl
theorem item_slice1 (w : World) (x : Item) : (buildSem 62 1 #[(0, .agg (IV x))]).run Tryz.prog w = .ok (.slice (some ⟨w.heap.size, 0, none⟩) 1 1) (w.alloc (.cells (IV x) 32)) :=
  build_slice1 Tryz.underlying62 (z := .agg (IV noItem)) (n := 2) (by kernel_rfl) (by omega) w (TItem_size x) (by omega)
attribute [local go_sem ↓] item_slice0
attribute [local go_sem] item_slice1
theorem item_i : ∃ i, Tryz.prog.info? 32 = some i ∧ i.zero = some (.agg (IV noItem)) ∧ i.size = 2 ∧ i.bytes = 16 := by
  have h : (Tryz.prog.info? 32).map (fun i => (i.zero, i.size, i.bytes)) = some (some (.agg (IV noItem)), 2, 16) := by kernel_rfl
  cases hi : Tryz.prog.info? 32 with
  | none => rw [hi] at h; simp at h
  | some i => rw [hi] at h; simp at h; exact ⟨i, rfl, h.1, h.2.1, h.2.2⟩
set_option maxHeartbeats 4000000 in
theorem bookSetD (b : Nat) (L : List Ent) (hL : L.length ≤ 1000000) (x : Item) (i : Inst) : Does Tryz.prog 18 #[.pointer (some ⟨b, 0, none⟩), .agg (IV x), .agg (NV i)] [bookR b L] (.tuple #[]) [bookR b (setB L x i)] := by
  intro W G hS
  obtain ⟨A, c, B, d, T⟩ := (Sts.start hS).bookOpen
  have T := ((T.new (IV x) 32).new (NV i) 52).ord [2, 0, 1]
  simp only [World.size_alloc] at T
  clear hS
  generalize hg1 : W.heap.size = g1 at *
  have r0 := T.row; have l0 := row_lt r0; have c0 := row_cell r0 0
  go_enter Tryz.func18, Tryz.ntmps18
  go_wp2_with fail
  generalize (W.alloc _).alloc _ = w1 at *
  clear r0 l0 c0
  have HT0 := Lib.hid T
  go_loopw [13] (fun s wr => ∃ k : Nat, k ≤ L.length ∧ s = .int .i64 k ∧ (∀ j (h : j < L.length), j < k → eqA (IV x) (IV L[j].1) = false) ∧ Sts W G wr [rowR b #[.slice A L.length c, .slice B L.length d], rowR (g1 + 1) (NV i), rowR g1 (IV x), vecR 32 2 (.slice A L.length c) L.length (vl KV L), vecR 52 20 (.slice B L.length d) L.length (vl WV L)]) (fun s _ => L.length - (intOf s).toNat)
  case atStart => exact ⟨0, Nat.zero_le _, rfl, fun j _ h => by omega, HT0.out⟩
  case round =>
    clear T HT0
    obtain ⟨k, hk, rfl, hno, T⟩ := hrel
    have HNO := Lib.hid hno; clear hno
    by_cases hkl : k < L.length
    · obtain ⟨A', c', hv, hA, -, hAa⟩ := vec_rows KV_size T.drop.drop.drop (by omega) (by omega)
      obtain ⟨rfl, -, rfl⟩ := Value.slice.inj hv
      cases A with
      | none => rw [hA.nil rfl] at hkl; simp at hkl
      | some a =>
        obtain ⟨ga, rfl⟩ := hAa a rfl
        have hld := hA.load (P := Tryz.prog) (T := 32) KV_size TItem_und rfl (by kernel_rfl) (Below.refl _ _) rfl hkl
        rw [add_none, Nat.zero_add] at hld
        replace hld : loadVal Tryz.prog 32 2 wr (.pointer (some ⟨ga, k * 2, none⟩)) = .ok (.agg (IV L[k].1)) wr := hld
        clear hA hAa hv
        have hkl2 : (k : Int) < (L.length : Int) := by omega
        have hk0 : (0 : Int) ≤ (k : Int) := by omega
        have r1 := T.row2; have l1 := row_lt r1
        have T2 := T.new (IV L[k].1) 32
        have HT := Lib.hid T; have HT2 := Lib.hid T2
        clear T T2
        cases he : eqA (IV x) (IV L[k].1)
        case false =>
          go_wp2
          go_roundw
          case rel => exact ⟨k + 1, by omega, by go_num, fun j hj hjk => by
            by_cases e : j = k
            · subst e; exact he
            · exact HNO.out j hj (by omega), HT2.out.drop⟩
          case measure => simp [intOf]; omega
        case true =>
          go_wp2_with fail
          have T := HT2.out.ord [1, 2, 3, 4, 0, 5]
          clear HT HT2 hld r1 l1
          generalize wr.alloc _ = w2 at *
          generalize wr.heap.size = gy at *
          have T1 := T.ord [5, 0, 1, 2, 3, 4]
          obtain ⟨gv, cv, cur, hv1, rv, sv, SV⟩ := vec_at WV_size T1.drew (by omega) hkl
          injection hv1 with hv1 _ hv2
          subst hv1 hv2
          have T2 := SV (L[k].1, i)
          have hw2 : vl WV (L.set k (L[k].1, i)) = vl WV (L.set k (L[k].1, i)) := rfl
          have hk2 : vl KV L = vl KV (L.set k (L[k].1, i)) := vl_congr (by
            apply List.ext_getElem (by simp)
            intro j h1 h2
            simp only [List.getElem_map, List.getElem_set]
            split
            · rename_i e; subst e; rfl
            · rfl)
          have hset := setB_at (i := i) hkl HNO.out he
          have hll : (L.set k (L[k].1, i)).length = L.length := List.length_set
          have TF : Sts W G (w2.drew.setRow gv (splice cur (k * 20) (WV (L[k].1, i)))) [bookR b (setB L x i)] := by
            rw [hset]
            have T3 := (T2.ord [2, 3, 5, 1, 4, 0]).drop.drop.drop
            rw [hk2, ← hll] at T3
            exact Sts.bookShut T3
          have e20 : WV (L[k].1, i) = NV i := rfl
          rw [e20] at TF
          have FS : ∀ W' R' r, Sts W G W' (r :: rowR b #[.slice (some ⟨ga, 0, none⟩) L.length c, .slice (some ⟨gv, 0, none⟩) L.length d] :: rowR (g1 + 1) (NV i) :: R') → (W'.cell? ⟨b, 1, none⟩ = some (.slice (some ⟨gv, 0, none⟩) L.length d) ∧ row? W' (g1 + 1) = some (NV i)) := fun W' R' r T => ⟨row_cell T.row1 1, T.row2⟩
          have S0 := FS _ _ _ T1.drew
          have S1 := FS _ _ _ T2
          rw [e20] at S1
          have hsz : (NV i).size = 20 := rfl
          have z1 : row? w2 gv = some cur := rv
          have z4 := row_lt z1
          have HTF := Lib.hid TF; have HS1 := Lib.hid S1
          clear FS T T1 T2 TF S1 SV hset hll hk2 hw2 he e20 HNO rv
          have hkk : (k : Int) < (L.length : Int) := by omega
          refine wp_region_held_drew (S := fun W' => (W'.cell? ⟨b, 1, none⟩ = some (.slice (some ⟨gv, 0, none⟩) L.length d) ∧ row? W' (g1 + 1) = some (NV i))) (by kernel_rfl) S0 (fun hHeld => ?_)
          clear S0
          refine wpAnyH_take (i := 0) (oi := _) (v := ?_) rfl (by kernel_rfl) (by kernel_rfl) (by kernel_rfl) (fun _ _ _ h => h) (Or.inl ⟨by kernel_rfl, ?_⟩) (by assumption) ?_
          rotate_left
          · (intro w hSw; (try dsimp only at hSw); go_simp; try (with_reducible rfl))
          simp only [Act.put, List.getElem_toArray, List.getElem_cons_zero, List.setIfInBounds_toArray, List.set_cons_zero, List.set_cons_succ]
          refine wpAnyH_take (i := 1) (oi := _) (v := ?_) rfl (by kernel_rfl) (by kernel_rfl) (by kernel_rfl) (fun _ _ _ h => h) (Or.inl ⟨by kernel_rfl, ?_⟩) (by assumption) ?_
          rotate_left
          · (intro w hSw; (try dsimp only at hSw); go_simp; try (with_reducible rfl))
          simp only [Act.put, List.getElem_toArray, List.getElem_cons_succ, List.getElem_cons_zero, List.setIfInBounds_toArray, List.set_cons_zero, List.set_cons_succ]
          refine wpAnyH_take (i := 2) (oi := _) (v := ?_) rfl (by kernel_rfl) (by kernel_rfl) (by kernel_rfl) (fun _ _ _ h => h) (Or.inl ⟨by kernel_rfl, ?_⟩) (by assumption) ?_
          rotate_left
          · (intro w hSw; (try dsimp only at hSw); go_simp; try (with_reducible rfl))
          simp only [Act.put, List.getElem_toArray, List.getElem_cons_succ, List.getElem_cons_zero, List.setIfInBounds_toArray, List.set_cons_zero, List.set_cons_succ]
          refine wpAnyH_take (i := 3) (oi := _) (v := ?_) rfl (by kernel_rfl) (by kernel_rfl) (by kernel_rfl) (fun _ _ _ h => h) (Or.inl ⟨by kernel_rfl, ?_⟩) (by assumption) ?_
          rotate_left
          · (intro w hSw; (try dsimp only at hSw); go_simp; try (with_reducible rfl))
          simp only [Act.put, List.getElem_toArray, List.getElem_cons_succ, List.getElem_cons_zero, List.setIfInBounds_toArray, List.set_cons_zero, List.set_cons_succ]
          refine wpAnyH_take (i := 4) (oi := _) (v := ?_) rfl (by kernel_rfl) (by kernel_rfl) (by kernel_rfl) (fun _ _ _ h => h) (Or.inl ⟨by kernel_rfl, ?_⟩) (by assumption) ?_
          rotate_left
          · (intro w hSw; (try dsimp only at hSw); go_simp; try (with_reducible rfl))
          simp only [Act.put, List.getElem_toArray, List.getElem_cons_succ, List.getElem_cons_zero, List.setIfInBounds_toArray, List.set_cons_zero, List.set_cons_succ]
          refine wpAnyH_take (i := 5) (oi := _) (v := ?_) rfl (by kernel_rfl) (by kernel_rfl) (by kernel_rfl) (fun _ _ _ h => h) (Or.inl ⟨by kernel_rfl, ?_⟩) (by assumption) ?_
          rotate_left
          · (intro w hSw; (try dsimp only at hSw); go_simp; try (with_reducible rfl))
          simp only [Act.put, List.getElem_toArray, List.getElem_cons_succ, List.getElem_cons_zero, List.setIfInBounds_toArray, List.set_cons_zero, List.set_cons_succ]
          refine wpAnyH_take (i := 6) (oi := _) (v := ?_) rfl (by kernel_rfl) (by kernel_rfl) (by kernel_rfl) (fun _ _ _ h => h) (Or.inl ⟨by kernel_rfl, ?_⟩) (by assumption) ?_
          rotate_left
          · (intro w hSw; (try dsimp only at hSw); go_simp; try (with_reducible rfl))
          simp only [Act.put, List.getElem_toArray, List.getElem_cons_succ, List.getElem_cons_zero, List.setIfInBounds_toArray, List.set_cons_zero, List.set_cons_succ]
          refine wpAnyH_ready (rs := [7]) (by kernel_rfl) (by simp) ?_
          refine AllReadyH.cons (o := _) rfl (fun K hK => ?_) AllReadyH.nil
          by_cases hz : k * 20 = 0 ∧ cur.size = 20
          · have hZ : splice cur (k * 20) (NV i) = NV i := by
              rw [hz.1]
              refine append_of_gets (by rw [splice_size, hz.2]; rfl) fun q hq => ?_
              rw [splice_get, if_pos ⟨Nat.zero_le _, by omega, by omega⟩, Nat.sub_zero]
            have hs1 := HS1.out
            have htf := HTF.out
            rw [hZ] at hs1 htf
            have HS := Lib.hid hs1; have HF := Lib.hid htf
            clear HS1 HTF hs1 htf hZ
            go_simp
            refine hK.out _ _ ?_ (fun hHeld => ?_)
            · exact HS.out
            clear hK K
            refine wpAnyH_done (by kernel_rfl) ?_ _
            simp only [Exit.then]
            go_wp2
            refine bodyPost_ret (results_none rfl _ _ _) rfl ?_
            exact ⟨rfl, HF.out⟩
          · go_simp
            refine hK.out _ _ ?_ (fun hHeld => ?_)
            · exact HS1.out
            clear hK K
            refine wpAnyH_done (by kernel_rfl) ?_ _
            simp only [Exit.then]
            go_wp2
            refine bodyPost_ret (results_none rfl _ _ _) rfl ?_
            exact ⟨rfl, HTF.out⟩
    · obtain rfl : k = L.length := by omega
      have hno : ∀ j (h : j < L.length), eqA (IV x) (IV L[j].1) = false := fun j h => HNO.out j h h
      have hset := setB_new (i := i) hno
      have HSET := Lib.hid hset
      clear hno hset HNO hk hkl
      obtain ⟨i0, hi, hz0, hz1, hz2⟩ := item_i
      obtain ⟨i1, hi1, hy0, hy1, hy2⟩ := inst_i
      have honk : ∀ u ∈ (IV x).toList, u.oneCell' = true := by simp [IV, Value.oneCell']
      have honi : ∀ u ∈ (NV i).toList, u.oneCell' = true := by
        have := TInst_one i
        simp only [allOne, Array.all_eq_true_iff_forall_mem] at this
        intro u hu
        exact this u (by simpa using hu)
      have HOK := Lib.hid honk; have HOI := Lib.hid honi
      clear honk honi
      have h63 : L.length + 1 ≤ maxLen := by unfold maxLen; omega
      go_wp2_with fail
      have FS : ∀ W' v R', Sts W G W' (rowR b #[.slice A L.length c, v] :: rowR (g1 + 1) (NV i) :: rowR g1 (IV x) :: R') → (W'.cell? ⟨b, 0, none⟩ = some (.slice A L.length c) ∧ row? W' (g1 + 1) = some (NV i) ∧ row? W' g1 = some (IV x)) := fun W' v R' T => ⟨row_cell T.row 0, T.row1, T.row2⟩
      have S0 := FS _ _ _ T.drew
      have hm : ∀ W', (W'.cell? ⟨b, 0, none⟩ = some (.slice A L.length c) ∧ row? W' (g1 + 1) = some (NV i) ∧ row? W' g1 = some (IV x)) → (row? W' (g1 + 1) = some (NV i) ∧ row? W' g1 = some (IV x)) := fun _ h => h.2
      have HFS := Lib.hid FS; have HM := Lib.hid hm; have HT := Lib.hid T
      clear FS hm T
      refine wp_region_stage (fun W' => (W'.cell? ⟨b, 0, none⟩ = some (.slice A L.length c) ∧ row? W' (g1 + 1) = some (NV i) ∧ row? W' g1 = some (IV x))) (fun W' => row? W' (g1 + 1) = some (NV i) ∧ row? W' g1 = some (IV x)) 10 (by kernel_rfl) S0 (fun hHeld => ?_)
      clear S0
      refine wpAnyL_take0 (i := 0) (oi := _) (v := ?_) rfl (by kernel_rfl) (by kernel_rfl) (by kernel_rfl) (by kernel_rfl) (by kernel_rfl) (fun _ _ _ h => h) (Or.inl ⟨by kernel_rfl, ?_⟩) (by assumption) ?_
      rotate_left
      · (intro w hSw; (try dsimp only at hSw); go_simp; try (with_reducible rfl))
      simp only [Act.put, List.getElem_toArray, List.getElem_cons_zero, List.setIfInBounds_toArray, List.set_cons_zero, List.set_cons_succ]
      refine wpAnyL_take0 (i := 1) (oi := _) (v := ?_) rfl (by kernel_rfl) (by kernel_rfl) (by kernel_rfl) (by kernel_rfl) (by kernel_rfl) (fun _ _ _ h => h) (Or.inl ⟨by kernel_rfl, ?_⟩) (by assumption) ?_
      rotate_left
      · (intro w hSw; (try dsimp only at hSw); go_simp; try (with_reducible rfl))
      simp only [Act.put, List.getElem_toArray, List.getElem_cons_succ, List.getElem_cons_zero, List.setIfInBounds_toArray, List.set_cons_zero, List.set_cons_succ]
      refine wpAnyL_take0 (i := 2) (oi := _) (v := ?_) rfl (by kernel_rfl) (by kernel_rfl) (by kernel_rfl) (by kernel_rfl) (by kernel_rfl) (fun _ _ _ h => h) (Or.inl ⟨by kernel_rfl, ?_⟩) (by assumption) ?_
      rotate_left
      · (intro w hSw; (try dsimp only at hSw); go_simp; try (with_reducible rfl))
      simp only [Act.put, List.getElem_toArray, List.getElem_cons_succ, List.getElem_cons_zero, List.setIfInBounds_toArray, List.set_cons_zero, List.set_cons_succ]
      refine wpAnyL_take0 (i := 3) (oi := _) (v := ?_) rfl (by kernel_rfl) (by kernel_rfl) (by kernel_rfl) (by kernel_rfl) (by kernel_rfl) (fun _ _ _ h => h) (Or.inl ⟨by kernel_rfl, ?_⟩) (by assumption) ?_
      rotate_left
      · (intro w hSw; (try dsimp only at hSw); go_simp; try (with_reducible rfl))
      simp only [Act.put, List.getElem_toArray, List.getElem_cons_succ, List.getElem_cons_zero, List.setIfInBounds_toArray, List.set_cons_zero, List.set_cons_succ]
      refine wpAnyL_take0 (i := 4) (oi := _) (v := ?_) rfl (by kernel_rfl) (by kernel_rfl) (by kernel_rfl) (by kernel_rfl) (by kernel_rfl) (fun _ _ _ h => h) (Or.inl ⟨by kernel_rfl, ?_⟩) (by assumption) ?_
      rotate_left
      · (intro w hSw; (try dsimp only at hSw); go_simp; try (with_reducible rfl))
      simp only [Act.put, List.getElem_toArray, List.getElem_cons_succ, List.getElem_cons_zero, List.setIfInBounds_toArray, List.set_cons_zero, List.set_cons_succ]
      refine wpAnyL_take0 (i := 5) (oi := _) (v := ?_) rfl (by kernel_rfl) (by kernel_rfl) (by kernel_rfl) (by kernel_rfl) (by kernel_rfl) (fun _ _ _ h => h) (Or.inl ⟨by kernel_rfl, ?_⟩) (by assumption) ?_
      rotate_left
      · (intro w hSw; (try dsimp only at hSw); go_simp; try (with_reducible rfl))
      simp only [Act.put, List.getElem_toArray, List.getElem_cons_succ, List.getElem_cons_zero, List.setIfInBounds_toArray, List.set_cons_zero, List.set_cons_succ]
      refine wpAnyL_ready (rs := [6]) (by kernel_rfl) (by simp) ?_
      refine AllReadyL.cons0 (o := _) rfl (by kernel_rfl) (fun K hK => ?_) AllReadyL.nil
      have Ta := (HT.out.new (IV x) 32).drew
      have HTa := Lib.hid Ta; clear Ta HT
      go_simp
      refine hK.out _ _ ?_ (fun hHeld => ?_)
      · exact HFS.out _ _ _ HTa.out.drop
      clear hK K
      refine wpAnyL_ready (rs := [7]) (by kernel_rfl) (by simp) ?_
      refine AllReadyL.cons0 (o := _) rfl (by kernel_rfl) (fun K hK => ?_) AllReadyL.nil
      have Tb := HTa.out.ord [4, 0, 1, 2, 3]
      clear HTa
      refine step_append_vec (by rfl) _ _ _ (by rfl) 32 i0 _ 2 16 Tryz.underlying62 hi hz0 hz1 hz2 rfl (by omega) (.slice A L.length c) L.length (vl KV L) (by rfl) Tb ⟨wr.heap.size, 0, none⟩ 1 1 (IV x).toList (by rfl) (by rfl) (news_row Tb.row1) HOK.out (by omega) h63 (by omega) ?_
      intro gv' cap1 w2 T1
      have T1 := (T1.ord [2, 3, 4, 0, 5, 1])
      refine hK.out _ _ ?_ (fun hHeld => ?_)
      · exact HFS.out _ _ _ T1
      clear hK K Tb
      refine wpAnyL_take1a HM.out (i := 8) (oi := _) (v := ?_) rfl (by kernel_rfl) (by kernel_rfl) (by kernel_rfl) (by kernel_rfl) (by kernel_rfl) (fun _ _ _ h => h) (Or.inl ⟨by kernel_rfl, ?_⟩) (by assumption) ?_
      rotate_left
      · (intro w hSw; (try dsimp only at hSw); go_simp; try (with_reducible rfl))
      simp only [Act.put, List.getElem_toArray, List.getElem_cons_succ, List.getElem_cons_zero, List.setIfInBounds_toArray, List.set_cons_zero, List.set_cons_succ]
      refine wpAnyL_take0 (i := 9) (oi := _) (v := ?_) rfl (by kernel_rfl) (by kernel_rfl) (by kernel_rfl) (by kernel_rfl) (by kernel_rfl) (fun _ _ _ h => h) (Or.inl ⟨by kernel_rfl, ?_⟩) (by assumption) ?_
      rotate_left
      · (intro w hSw; (try dsimp only at hSw); go_simp; try (with_reducible rfl))
      simp only [Act.put, List.getElem_toArray, List.getElem_cons_succ, List.getElem_cons_zero, List.setIfInBounds_toArray, List.set_cons_zero, List.set_cons_succ]
      have hf := row_frozen T1.row 0
      have T2 := T1.setCell 0 (.slice (some ⟨gv', 0, none⟩) (L.length + 1) cap1)
      have HT2 := Lib.hid T2; clear T1 T2
      refine wpAnyL_ready (rs := [10]) (by kernel_rfl) (by simp) ?_
      refine AllReadyL.cons1 (o := _) rfl (by kernel_rfl) (fun K hK => ?_) AllReadyL.nil
      go_simp
      refine hK.out _ _ ?_ (fun hHeld => ?_)
      · exact ⟨HT2.out.row1, HT2.out.row2⟩
      clear hK K hf
      refine wpAnyL_done (by kernel_rfl) ?_ _
      simp only [Exit.then]
      have T3 : Sts W G (w2.setCell ⟨b, 0, none⟩ (.slice (some ⟨gv', 0, none⟩) (L.length + 1) cap1)) [rowR b #[.slice (some ⟨gv', 0, none⟩) (L.length + 1) cap1, .slice B L.length d], rowR (g1 + 1) (NV i), rowR g1 (IV x), vecR 32 2 (.slice (some ⟨gv', 0, none⟩) (L.length + 1) cap1) (L.length + 1) (vl KV L ++ (IV x).toList), vecR 52 20 (.slice B L.length d) L.length (vl WV L)] := by
        have T9 := (HT2.out.ord [5, 0, 1, 2, 3, 4]).drop
        exact T9
      have HT3 := Lib.hid T3; clear T3 HT2 HFS HM
      generalize w2.setCell _ _ = w3 at *
      go_wp2_with fail
      have T := HT3.out
      have FS : ∀ W' v R', Sts W G W' (rowR b #[v, .slice B L.length d] :: rowR (g1 + 1) (NV i) :: rowR g1 (IV x) :: R') → (W'.cell? ⟨b, 1, none⟩ = some (.slice B L.length d) ∧ row? W' (g1 + 1) = some (NV i) ∧ row? W' g1 = some (IV x)) := fun W' v R' T => ⟨row_cell T.row 1, T.row1, T.row2⟩
      have S0 := FS _ _ _ T.drew
      have hm : ∀ W', (W'.cell? ⟨b, 1, none⟩ = some (.slice B L.length d) ∧ row? W' (g1 + 1) = some (NV i) ∧ row? W' g1 = some (IV x)) → True := fun _ _ => trivial
      have HM := Lib.hid hm; clear hm
      have HFS := Lib.hid FS; have HT := Lib.hid T
      clear FS T HT3
      refine wp_region_stage (fun W' => (W'.cell? ⟨b, 1, none⟩ = some (.slice B L.length d) ∧ row? W' (g1 + 1) = some (NV i) ∧ row? W' g1 = some (IV x))) (fun W' => True) 10 (by kernel_rfl) S0 (fun hHeld => ?_)
      clear S0
      refine wpAnyL_take0 (i := 0) (oi := _) (v := ?_) rfl (by kernel_rfl) (by kernel_rfl) (by kernel_rfl) (by kernel_rfl) (by kernel_rfl) (fun _ _ _ h => h) (Or.inl ⟨by kernel_rfl, ?_⟩) (by assumption) ?_
      rotate_left
      · (intro w hSw; (try dsimp only at hSw); go_simp; try (with_reducible rfl))
      simp only [Act.put, List.getElem_toArray, List.getElem_cons_zero, List.setIfInBounds_toArray, List.set_cons_zero, List.set_cons_succ]
      refine wpAnyL_take0 (i := 1) (oi := _) (v := ?_) rfl (by kernel_rfl) (by kernel_rfl) (by kernel_rfl) (by kernel_rfl) (by kernel_rfl) (fun _ _ _ h => h) (Or.inl ⟨by kernel_rfl, ?_⟩) (by assumption) ?_
      rotate_left
      · (intro w hSw; (try dsimp only at hSw); go_simp; try (with_reducible rfl))
      simp only [Act.put, List.getElem_toArray, List.getElem_cons_succ, List.getElem_cons_zero, List.setIfInBounds_toArray, List.set_cons_zero, List.set_cons_succ]
      refine wpAnyL_take0 (i := 2) (oi := _) (v := ?_) rfl (by kernel_rfl) (by kernel_rfl) (by kernel_rfl) (by kernel_rfl) (by kernel_rfl) (fun _ _ _ h => h) (Or.inl ⟨by kernel_rfl, ?_⟩) (by assumption) ?_
      rotate_left
      · (intro w hSw; (try dsimp only at hSw); go_simp; try (with_reducible rfl))
      simp only [Act.put, List.getElem_toArray, List.getElem_cons_succ, List.getElem_cons_zero, List.setIfInBounds_toArray, List.set_cons_zero, List.set_cons_succ]
      refine wpAnyL_take0 (i := 3) (oi := _) (v := ?_) rfl (by kernel_rfl) (by kernel_rfl) (by kernel_rfl) (by kernel_rfl) (by kernel_rfl) (fun _ _ _ h => h) (Or.inl ⟨by kernel_rfl, ?_⟩) (by assumption) ?_
      rotate_left
      · (intro w hSw; (try dsimp only at hSw); go_simp; try (with_reducible rfl))
      simp only [Act.put, List.getElem_toArray, List.getElem_cons_succ, List.getElem_cons_zero, List.setIfInBounds_toArray, List.set_cons_zero, List.set_cons_succ]
      refine wpAnyL_take0 (i := 4) (oi := _) (v := ?_) rfl (by kernel_rfl) (by kernel_rfl) (by kernel_rfl) (by kernel_rfl) (by kernel_rfl) (fun _ _ _ h => h) (Or.inl ⟨by kernel_rfl, ?_⟩) (by assumption) ?_
      rotate_left
      · (intro w hSw; (try dsimp only at hSw); go_simp; try (with_reducible rfl))
      simp only [Act.put, List.getElem_toArray, List.getElem_cons_succ, List.getElem_cons_zero, List.setIfInBounds_toArray, List.set_cons_zero, List.set_cons_succ]
      refine wpAnyL_take0 (i := 5) (oi := _) (v := ?_) rfl (by kernel_rfl) (by kernel_rfl) (by kernel_rfl) (by kernel_rfl) (by kernel_rfl) (fun _ _ _ h => h) (Or.inl ⟨by kernel_rfl, ?_⟩) (by assumption) ?_
      rotate_left
      · (intro w hSw; (try dsimp only at hSw); go_simp; try (with_reducible rfl))
      simp only [Act.put, List.getElem_toArray, List.getElem_cons_succ, List.getElem_cons_zero, List.setIfInBounds_toArray, List.set_cons_zero, List.set_cons_succ]
      refine wpAnyL_ready (rs := [6]) (by kernel_rfl) (by simp) ?_
      refine AllReadyL.cons0 (o := _) rfl (by kernel_rfl) (fun K hK => ?_) AllReadyL.nil
      have Ta := (HT.out.new (NV i) 52).drew
      have HTa := Lib.hid Ta; clear Ta HT
      go_simp
      refine hK.out _ _ ?_ (fun hHeld => ?_)
      · exact HFS.out _ _ _ HTa.out.drop
      clear hK K
      refine wpAnyL_ready (rs := [7]) (by kernel_rfl) (by simp) ?_
      refine AllReadyL.cons0 (o := _) rfl (by kernel_rfl) (fun K hK => ?_) AllReadyL.nil
      have Tb := HTa.out.ord [5, 0, 1, 2, 3, 4]
      clear HTa
      refine step_append_vec (by rfl) _ _ _ (by rfl) 52 i1 _ 20 176 Tryz.underlying69 hi1 hy0 hy1 hy2 rfl (by omega) (.slice B L.length d) L.length (vl WV L) (by rfl) Tb ⟨w3.heap.size, 0, none⟩ 1 1 (NV i).toList (by rfl) (by rfl) (news_row Tb.row1) HOI.out (by omega) h63 (by omega) ?_
      intro gw' cap2 w4 T1
      have T1 := (T1.ord [2, 3, 4, 5, 0, 1])
      refine hK.out _ _ ?_ (fun hHeld => ?_)
      · exact HFS.out _ _ _ T1
      clear hK K Tb
      refine wpAnyL_take1a HM.out (i := 8) (oi := _) (v := ?_) rfl (by kernel_rfl) (by kernel_rfl) (by kernel_rfl) (by kernel_rfl) (by kernel_rfl) (fun _ _ _ h => h) (Or.inl ⟨by kernel_rfl, ?_⟩) (by assumption) ?_
      rotate_left
      · (intro w hSw; (try dsimp only at hSw); go_simp; try (with_reducible rfl))
      simp only [Act.put, List.getElem_toArray, List.getElem_cons_succ, List.getElem_cons_zero, List.setIfInBounds_toArray, List.set_cons_zero, List.set_cons_succ]
      refine wpAnyL_take0 (i := 9) (oi := _) (v := ?_) rfl (by kernel_rfl) (by kernel_rfl) (by kernel_rfl) (by kernel_rfl) (by kernel_rfl) (fun _ _ _ h => h) (Or.inl ⟨by kernel_rfl, ?_⟩) (by assumption) ?_
      rotate_left
      · (intro w hSw; (try dsimp only at hSw); go_simp; try (with_reducible rfl))
      simp only [Act.put, List.getElem_toArray, List.getElem_cons_succ, List.getElem_cons_zero, List.setIfInBounds_toArray, List.set_cons_zero, List.set_cons_succ]
      have hf := row_frozen T1.row 1
      have T2 := T1.setCell 1 (.slice (some ⟨gw', 0, none⟩) (L.length + 1) cap2)
      have HT2 := Lib.hid T2; clear T1 T2
      refine wpAnyL_ready (rs := [10]) (by kernel_rfl) (by simp) ?_
      refine AllReadyL.cons1 (o := _) rfl (by kernel_rfl) (fun K hK => ?_) AllReadyL.nil
      go_simp
      refine hK.out _ _ trivial (fun hHeld => ?_)
      clear hK K hf
      refine wpAnyL_done (by kernel_rfl) ?_ _
      try simp only [Exit.then]
      have T4 := (HT2.out.ord [1, 2, 5, 0, 3, 4]).drop.drop.drop
      have hl1 : (L ++ [(x, i)]).length = L.length + 1 := by simp
      have T5 : Sts W G (w4.setCell ⟨b, 1, none⟩ (.slice (some ⟨gw', 0, none⟩) (L.length + 1) cap2)) [bookR b (L ++ [(x, i)])] := by
        refine Sts.bookShut (v := .slice (some ⟨gv', 0, none⟩) (L.length + 1) cap1) (h := .slice (some ⟨gw', 0, none⟩) (L.length + 1) cap2) ?_
        rw [vl_snoc, vl_snoc, hl1]
        exact T4
      have HT5 := Lib.hid T5; clear T4 T5 HT2
      try go_wp2
      go_end0
      rw [HSET.out]
      exact ⟨rfl, HT5.out⟩
end Go.Proofs.YtfgacjglfdehbaaGreatDoor
/- A map of the call's own as a thing: a function from keys. Nothing of the program stands here. -/
namespace Go.Proofs.YtfgacjglfdehbaaGreatDoor
open Go.RowKit
open Go.Maps (Keyed)
set_option linter.unusedVariables false
/-- How an element reads: as itself. -/
def RV (v : Value) : Option (DataW Value × List MemPlace) := some (.held v, [])
/-- What is asked of keys. -/
structure KeyOk {α : Type} (P : Program) (k : TypeId) (kv : α → Value) (ok : α → Prop) : Prop where
  lit : ∀ x, ok x → ∃ l, keyOf P k (kv x) = some l
  inj : ∀ x y l, ok x → ok y → keyOf P k (kv x) = some l → keyOf P k (kv y) = some l → x = y
  keyed : Keyed P k
section
variable {α β : Type}
def mapIs (P : Program) (k : TypeId) (kv : α → Value) (ev : β → Value) (ok : α → Prop) (W : World) (b n : Nat) (f : α → Option β) : Prop :=
  ∃ D : DataW Value, W.ownsMap P k RV b n D ∧ ∀ x l, ok x → keyOf P k (kv x) = some l → match f x with
    | none => Maps.has D l = false
    | some y => Maps.has D l = true ∧ ∀ z, D.atKey l z = .held (ev y)
/-- A map in block b, of at most n entries. -/
def mapR (P : Program) (k : TypeId) (kv : α → Value) (ev : β → Value) (ok : α → Prop) (b n : Nat) (f : α → Option β) : Res where
  sat F W := (∀ j, F j ↔ j = b) ∧ mapIs P k kv ev ok W b n f
  stay := fun {F W W'} h ⟨hF, D, ⟨es, clock, hb, rest⟩, hD⟩ => ⟨hF, D, ⟨es, clock, by rw [h b ((hF b).2 rfl)]; exact hb, rest⟩, hD⟩
  lt := fun ⟨hF, D, hown, hD⟩ j hj => by rw [(hF j).1 hj]; exact hown.lt
variable {P : Program} {k t e : TypeId} {kv : α → Value} {ev : β → Value} {ok : α → Prop} {w W : World} {F : Nat → Prop} {R L : List Res} {b n : Nat} {f : α → Option β}
theorem mapIs.look1 (K : KeyOk P k kv ok) (ht : P.underlying t = some (.map k e)) {z : Value} (hz : ∀ w, (zeroValue e).run P w = .ok z w) (h : mapIs P k kv ev ok W b n f) (x : α) (hx : ok x) :
    (Instr.lookup t (.map (some b)) (kv x) false).run P W = .ok (match f x with | none => z | some y => ev y) W := by
  obtain ⟨D, hown, hD⟩ := h
  obtain ⟨l, hl⟩ := K.lit x hx
  obtain ⟨v, ps, hrun, hv⟩ := hown.lookup K.keyed ht (hz W) (zd := .held z) (zp := []) rfl hl
  have hd := hD x l hx hl
  unfold RV at hv
  simp only [Option.some.injEq, Prod.mk.injEq] at hv
  rw [hrun]
  cases hf : f x with
  | none =>
    rw [hf] at hd
    simp only at hd
    rw [Maps.atKey_of_not_has hd] at hv
    injection hv.1 with e1
    rw [e1]
  | some y =>
    rw [hf] at hd
    simp only at hd
    rw [hd.2] at hv
    injection hv.1 with e1
    rw [e1]
open Classical in
noncomputable def putF (f : α → Option β) (x : α) (y : β) : α → Option β := fun x' => if x' = x then some y else f x'
theorem putF_same (f : α → Option β) (x : α) (y : β) : putF f x y x = some y := by unfold putF; rw [if_pos rfl]
theorem putF_other (f : α → Option β) {x x' : α} (y : β) (h : x' ≠ x) : putF f x y x' = f x' := by unfold putF; rw [if_neg h]
theorem mapIs.put (K : KeyOk P k kv ok) (ht : P.underlying t = some (.map k e)) (h : mapIs P k kv ev ok W b n f) (hn : n < maxLen) (x : α) (hx : ok x) (y : β) :
    ∃ W', (Instr.mapUpdate t (.map (some b)) (kv x) (ev y)).run P W = .ok () W' ∧ mapIs P k kv ev ok W' b (n + 1) (putF f x y) ∧ W.grownBy W' (some b) := by
  obtain ⟨D, hown, hD⟩ := h
  obtain ⟨l, hl⟩ := K.lit x hx
  obtain ⟨W', hrun, hown', hg⟩ := hown.update K.keyed ht hn hl (d := .held (ev y)) (ps := []) (val := ev y) rfl
  have hk : WideAt.IsKeyLit l := K.keyed.key hl
  refine ⟨W', hrun, ⟨_, hown', fun x' l' hx' hl' => ?_⟩, hg⟩
  by_cases hxx : x' = x
  · subst hxx
    have : l' = l := Option.some.inj (hl'.symm.trans hl)
    subst this
    rw [putF_same]
    exact ⟨Maps.has_put_same hown.isMap hk _, fun z => Maps.atKey_put_same hown.isMap hk _ _⟩
  · have hne : l' ≠ l := fun e => hxx (K.inj x' x l hx' hx (e ▸ hl') hl)
    rw [putF_other f y hxx]
    have hd := hD x' l' hx' hl'
    cases hf : f x' with
    | none =>
      rw [hf] at hd
      simp only at hd ⊢
      rw [Maps.has_put_other hne]; exact hd
    | some y' =>
      rw [hf] at hd
      simp only at hd ⊢
      exact ⟨by rw [Maps.has_put_other hne]; exact hd.1, fun z => by rw [Maps.atKey_put_other hne]; exact hd.2 z⟩
theorem Sts.map (T : Sts w F W (mapR P k kv ev ok b n f :: R)) : mapIs P k kv ev ok W b n f := let ⟨_, ha⟩ := T.at0; ha.2
theorem Sts.mapNew (T : Sts w F W L) : Sts w F (W.alloc (.map #[] 0)) (mapR P k kv ev ok W.heap.size 0 (fun _ => none) :: L) := by
  obtain ⟨⟨G, hs, hG⟩, m⟩ := T.keep (.map #[] 0)
  obtain ⟨⟨G0, hs0, hg0⟩, m0⟩ := T
  have hlt := hs0.lt
  have hs1 : Sat (W.alloc (.map #[] 0)) L G0 := hs0.stay fun j hj => Below.heap_alloc _ _ _ (hlt j hj)
  refine ⟨⟨fun j => j = W.heap.size ∨ G0 j, ⟨fun j => j = W.heap.size, G0, ⟨fun _ => Iff.rfl, .map [], World.ownsMap_made W P k RV, fun x l _ _ => rfl⟩, hs1, ?_, fun _ => Iff.rfl⟩, ?_⟩, m⟩
  · rintro j rfl h; have := hlt _ h; omega
  · rintro j (rfl | h)
    · right; exact m0.size
    · exact hg0 j h
theorem Sts.mapPut (T : Sts w F W (mapR P k kv ev ok b n f :: R)) (K : KeyOk P k kv ok) (ht : P.underlying t = some (.map k e)) (hn : n < maxLen) (x : α) (hx : ok x) (y : β) :
    ∃ W', (Instr.mapUpdate t (.map (some b)) (kv x) (ev y)).run P W = .ok () W' ∧ Sts w F W' (mapR P k kv ev ok b (n + 1) (putF f x y) :: R) ∧ W'.heap.size = W.heap.size := by
  obtain ⟨D, hown, hD⟩ := T.map
  obtain ⟨l, hl⟩ := K.lit x hx
  obtain ⟨W1, hrun1, _, ht1⟩ := hown.store K.keyed ht hn hl (d := .held (ev y)) (ps := []) (val := ev y) rfl
  obtain ⟨W', hrun, hm, hg⟩ := T.map.put K ht hn x hx y
  have he : W1 = W' := by rw [hrun] at hrun1; injection hrun1 with _ e; exact e.symm
  refine ⟨W', hrun, T.turn fun A ha => ⟨fun j => j = b, ⟨fun _ => Iff.rfl, hm⟩, fun j hj => .inl ((ha.1 j).2 hj), hg.os, hg.tape, hg.output, hg.size, fun j hj hn => hg.block j hj fun e => hn ((ha.1 j).2 (by injection e))⟩, ?_⟩
  subst he
  obtain ⟨es, c, es', c', hb, rfl⟩ := ht1
  simp [Go.ChangeMaps.setBlock]
end
end Go.Proofs.YtfgacjglfdehbaaGreatDoor
