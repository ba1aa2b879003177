/- Several texts in one. -/
import Derived.Test.YtomlilkobhkoiaaGreatDoorQ13
import Derived.Test.YtomlilkobhkoiaaGreatDoorQ23
import Derived.Test.YtomlilkobhkoiaaGreatDoorQ8
import Derived.Test.YtomlilkobhkoiaaGreatDoorQ4
/- Layer 12: what stands on a plate (space.Open). -/
namespace Go.Proofs.YtomlilkobhkoiaaGreatDoor
open Go.RowKit Go.Shelf
set_option linter.unusedVariables false
set_option maxRecDepth 20000
attribute [local go_sem] Oper.semAt_some
attribute [local go_sem] row_alloc row_drew row_drewN row_ext row_setCell row_setRow size_ext setRow_alloc setRow_drew loadOf storeOf piece_lit loadVal_at storeVal_at allOne_lit buildOf buildRes_some
attribute [local go_sem high] cell_alloc frozen_alloc setCell_alloc cell_ext frozen_ext cell_setRow frozen_setRow
attribute [local go_sem ↓] TDeed_ld0 TDeed_st0 TDeed_fd0 TDeed_bd0
attribute [local go_sem] TDeed_size TDeed_one TDeed_piece TDeed_c0 TDeed_c1 TDeed_c2 TDeed_c3 TDeed_c4 TDeed_c5 TDeed_set_kind TDeed_set_key TDeed_set_val TDeed_set_ver TDeed_set_ses TDeed_set_num TDeed_ld TDeed_st TDeed_f_kind TDeed_f_key TDeed_f_val TDeed_f_ver TDeed_f_ses TDeed_f_num TDeed_bd TDeed_fl TDeed_fl_kind TDeed_fl_key TDeed_fl_val TDeed_fl_ver TDeed_fl_ses TDeed_fl_num
attribute [local go_sem high] TDeed_eql TDeed_neq
attribute [local go_sem ↓] index_deps0 load_deps0 store_deps0
attribute [local go_sem] DV_piece DV_size DV_one index_deps load_deps store_deps
attribute [local go_sem high] TDeps_eql TDeps_neq
attribute [local go_sem ↓] TCall_ld0 TCall_st0 TCall_fd0 TCall_bd0
attribute [local go_sem] TCall_size TCall_one TCall_piece TCall_c0 TCall_c1 TCall_c2 TCall_c3 TCall_c4 TCall_c5 TCall_c6 TCall_c7 TCall_c8 TCall_c9 TCall_c10 TCall_c11 TCall_c12 TCall_c13 TCall_p_deed TCall_put_deed TCall_p_deps TCall_put_deps TCall_set_seq TCall_ld TCall_st TCall_f_deed TCall_f_deps TCall_f_seq TCall_bd TCall_fl TCall_fl_deed TCall_fl_deps TCall_fl_seq
attribute [local go_sem high] TCall_eql TCall_neq
attribute [local go_sem ↓] TItem_ld0 TItem_st0 TItem_fd0 TItem_bd0
attribute [local go_sem] TItem_size TItem_one TItem_piece TItem_c0 TItem_c1 TItem_set_rep TItem_set_num TItem_ld TItem_st TItem_f_rep TItem_f_num TItem_bd TItem_fl TItem_fl_rep TItem_fl_num
attribute [local go_sem high] TItem_eql TItem_neq
attribute [local go_sem ↓] TBallot_ld0 TBallot_st0 TBallot_fd0 TBallot_bd0
attribute [local go_sem] TBallot_size TBallot_one TBallot_piece TBallot_c0 TBallot_c1 TBallot_set_round TBallot_set_rep TBallot_ld TBallot_st TBallot_f_round TBallot_f_rep TBallot_bd TBallot_fl TBallot_fl_round TBallot_fl_rep
attribute [local go_sem high] TBallot_eql TBallot_neq
attribute [local go_sem ↓] TInst_ld0 TInst_st0 TInst_fd0 TInst_bd0
attribute [local go_sem] TInst_size TInst_one TInst_piece TInst_c0 TInst_c1 TInst_c2 TInst_c3 TInst_c4 TInst_c5 TInst_c6 TInst_c7 TInst_c8 TInst_c9 TInst_c10 TInst_c11 TInst_c12 TInst_c13 TInst_c14 TInst_c15 TInst_c16 TInst_c17 TInst_c18 TInst_c19 TInst_p_prom TInst_put_prom TInst_p_vote TInst_put_vote TInst_set_status TInst_p_call TInst_put_call TInst_set_same TInst_ld TInst_st TInst_f_prom TInst_f_vote TInst_f_status TInst_f_call TInst_f_same TInst_bd TInst_fl TInst_fl_prom TInst_fl_vote TInst_fl_status TInst_fl_call TInst_fl_same
attribute [local go_sem high] TInst_eql TInst_neq
theorem mapR_calm {α β : Type} (P : Program) (k : TypeId) (kv : α → Value) (ev : β → Value) (ok : α → Prop) {B b : Nat} (h : b < B) (n : Nat) (f : α → Option β) : (mapR P k kv ev ok b n f).calm B := fun hs j hj => .inl (by rw [(hs.1 j).1 hj]; exact h)
theorem kmapR_calm {α β : Type} (P : Program) (kt e : TypeId) (size : Nat) (V : β → Array Value) (kv : α → Value) (ok : α → Prop) {B b : Nat} (h : b < B) (N : Nat) (f : α → List β) : (kmapR P kt e size V kv ok b N f).calm B :=
  exR_calm fun q => packR_calm (calmL_cons (mapR_calm _ _ _ _ _ h _ _) (calmL_cons (packR_calm fun r hr => by
    obtain ⟨x, _, rfl⟩ := List.mem_map.1 hr
    exact vecR_calm _ _ _ _ _ _) (calmL_nil _)))
theorem idxR_calm {B s lg bk bs : Nat} (h1 : bk < B) (h2 : bs < B) (I : Idx) : (idxR s lg bk bs I).calm B :=
  exR_calm fun q => packR_calm (calmL_cons (rowR_calm _ _ _) (calmL_cons (vecR_calm _ _ _ _ _ _) (calmL_cons (kmapR_calm _ _ _ _ _ _ _ h1 _ _) (calmL_cons (kmapR_calm _ _ _ _ _ _ _ h2 _ _) (calmL_nil _)))))
theorem mkMapS (t : TypeId) (w : World) : (Instr.makeMap t none).run Tryz.prog w = .ok (.map (some w.heap.size)) (w.alloc (.map #[] 0)) := rfl
attribute [local go_sem] mkMapS
theorem findS_len {I : Idx} {x : Item} {d : Deed} (h : IdxJ I) (hl : I.lists.length ≤ I.N + 1) (hN : I.N + 1 ≤ 1000000) : IdxOk (findS I x d) ∧ (findS I x d).N = I.N + 1 := by
  unfold findS
  split
  · exact ⟨⟨hN, h.keys, hl, fun k => Nat.le_succ_of_le (h.ses k)⟩, rfl⟩
  · refine ⟨⟨hN, h.keys, hl, fun k => ?_⟩, rfl⟩
    show (updK I.ses d.ses _ k).length ≤ I.N + 1
    by_cases e : k = d.ses
    · subst e; rw [updK_same, List.length_append]; have := h.ses d.ses; simp; omega
    · rw [updK_other _ _ e]; have := h.ses k; omega
theorem IdxOk.find {I : Idx} {x : Item} {d : Deed} (h : IdxOk I) (hN : I.N + 1 ≤ 1000000) : IdxOk (findM I x d) ∧ (findM I x d).N ≤ I.N + 1 := by
  unfold findM
  split
  · exact ⟨h, Nat.le_succ _⟩
  · split
    · obtain ⟨h1, h2⟩ := findS_len (I := { I with lists := I.lists ++ [x] }) (x := x) (d := d) ⟨h.N, fun k => Nat.le_succ_of_le (h.keys k), h.ses⟩ (by have := h.lists; simp; omega) hN
      exact ⟨h1, Nat.le_of_eq h2⟩
    · obtain ⟨h1, h2⟩ := findS_len (I := { I with keys := updK I.keys d.key (I.keys d.key ++ [x]) }) (x := x) (d := d) ⟨h.N, fun k => by
          show (updK I.keys d.key _ k).length ≤ I.N + 1
          by_cases e : k = d.key
          · subst e; rw [updK_same, List.length_append]; have := h.keys d.key; simp; omega
          · rw [updK_other _ _ e]; have := h.keys k; omega, h.ses⟩ (by have := h.lists; show I.lists.length ≤ I.N + 1; omega) hN
      exact ⟨h1, Nat.le_of_eq h2⟩
def idx0 : Idx := ⟨0, fun _ => [], [], fun _ => []⟩
theorem idx0_ok : IdxOk idx0 := ⟨by decide, fun _ => Nat.le_refl _, Nat.le_refl _, fun _ => Nat.le_refl _⟩
noncomputable def idxF (L : List Ent) : Idx := L.foldl (fun I e => findM I e.1 e.2.call.deed) idx0
theorem idxF_snoc (L : List Ent) (e : Ent) : idxF (L ++ [e]) = findM (idxF L) e.1 e.2.call.deed := by unfold idxF; rw [List.foldl_append]; rfl
theorem idxF_ok : ∀ (n : Nat) (L : List Ent), L.length = n → n ≤ 999999 → IdxOk (idxF L) ∧ (idxF L).N ≤ n
  | 0, L, h, _ => by
    have : L = [] := List.eq_nil_of_length_eq_zero h
    subst this
    exact ⟨idx0_ok, Nat.le_refl _⟩
  | n + 1, L, h, hn => by
    have hne : L ≠ [] := by rintro rfl; simp at h
    rw [← List.dropLast_concat_getLast hne, idxF_snoc]
    obtain ⟨h1, h2⟩ := idxF_ok n L.dropLast (by simp; omega) (by omega)
    obtain ⟨h3, h4⟩ := h1.find (x := (L.getLast hne).1) (d := (L.getLast hne).2.call.deed) (by omega)
    exact ⟨h3, by omega⟩
section
variable {w W : World} {F : Nat → Prop} {R : List Res} {l p g : Nat} {D : List UInt8} {safe : Nat} {m : RowsM}
def SpPost (w : World) (F : Nat → Prop) (R : List Res) (p : Nat) (D : List UInt8) (safe : Nat) (n : Int) (e : Ending) (W' : World) : Prop :=
  ∃ s lg g bk bs, e = .returned (.tuple #[.pointer (some ⟨s, 0, none⟩), .int .i64 0]) ∧ Sts w F W' (idxR s lg bk bs (idxF (ents (mK n (goT n D)))) :: (ledL lg p g (openD n D) (openF n D safe) (mK n (goT n D)) ++ R))
set_option maxHeartbeats 4000000 in
theorem spOpenT (T : Sts w F W (plR p D safe :: R)) (hD : D.length ≤ 65536) (n : Int) (hn : sizeB n = true) :
    Calls Tryz.prog 12 #[.pointer (some ⟨p, 0, none⟩), .int .i64 n] W (SpPost w F R p D safe n) := by
  have hnn := sizeB_n hn
  have hrows := mK_rows hnn D
  have HB := Lib.hid (openT2 T hD n hn); clear T
  unfold SpPost
  generalize mK n (goT n D) = m at *
  generalize openD n D = D1 at *
  generalize openF n D safe = f1 at *
  have HR := Lib.hid hrows; clear hrows
  refine (callsIn_wide (n := 4)).1 ?_
  refine callsIn_of_wp_marks Tryz.func12 rfl trivial ?_ rfl
  simp only [Tryz.ntmps12, List.size_toArray, List.length_cons, List.length_nil, Nat.reduceAdd, Nat.reduceSub, Array.replicate_succ, Array.replicate_zero, List.push_toArray, List.append_toArray, List.nil_append, List.cons_append]
  refine wpIn_wide.2 ?_
  go_wp2_with fail
  refine HB.out.mono ?_
  clear HB
  rintro e w1 ⟨lg, g, rfl, T⟩
  have T1 := ((((T.kmapNew (P := Tryz.prog) (kt := 9) (e := 33) (size := 2) (V := IV) (kv := strK) (ok := strKOk)).kmapNew (P := Tryz.prog) (kt := 3) (e := 33) (size := 2) (V := IV) (kv := intK) (ok := intKOk)).vecNil 33 2).new (spCells lg w1.heap.size (.slice none 0 0) (w1.heap.size + 1)) 92).new #[.pointer (some ⟨w1.heap.size + 1 + 1, 0, none⟩)] 37
  simp only [World.size_alloc] at T1
  have T1 : Sts w F _ (rowR (w1.heap.size + 1 + 1 + 1) #[.pointer (some ⟨w1.heap.size + 1 + 1, 0, none⟩)] :: rowR (w1.heap.size + 1 + 1) (spCells lg w1.heap.size (.slice none 0 0) (w1.heap.size + 1)) :: vecR 33 2 (.slice none 0 0) 0 [] :: sesR (w1.heap.size + 1) 0 (fun _ => []) :: keysR w1.heap.size 0 (fun _ => []) :: rowR lg (ledCells p g m.n) :: plR p D1 f1 :: rowsIR g m :: R) := T1
  have T1 := T1.ord [5, 0, 1, 2, 3, 4, 6, 7]
  have HT1 := Lib.hid T1
  clear T T1
  go_wp2_with fail
  refine (ledAllT HT1.out).mono ?_
  clear HT1
  rintro e w2 ⟨rfl, T⟩
  have HT := Lib.hid T; clear T
  go_wp2_with fail
  have T := HT.out; clear HT
  have lc := row_lt T.row
  simp only [World.size_alloc] at T lc ⊢
  generalize hc : w1.heap.size + 1 + 1 + 1 + 1 = c at *
  generalize hb : w1.heap.size + 1 + 1 + 1 = b at *
  generalize hs : w1.heap.size + 1 + 1 = s at *
  generalize hbs : w1.heap.size + 1 = bs at *
  generalize hbk : w1.heap.size = bk at *
  have h1 : bk < w2.heap.size + 2 := by omega
  have h2 : bs < w2.heap.size + 2 := by omega
  have HC := Lib.hid (And.intro h1 h2)
  clear hc hb hs hbs hbk lc h1 h2
  have T0 : Sts w F w2 ([idxR s lg bk bs (idxF ((ents m).take 0))] ++ (iterIR c g m ++ rowR b #[.pointer (some ⟨s, 0, none⟩)] :: rowR lg (ledCells p g m.n) :: plR p D1 f1 :: R)) := by
    have T3 := T.ord [3, 4, 6, 5, 0, 8, 2, 1, 7]
    exact Sts.idxShut (I := idx0) T3
  clear T
  refine (wpIn_wide (n := 4)).1 ?_
  refine wp_rangeSts (gf := 109) (lb := #[.pointer (some ⟨c, 0, none⟩)]) (enc := fun x : Item × Inst => #[.agg (IV x.1), .agg (NV x.2)]) (xs := ents m)
    (fun k => [idxR s lg bk bs (idxF ((ents m).take k))]) (fun _ _ => [noR]) (iterIR c g m ++ rowR b #[.pointer (some ⟨s, 0, none⟩)] :: rowR lg (ledCells p g m.n) :: plR p D1 f1 :: R)
    (fun k x a' own' => ∃ b1 b2, own' = [rowR b2 (NV x.2), rowR b1 (IV x.1), idxR s lg bk bs (idxF ((ents m).take k))] ∧ a' = { tmps := #[.pointer (some ⟨p, 0, none⟩), .int .i64 n, undef, undef, .pointer none, .int .i64 0, .pointer (some ⟨lg, 0, none⟩), .int .i64 0, .pointer (some ⟨b, 0, none⟩), .pointer (some ⟨b1, 0, none⟩), .pointer (some ⟨b2, 0, none⟩), .tuple #[.pointer (some ⟨lg, 0, none⟩), .int .i64 0], .pointer (some ⟨p, 0, none⟩), .int .i64 n, .tuple #[.pointer (some ⟨lg, 0, none⟩), .int .i64 0], .pointer (some ⟨lg, 0, none⟩), .int .i64 0, .int .i64 0, .bool false, undef, .pointer (some ⟨lg, 0, none⟩), .map (some bk), .map (some bs), .agg #[.pointer (some ⟨lg, 0, none⟩), .map (some bk), .slice none 0 0, .map (some bs)], .pointer (some ⟨s, 0, none⟩), .pointer (some ⟨lg, 0, none⟩), .func (.func 109) #[] #[.pointer (some ⟨c, 0, none⟩)], .agg (IV x.1), .agg (NV x.2), undef, undef, undef, undef, undef, undef, undef], defers := [] })
    rfl (enters_of Tryz.func109 (by kernel_rfl) rfl) (fun _ => rfl) (Gives.part fun H hS => irAllG c g m HR.out.1 _ H hS) T0 ?calm ?calmX ?assign ?body ?done ?stop
  case calm => exact fun k => calmL_cons (idxR_calm HC.out.1 HC.out.2 _) (calmL_nil _)
  case calmX => exact fun _ _ => calmL_cons (noR_calm _) (calmL_nil _)
  case assign =>
    intro lr k x W1 G1 K hx T1 hK
    have T2 := ((T1.new (IV x.1) 33).new (NV x.2) 70)
    rw [World.size_alloc] at T2
    have HT2 := Lib.hid T2
    clear T0 T1 T2
    gi_wp2
    exact hK _ _ _ ⟨_, _, rfl, rfl⟩ HT2.out
  case body =>
    rintro lr k x _ _ W1 G1 hx ⟨b1, b2, rfl, rfl⟩ T1 hread
    clear T0
    obtain ⟨F', w', TL⟩ := hread T1
    have TL : Sts w' F' W1 (rowR b2 (NV x.2) :: rowR b1 (IV x.1) :: idxR s lg bk bs (idxF ((ents m).take k)) :: rowR c #[.pointer (some ⟨g, 0, none⟩)] :: rowsIR g m :: rowR b #[.pointer (some ⟨s, 0, none⟩)] :: rowR lg (ledCells p g m.n) :: plR p D1 f1 :: R) := TL
    have rb := (TL.ord [5, 0, 1, 2, 3, 4]).row
    have lb := row_lt rb
    have cb : W1.cell? ⟨b, 0, none⟩ = some (.pointer (some ⟨s, 0, none⟩)) := row_cell rb 0
    have r1 := T1.row; have r2 := T1.row1; have l1 := row_lt r1; have l2 := row_lt r2
    have hmem : x ∈ ents m := List.mem_of_getElem? hx
    have hlen := ents_len HR.out.1
    have hlk : ((ents m).take k).length ≤ (ents m).length := List.length_take_le' _ _
    have hix := idxF_ok _ ((ents m).take k) rfl (by omega)
    have hge := HR.out.2.ents HR.out.1 x hmem
    have hfd := findD s lg bk bs (idxF ((ents m).take k)) hix.1 x.1 x.2.call.deed (by have := hge.2.2.call.deed.txt; unfold maxLen; omega) (by have := hge.2.2.call.deed.ses; unfold intKOk; omega)
    have hnx : findM (idxF ((ents m).take k)) x.1 x.2.call.deed = idxF ((ents m).take (k + 1)) := by
      rw [List.take_add_one, hx, ← idxF_snoc]; rfl
    rw [hnx] at hfd
    have HFD := Lib.hid hfd; have HT := Lib.hid T1
    clear hfd hnx hlen hlk hix hge hmem TL hread T1 rb
    gi_wp2_with fail
    refine ⟨trivial, ?_⟩
    refine (CallsIn.inRound lr (callsIn_wide.2 (Does.at (R := [rowR b2 (NV x.2), rowR b1 (IV x.1)]) HFD.out (HT.out.ord [2, 0, 1])))).mono ?_
    rintro e w2 ⟨rfl, T⟩
    have T6 := (T.ord [1, 2, 0]).drop.drop
    have H6 := Lib.hid T6; clear T T6 HT HFD cb r1 r2
    gi_wp2
    exact H6.out
  case done =>
    intro D2 W1 T1
    clear T0
    rw [List.take_length] at T1
    have T1 : Sts w F W1 (objR D2 (.deferred (some [])) :: idxR s lg bk bs (idxF (ents m)) :: rowR c #[.pointer (some ⟨g, 0, none⟩)] :: rowsIR g m :: rowR b #[.pointer (some ⟨s, 0, none⟩)] :: rowR lg (ledCells p g m.n) :: plR p D1 f1 :: R) := T1
    have T2 := (T1.ord [2, 4, 0, 1, 5, 6, 3])
    have rb := T2.row1
    have lb := row_lt rb
    have cb : W1.cell? ⟨b, 0, none⟩ = some (.pointer (some ⟨s, 0, none⟩)) := row_cell rb 0
    have T3 := (T2.drop.ord [1, 0])
    have hD := T3.obj
    have T6 : Sts w F (W1.putObj D2 (.deferred none)) (idxR s lg bk bs (idxF (ents m)) :: (ledL lg p g D1 f1 m ++ R)) := (T3.putObj (.deferred none)).drop.drop
    have HT := Lib.hid T6; have HD := Lib.hid hD; clear T1 T2 T3 T6 hD
    go_wp2
    exact retM1 HD.out (results_tmp2 rfl _ _ _) ⟨s, lg, g, bk, bs, rfl, HT.out⟩ rfl
  case stop =>
    intro D2 c1 k W1 _ _ T1
    exact (Sts.no T1.drop).elim
end
end Go.Proofs.YtomlilkobhkoiaaGreatDoor
/- Layer 12: what is known of an item now (Space.Know). -/
namespace Go.Proofs.YtomlilkobhkoiaaGreatDoor
open Go.RowKit Go.Shelf
set_option linter.unusedVariables false
set_option maxRecDepth 20000
attribute [local go_sem] row_alloc row_drew row_drewN row_ext row_setCell row_setRow size_ext setRow_alloc setRow_drew loadOf storeOf piece_lit loadVal_at storeVal_at allOne_lit buildOf buildRes_some
attribute [local go_sem high] cell_alloc frozen_alloc setCell_alloc cell_ext frozen_ext cell_setRow frozen_setRow
attribute [local go_sem ↓] TDeed_ld0 TDeed_st0 TDeed_fd0 TDeed_bd0
attribute [local go_sem] TDeed_size TDeed_one TDeed_piece TDeed_c0 TDeed_c1 TDeed_c2 TDeed_c3 TDeed_c4 TDeed_c5 TDeed_set_kind TDeed_set_key TDeed_set_val TDeed_set_ver TDeed_set_ses TDeed_set_num TDeed_ld TDeed_st TDeed_f_kind TDeed_f_key TDeed_f_val TDeed_f_ver TDeed_f_ses TDeed_f_num TDeed_bd TDeed_fl TDeed_fl_kind TDeed_fl_key TDeed_fl_val TDeed_fl_ver TDeed_fl_ses TDeed_fl_num
attribute [local go_sem high] TDeed_eql TDeed_neq
attribute [local go_sem ↓] index_deps0 load_deps0 store_deps0
attribute [local go_sem] DV_piece DV_size DV_one index_deps load_deps store_deps
attribute [local go_sem high] TDeps_eql TDeps_neq
attribute [local go_sem ↓] TCall_ld0 TCall_st0 TCall_fd0 TCall_bd0
attribute [local go_sem] TCall_size TCall_one TCall_piece TCall_c0 TCall_c1 TCall_c2 TCall_c3 TCall_c4 TCall_c5 TCall_c6 TCall_c7 TCall_c8 TCall_c9 TCall_c10 TCall_c11 TCall_c12 TCall_c13 TCall_p_deed TCall_put_deed TCall_p_deps TCall_put_deps TCall_set_seq TCall_ld TCall_st TCall_f_deed TCall_f_deps TCall_f_seq TCall_bd TCall_fl TCall_fl_deed TCall_fl_deps TCall_fl_seq
attribute [local go_sem high] TCall_eql TCall_neq
attribute [local go_sem ↓] TItem_ld0 TItem_st0 TItem_fd0 TItem_bd0
attribute [local go_sem] TItem_size TItem_one TItem_piece TItem_c0 TItem_c1 TItem_set_rep TItem_set_num TItem_ld TItem_st TItem_f_rep TItem_f_num TItem_bd TItem_fl TItem_fl_rep TItem_fl_num
attribute [local go_sem high] TItem_eql TItem_neq
attribute [local go_sem ↓] TBallot_ld0 TBallot_st0 TBallot_fd0 TBallot_bd0
attribute [local go_sem] TBallot_size TBallot_one TBallot_piece TBallot_c0 TBallot_c1 TBallot_set_round TBallot_set_rep TBallot_ld TBallot_st TBallot_f_round TBallot_f_rep TBallot_bd TBallot_fl TBallot_fl_round TBallot_fl_rep
attribute [local go_sem high] TBallot_eql TBallot_neq
attribute [local go_sem ↓] TInst_ld0 TInst_st0 TInst_fd0 TInst_bd0
attribute [local go_sem] TInst_size TInst_one TInst_piece TInst_c0 TInst_c1 TInst_c2 TInst_c3 TInst_c4 TInst_c5 TInst_c6 TInst_c7 TInst_c8 TInst_c9 TInst_c10 TInst_c11 TInst_c12 TInst_c13 TInst_c14 TInst_c15 TInst_c16 TInst_c17 TInst_c18 TInst_c19 TInst_p_prom TInst_put_prom TInst_p_vote TInst_put_vote TInst_set_status TInst_p_call TInst_put_call TInst_set_same TInst_ld TInst_st TInst_f_prom TInst_f_vote TInst_f_status TInst_f_call TInst_f_same TInst_bd TInst_fl TInst_fl_prom TInst_fl_vote TInst_fl_status TInst_fl_call TInst_fl_same
attribute [local go_sem high] TInst_eql TInst_neq
theorem nv_deed (i : Inst) : piece (NV i) 5 6 = EV i.call.deed := rfl
attribute [local go_sem] nv_deed
noncomputable def wasM (m : RowsM) (x : Item) : Deed := ((getM m x).getD noInst).call.deed
noncomputable def knowI (I : Idx) (D : List UInt8) (safe : Nat) (m : RowsM) (x : Item) (i : Inst) : Idx :=
  if (addM D safe m x i).2.2.2 = 0 ∧ eqA (EV (wasM m x)) (EV i.call.deed) = false then findM I x i.call.deed else I
def spL (s lg p g bk bs : Nat) (I : Idx) (D : List UInt8) (safe : Nat) (m : RowsM) : List Res := idxR s lg bk bs I :: ledL lg p g D safe m
set_option maxHeartbeats 8000000 in
theorem spKnowD (s lg p g bk bs : Nat) (I : Idx) (hI : IdxOk I) (hN : I.N + 1 ≤ 1000000) (D : List UInt8) (safe : Nat) (m : RowsM) (hm : RowsOk m) (hg : RowsGood m) (hD : D.length ≤ 65536) (x : Item) (i : Inst) :
    Does Tryz.prog 188 #[.pointer (some ⟨s, 0, none⟩), .agg (IV x), .agg (NV i)] (spL s lg p g bk bs I D safe m) (.int .i64 (addM D safe m x i).2.2.2)
      (spL s lg p g bk bs (knowI I D safe m x i) (addM D safe m x i).1 (addM D safe m x i).2.1 (addM D safe m x i).2.2.1) := by
  have hgd : (addM D safe m x i).2.2.2 = 0 → goodI x m.n = true ∧ goodN i m.n = true := addM_good
  have hadd := addD lg p g D safe m hm hg hD x i
  have hkn : knowI I D safe m x i = if (addM D safe m x i).2.2.2 = 0 ∧ eqA (EV (wasM m x)) (EV i.call.deed) = false then findM I x i.call.deed else I := rfl
  rw [hkn]
  clear hkn
  generalize addM D safe m x i = q at *
  obtain ⟨D1, s1, m1, e1⟩ := q
  dsimp only at hgd hadd ⊢
  have HGD := Lib.hid hgd; clear hgd
  intro W G hS
  obtain ⟨v, T⟩ := (Sts.start hS).idxOpen
  have T : Sts W G W [rowR s (spCells lg bk v bs), vecR 33 2 v I.lists.length (vl IV I.lists), keysR bk I.N I.keys, sesR bs I.N I.ses, rowR lg (ledCells p g m.n), plR p D safe, rowsIR g m] := T
  have T := (T.new (IV x) 33).new (NV i) 70
  simp only [World.size_alloc] at T
  have T := T.ord [2, 1, 0, 6, 7, 8, 3, 4, 5]
  clear hS
  generalize hg1 : W.heap.size = g1 at *
  have hat := ledAtR lg p g D safe m hm x
  have hwas : wasM m x = ((getM m x).getD noInst).call.deed := rfl
  generalize (getM m x).getD noInst = i0 at *
  have HAT := Lib.hid hat; have HWAS := Lib.hid hwas; clear hat hwas
  have HADD := Lib.hid hadd; clear hadd
  have HT := Lib.hid T; clear T
  go_enter Tryz.func188, Tryz.ntmps188
  go_upto_region 3 with fail
  generalize (W.alloc _).alloc _ = w1 at *
  go_cut [7] (fun u wx => Sts W G wx [] ∧ ∃ g7, u = .pointer (some ⟨g7, 0, none⟩) ∧ Sts W G wx [rowR g7 (EV (wasM m x)), rowR s (spCells lg bk v bs), rowR g1 (IV x), rowR (g1 + 1) (NV i), rowR lg (ledCells p g m.n), plR p D safe, rowsIR g m, vecR 33 2 v I.lists.length (vl IV I.lists), keysR bk I.N I.keys, sesR bs I.N I.ses])
  case first =>
    have FS : ∀ W' R', Sts W G W' (rowR s (spCells lg bk v bs) :: rowR g1 (IV x) :: R') → (W'.cell? ⟨s, 0, none⟩ = some (.pointer (some ⟨lg, 0, none⟩)) ∧ row? W' g1 = some (IV x)) := fun W' R' T => ⟨row_cell T.row 0, T.row1⟩
    have S0 := FS _ _ HT.out.drew
    have HFS := Lib.hid FS; clear FS
    have hm0 : ∀ W', (W'.cell? ⟨s, 0, none⟩ = some (.pointer (some ⟨lg, 0, none⟩)) ∧ row? W' g1 = some (IV x)) → True := fun _ _ => trivial
    have HM := Lib.hid hm0; clear hm0
    refine wp_region_stage (fun W' => W'.cell? ⟨s, 0, none⟩ = some (.pointer (some ⟨lg, 0, none⟩)) ∧ row? W' g1 = some (IV x)) (fun _ => True) 9 (by kernel_rfl) S0 (fun hHeld => ?_)
    clear S0
    refine tk0 0 rfl ?_
    simp only [Act.put, List.setIfInBounds_toArray, List.set_cons_zero, List.set_cons_succ]
    refine tk0 1 rfl ?_
    go_frame
    refine tk0 2 rfl ?_
    go_frame
    refine tk0 3 rfl ?_
    go_frame
    refine tk0 4 rfl ?_
    go_frame
    refine wpAnyL_ready (rs := [5, 8]) (by kernel_rfl) (by simp) ?_
    refine AllReadyL.cons0 (o := _) rfl (by kernel_rfl) (fun K hK => ?_) ?_
    · go_simp
      refine (Reads.at (L := [rowR lg (ledCells p g m.n), plR p D safe, rowsIR g m]) HAT.out (HT.out.drew.ord [3, 4, 5, 0, 1, 2, 6, 7, 8])).mono ?_
      rintro e w2 ⟨rfl, hb⟩
      have T2 := HT.out.drew.pure hb
      clear hb HT
      refine hK.out _ _ (HFS.out _ _ T2) (fun hHeld => ?_)
      clear hK K
      refine tk0 6 rfl ?_
      simp only [Act.put, List.setIfInBounds_toArray, List.set_cons_zero, List.set_cons_succ]
      refine tk0 7 rfl ?_
      go_frame
      refine wpAnyL_ready (rs := [8]) (by kernel_rfl) (by simp) ?_
      refine AllReadyL.cons0 (o := _) rfl (by kernel_rfl) (fun K hK => ?_) AllReadyL.nil
      have Ta := T2.new (EV noDeed) 31
      have HTa := Lib.hid Ta; have HT2 := Lib.hid T2; clear Ta T2
      go_simp
      refine hK.out _ _ ?_ (fun hHeld => ?_)
      · exact HFS.out _ _ HTa.out.drop
      clear hK K
      refine wpAnyL_ready (rs := [9]) (by kernel_rfl) (by simp) ?_
      refine AllReadyL.cons1 (o := _) rfl (by kernel_rfl) (fun K hK => ?_) AllReadyL.nil
      have r9 := HTa.out.row; have l9 := row_lt r9
      have T9 := HT2.out.new (EV i0.call.deed) 31
      have HT9 := Lib.hid T9; clear T9
      go_simp
      refine hK.out _ _ trivial (fun hHeld => ?_)
      clear hK K r9 l9 HTa HT2
      refine wpAnyL_done (by kernel_rfl) ?_ _
      simp only [Exit.then]
      go_step
      go_meet
      case rel => exact ⟨HT9.out.nil, _, rfl, by rw [HWAS.out]; exact HT9.out⟩
    · refine AllReadyL.cons0 (o := _) rfl (by kernel_rfl) (fun K hK => ?_) AllReadyL.nil
      have Ta := HT.out.drew.new (EV noDeed) 31
      rw [size_drew] at Ta
      have HTa := Lib.hid Ta; clear Ta HT
      go_simp
      refine hK.out _ _ ?_ (fun hHeld => ?_)
      · exact HFS.out _ _ HTa.out.drop
      clear hK K
      refine wpAnyL_ready (rs := [5]) (by kernel_rfl) (by simp) ?_
      refine AllReadyL.cons0 (o := _) rfl (by kernel_rfl) (fun K hK => ?_) AllReadyL.nil
      go_simp
      refine (Reads.at (L := [rowR lg (ledCells p g m.n), plR p D safe, rowsIR g m]) HAT.out (HTa.out.ord [4, 5, 6, 0, 1, 2, 3, 7, 8, 9])).mono ?_
      rintro e w2 ⟨rfl, hb⟩
      have T2 := HTa.out.pure hb
      clear hb HTa
      refine hK.out _ _ (HFS.out _ _ T2.drop) (fun hHeld => ?_)
      clear hK K
      refine tk0 6 rfl ?_
      simp only [Act.put, List.setIfInBounds_toArray, List.set_cons_zero, List.set_cons_succ]
      refine tk0 7 rfl ?_
      go_frame
      refine wpAnyL_ready (rs := [9]) (by kernel_rfl) (by simp) ?_
      refine AllReadyL.cons1 (o := _) rfl (by kernel_rfl) (fun K hK => ?_) AllReadyL.nil
      have r9 := T2.row; have l9 := row_lt r9
      have T9 := T2.setRow (EV i0.call.deed)
      have HT9 := Lib.hid T9; clear T9 T2
      go_simp
      refine hK.out _ _ trivial (fun hHeld => ?_)
      clear hK K r9 l9
      refine wpAnyL_done (by kernel_rfl) ?_ _
      simp only [Exit.then]
      go_step
      go_meet
      case rel => exact ⟨HT9.out.nil, _, rfl, by rw [HWAS.out]; exact HT9.out⟩
  case rest =>
    clear HT HAT HWAS
    obtain ⟨-, g7, rfl, T⟩ := hcut
    have T := T.ord [1, 2, 3, 0, 4, 5, 6, 7, 8, 9]
    have FS : ∀ W' R', Sts W G W' (rowR s (spCells lg bk v bs) :: rowR g1 (IV x) :: rowR (g1 + 1) (NV i) :: R') → (W'.cell? ⟨s, 0, none⟩ = some (.pointer (some ⟨lg, 0, none⟩)) ∧ row? W' g1 = some (IV x) ∧ row? W' (g1 + 1) = some (NV i)) := fun W' R' T => ⟨row_cell T.row 0, T.row1, T.row2⟩
    have S0 := FS _ _ T.drew
    have HFS := Lib.hid FS; have HT := Lib.hid T; clear FS T
    go_upto_region 4 with fail
    refine wp_region_held_drew (S := fun W' => W'.cell? ⟨s, 0, none⟩ = some (.pointer (some ⟨lg, 0, none⟩)) ∧ row? W' g1 = some (IV x) ∧ row? W' (g1 + 1) = some (NV i)) (by kernel_rfl) S0 (fun hHeld => ?_)
    clear S0
    refine tkH 0 rfl ?_
    simp only [Act.put, List.setIfInBounds_toArray, List.set_cons_zero, List.set_cons_succ]
    refine tkH 1 rfl ?_
    go_frame
    refine tkH 2 rfl ?_
    go_frame
    refine tkH 3 rfl ?_
    go_frame
    refine tkH 4 rfl ?_
    go_frame
    refine tkH 5 rfl ?_
    go_frame
    refine wpAnyH_ready (rs := [6]) (by kernel_rfl) (by simp) ?_
    refine AllReadyH.cons (o := _) rfl (fun K hK => ?_) AllReadyH.nil
    have T0 := HT.out.drew.ord [4, 5, 6, 0, 1, 2, 3, 7, 8, 9]
    have HT0 := Lib.hid T0; clear T0 HT
    go_simp
    refine (Does.at (R := [rowR s (spCells lg bk v bs), rowR g1 (IV x), rowR (g1 + 1) (NV i), rowR g7 (EV (wasM m x)), vecR 33 2 v I.lists.length (vl IV I.lists), keysR bk I.N I.keys, sesR bs I.N I.ses]) HADD.out HT0.out).mono ?_
    rintro e w3 ⟨rfl, T⟩
    have T : Sts W G w3 [rowR lg (ledCells p g m1.n), plR p D1 s1, rowsIR g m1, rowR s (spCells lg bk v bs), rowR g1 (IV x), rowR (g1 + 1) (NV i), rowR g7 (EV (wasM m x)), vecR 33 2 v I.lists.length (vl IV I.lists), keysR bk I.N I.keys, sesR bs I.N I.ses] := T
    have T := T.ord [3, 4, 5, 6, 7, 8, 9, 0, 1, 2]
    refine hK.out _ _ (HFS.out _ _ T) (fun hHeld => ?_)
    clear hK K HFS HADD HT0
    refine tkH 7 rfl ?_
    simp only [Act.put, List.setIfInBounds_toArray, List.set_cons_zero, List.set_cons_succ]
    refine wpAnyH_done (by kernel_rfl) ?_ _
    simp only [Exit.then]
    have HT := Lib.hid T; clear T
    have r7 := HT.out.row3; have l7 := row_lt r7; have r2 := HT.out.row2; have l2 := row_lt r2; have c2 := row_cell r2; have r1 := HT.out.row1; have l1 := row_lt r1
    cases he : (e1 == 0)
    case false =>
      have hne : ¬ (e1 = 0 ∧ eqA (EV (wasM m x)) (EV i.call.deed) = false) := fun h => by simp [h.1] at he
      go_wp2
      go_ret
      refine ⟨rfl, ?_⟩
      have T9 := HT.out.ord [1, 2, 3, 0, 4, 5, 6, 7, 8, 9]
      exact Sts.idxShut T9.drop.drop.drop
    case true =>
      cases hw : eqA (EV (wasM m x)) (EV i.call.deed)
      case true =>
        go_wp2
        all_goals
          go_ret
          refine ⟨rfl, ?_⟩
          have T9 := HT.out.ord [1, 2, 3, 0, 4, 5, 6, 7, 8, 9]
          exact Sts.idxShut T9.drop.drop.drop
      case false =>
        have hyes : e1 = 0 ∧ eqA (EV (wasM m x)) (EV i.call.deed) = false := ⟨by simpa using he, hw⟩
        have hin := goodN_in (HGD.out hyes.1).2 hm.n.2
        have hfd := findD s lg bk bs I hI x i.call.deed (by have := hin.call.deed.txt; unfold maxLen; omega) (by have := hin.call.deed.ses; unfold intKOk; omega)
        have HFD := Lib.hid hfd; have HY := Lib.hid hyes
        clear hfd hin hyes
        go_wp2_with fail
        have T9 := HT.out.ord [1, 2, 3, 0, 4, 5, 6, 7, 8, 9]
        have T10 := (T9.ord [3, 4, 5, 6, 0, 1, 2, 7, 8, 9]).idxShut
        clear T9 HT r7 l7 r2 l2 c2 r1 l1
        refine (Does.at1 HFD.out T10).mono ?_
        clear T10 HFD
        rintro e w4 ⟨rfl, T⟩
        have HT := Lib.hid T; clear T
        go_wp2
        go_ret
        refine ⟨rfl, ?_⟩
        have T11 := HT.out.ord [1, 2, 3, 0, 4, 5, 6]
        exact T11.drop.drop.drop
end Go.Proofs.YtomlilkobhkoiaaGreatDoor
/- Things as they were at some time: a footprint, held fast. Nothing of the program stands here. -/
namespace Go.Proofs.YtomlilkobhkoiaaGreatDoor
open Go.RowKit
set_option linter.unusedVariables false
/-- The blocks H, as they were in W0. -/
def pinR (H : Nat → Prop) (W0 : World) : Res where
  sat F W := (∀ k, F k ↔ H k) ∧ ∀ k, H k → k < W0.heap.size ∧ W.heap[k]? = W0.heap[k]?
  stay h hs := ⟨hs.1, fun k hk => ⟨(hs.2 k hk).1, (h k ((hs.1 k).2 hk)).trans (hs.2 k hk).2⟩⟩
  lt := fun {F W} hs k hk => by
    obtain ⟨h1, h2⟩ := hs.2 k ((hs.1 k).1 hk)
    rw [Array.getElem?_eq_getElem h1] at h2
    exact (Array.getElem?_eq_some_iff.1 h2).1
section
variable {w W W0 : World} {F H G : Nat → Prop} {L R X : List Res}
theorem Sts.pin (T : Sts w F W (L ++ R)) : ∃ H, Sat W L H ∧ Sts w F W (pinR H W :: R) := by
  obtain ⟨⟨G, hs, hG⟩, m⟩ := T
  obtain ⟨A, B, ha, hb, hd, hf⟩ := hs.parts
  exact ⟨A, ha, ⟨G, ⟨A, B, ⟨fun _ => Iff.rfl, fun k hk => ⟨ha.lt k hk, rfl⟩⟩, hb, hd, hf⟩, hG⟩, m⟩
theorem Sts.pinned (T : Sts w F W (pinR H W0 :: R)) (hS : Sat W0 L G) (hG : ∀ k, G k → H k) : Sat W L G := by
  obtain ⟨A, ha⟩ := T.at0
  exact hS.stay fun k hk => (ha.2 k (hG k hk)).2
theorem Sts.unpin (T : Sts w F W (pinR H W0 :: R)) (hS : Sat W0 L H) : Sts w F W (L ++ R) := by
  obtain ⟨⟨G, ⟨A, B, ha, hb, hd, hf⟩, hG⟩, m⟩ := T
  have hl : Sat W L H := hS.stay fun k hk => (ha.2 k hk).2
  refine ⟨⟨G, (hl.append hb fun k hk => hd k ((ha.1 k).2 hk)).congr fun k => ?_, hG⟩, m⟩
  rw [hf k, ha.1 k]
/-- What is opened of things lies among their blocks. -/
theorem Sts.among (hS : Sat W0 L H) {M : List Res} (T : Sts W0 H W0 M) : ∃ G, Sat W0 M G ∧ ∀ k, G k → H k := by
  obtain ⟨⟨G, hs, hG⟩, m⟩ := T
  exact ⟨G, hs, fun k hk => (hG k hk).elim id fun h => absurd (hs.lt k hk) (by omega)⟩
theorem perm_one {a : Res} : (X ++ ([a] ++ R)).Perm (a :: (X ++ R)) := by
  have h : (X ++ a :: R).Perm (a :: (X ++ R)) := List.perm_middle
  exact h
end
end Go.Proofs.YtomlilkobhkoiaaGreatDoor
