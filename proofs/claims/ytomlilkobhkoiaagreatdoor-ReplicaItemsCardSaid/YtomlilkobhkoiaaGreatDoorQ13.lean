/- Several texts in one. -/
import Derived.Test.YtomlilkobhkoiaaGreatDoorQ11
import Derived.Test.YtomlilkobhkoiaaGreatDoorQ12
import Derived.Test.YtomlilkobhkoiaaGreatDoorQ7
/- Layer 12: where deeds are found (Space.find). -/
namespace Go.Proofs.YtomlilkobhkoiaaGreatDoor
open Go.RowKit
set_option linter.unusedVariables false
set_option maxRecDepth 20000
attribute [local go_sem] row_alloc row_drew row_drewN row_ext row_setCell row_setRow size_ext setRow_alloc setRow_drew loadOf storeOf piece_lit loadVal_at storeVal_at allOne_lit buildOf buildRes_some
attribute [local go_sem high] cell_alloc frozen_alloc setCell_alloc cell_ext frozen_ext cell_setRow frozen_setRow
attribute [local go_sem ↓] TDeed_ld0 TDeed_st0 TDeed_fd0 TDeed_bd0
attribute [local go_sem] TDeed_size TDeed_one TDeed_piece TDeed_c0 TDeed_c1 TDeed_c2 TDeed_c3 TDeed_c4 TDeed_c5 TDeed_set_kind TDeed_set_key TDeed_set_val TDeed_set_ver TDeed_set_ses TDeed_set_num TDeed_ld TDeed_st TDeed_f_kind TDeed_f_key TDeed_f_val TDeed_f_ver TDeed_f_ses TDeed_f_num TDeed_bd TDeed_fl TDeed_fl_kind TDeed_fl_key TDeed_fl_val TDeed_fl_ver TDeed_fl_ses TDeed_fl_num
attribute [local go_sem high] TDeed_eql TDeed_neq
attribute [local go_sem ↓] index_deps0 load_deps0 store_deps0
attribute [local go_sem] DV_piece DV_size DV_one index_deps load_deps store_deps
attribute [local go_sem high] TDeps_eql TDeps_neq
attribute [local go_sem ↓] TCall_ld0 TCall_st0 TCall_fd0 TCall_bd0
attribute [local go_sem] TCall_size TCall_one TCall_piece TCall_c0 TCall_c1 TCall_c2 TCall_c3 TCall_c4 TCall_c5 TCall_c6 TCall_c7 TCall_c8 TCall_c9 TCall_c10 TCall_c11 TCall_c12 TCall_c13 TCall_p_deed TCall_put_deed TCall_p_deps TCall_put_deps TCall_set_seq TCall_ld TCall_st TCall_f_deed TCall_f_deps TCall_f_seq TCall_bd TCall_fl TCall_fl_deed TCall_fl_deps TCall_fl_seq
attribute [local go_sem high] TCall_eql TCall_neq
attribute [local go_sem ↓] TItem_ld0 TItem_st0 TItem_fd0 TItem_bd0
attribute [local go_sem] TItem_size TItem_one TItem_piece TItem_c0 TItem_c1 TItem_set_rep TItem_set_num TItem_ld TItem_st TItem_f_rep TItem_f_num TItem_bd TItem_fl TItem_fl_rep TItem_fl_num
attribute [local go_sem high] TItem_eql TItem_neq
attribute [local go_sem ↓] TBallot_ld0 TBallot_st0 TBallot_fd0 TBallot_bd0
attribute [local go_sem] TBallot_size TBallot_one TBallot_piece TBallot_c0 TBallot_c1 TBallot_set_round TBallot_set_rep TBallot_ld TBallot_st TBallot_f_round TBallot_f_rep TBallot_bd TBallot_fl TBallot_fl_round TBallot_fl_rep
attribute [local go_sem high] TBallot_eql TBallot_neq
attribute [local go_sem ↓] TInst_ld0 TInst_st0 TInst_fd0 TInst_bd0
attribute [local go_sem] TInst_size TInst_one TInst_piece TInst_c0 TInst_c1 TInst_c2 TInst_c3 TInst_c4 TInst_c5 TInst_c6 TInst_c7 TInst_c8 TInst_c9 TInst_c10 TInst_c11 TInst_c12 TInst_c13 TInst_c14 TInst_c15 TInst_c16 TInst_c17 TInst_c18 TInst_c19 TInst_p_prom TInst_put_prom TInst_p_vote TInst_put_vote TInst_set_status TInst_p_call TInst_put_call TInst_set_same TInst_ld TInst_st TInst_f_prom TInst_f_vote TInst_f_status TInst_f_call TInst_f_same TInst_bd TInst_fl TInst_fl_prom TInst_fl_vote TInst_fl_status TInst_fl_call TInst_fl_same
attribute [local go_sem high] TInst_eql TInst_neq
attribute [local go_sem ↓] item_slice0
attribute [local go_sem] item_slice1
def strK (s : ByteArray) : Value := .string s
def strKOk (s : ByteArray) : Prop := s.size ≤ maxLen
def intK (n : Int) : Value := .int .i64 n
def intKOk (n : Int) : Prop := -9223372036854775808 ≤ n ∧ n ≤ 9223372036854775807
theorem strOk : KeyOk Tryz.prog 9 strK strKOk where
 lit x hx := ⟨_, WideMaps.keyOf_string_mk Tryz.underlying9 hx⟩
 inj x y l hx hy h1 h2 := by
  rw [show strK x = .string x from rfl, WideMaps.keyOf_string_mk Tryz.underlying9 hx] at h1
  rw [show strK y = .string y from rfl, WideMaps.keyOf_string_mk Tryz.underlying9 hy] at h2
  injection h1 with h1
  injection h2 with h2
  have h := h1.trans h2.symm
  injection h with h
  exact WideShapes.bytes_inj h
 keyed := Go.Maps.string_keyed Tryz.underlying9
theorem intOk : KeyOk Tryz.prog 3 intK intKOk where
 lit x hx := ⟨_, Go.Maps.keyOf_int_mk Tryz.underlying3 (wf_int hx)⟩
 inj x y l hx hy h1 h2 := by
  rw [show intK x = .int .i64 x from rfl, Go.Maps.keyOf_int_mk Tryz.underlying3 (wf_int hx)] at h1
  rw [show intK y = .int .i64 y from rfl, Go.Maps.keyOf_int_mk Tryz.underlying3 (wf_int hy)] at h2
  injection h1 with h1
  injection h2 with h2
  have h := h1.trans h2.symm
  injection h
 keyed := Go.Maps.int_keyed Tryz.underlying3
theorem zeroItems (w : World) : (zeroValue 89).run Tryz.prog w = .ok (.slice none 0 0) w := by kernel_rfl
/-- Where deeds are found. -/
structure Idx where
 N : Nat
 keys : ByteArray → List Item
 lists : List Item
 ses : Int → List Item
structure IdxOk (I : Idx) : Prop where
 N : I.N ≤ 1000000
 keys : ∀ k, (I.keys k).length ≤ I.N
 lists : I.lists.length ≤ I.N
 ses : ∀ k, (I.ses k).length ≤ I.N
structure IdxJ (I : Idx) : Prop where
 N : I.N ≤ 1000000
 keys : ∀ k, (I.keys k).length ≤ I.N + 1
 ses : ∀ k, (I.ses k).length ≤ I.N
abbrev keysR (b N : Nat) (f : ByteArray → List Item) : Res := kmapR Tryz.prog 9 33 2 IV strK strKOk b N f
abbrev sesR (b N : Nat) (f : Int → List Item) : Res := kmapR Tryz.prog 3 33 2 IV intK intKOk b N f
def spCells (lg bk : Nat) (v : Value) (bs : Nat) : Array Value := #[.pointer (some ⟨lg, 0, none⟩), .map (some bk), v, .map (some bs)]
def idxR (s lg bk bs : Nat) (I : Idx) : Res := exR fun v : Value => packR [rowR s (spCells lg bk v bs), vecR 33 2 v I.lists.length (vl IV I.lists), keysR bk I.N I.keys, sesR bs I.N I.ses]
noncomputable def findS (I : Idx) (x : Item) (d : Deed) : Idx := if d.ses = 0 then { I with N := I.N + 1 } else { I with N := I.N + 1, ses := updK I.ses d.ses (I.ses d.ses ++ [x]) }
noncomputable def findM (I : Idx) (x : Item) (d : Deed) : Idx :=
 if d.kind = 0 then I else findS (if d.kind = 5 then { I with lists := I.lists ++ [x] } else { I with keys := updK I.keys d.key (I.keys d.key ++ [x]) }) x d
section
variable {w W : World} {F : Nat → Prop} {R : List Res} {s lg bk bs : Nat} {I : Idx}
theorem Sts.idxOpen (T : Sts w F W (idxR s lg bk bs I :: R)) : ∃ v, Sts w F W (rowR s (spCells lg bk v bs) :: vecR 33 2 v I.lists.length (vl IV I.lists) :: keysR bk I.N I.keys :: sesR bs I.N I.ses :: R) := by
 obtain ⟨v, T⟩ := T.open
 exact ⟨v, T.unpack⟩
theorem Sts.idxShut {v : Value} (T : Sts w F W (rowR s (spCells lg bk v bs) :: vecR 33 2 v I.lists.length (vl IV I.lists) :: keysR bk I.N I.keys :: sesR bs I.N I.ses :: R)) : Sts w F W (idxR s lg bk bs I :: R) :=
 (Sts.pack (L := [_, _, _, _]) T).close v
end
theorem Sts.kmapMono {α β : Type} {P : Program} {kt e : TypeId} {size : Nat} {V : β → Array Value} {kv : α → Value} {ok : α → Prop} {w W : World} {F : Nat → Prop} {R : List Res} {b N N' : Nat} {f : α → List β} (T : Sts w F W (kmapR P kt e size V kv ok b N f :: R)) (h : N ≤ N') : Sts w F W (kmapR P kt e size V kv ok b N' f :: R) := by
 obtain ⟨⟨q, hq⟩, T⟩ := T.open
 exact Sts.close ⟨q, ⟨Nat.le_trans hq.n h, hq.keys, hq.has, hq.none⟩⟩ T
theorem item_honk (x : Item) : ∀ u ∈ (IV x).toList, u.oneCell' = true := by simp [IV, Value.oneCell']
theorem findM_nop {I : Idx} {x : Item} {d : Deed} (h : (d.kind == 0) = true) : findM I x d = I := by unfold findM; rw [if_pos (by simpa using h)]
theorem findM_list {I : Idx} {x : Item} {d : Deed} (h : (d.kind == 0) = false) (h5 : (d.kind == 5) = true) : findM I x d = findS { I with lists := I.lists ++ [x] } x d := by
 unfold findM; rw [if_neg (by simpa using h), if_pos (by simpa using h5)]
theorem findM_key {I : Idx} {x : Item} {d : Deed} (h : (d.kind == 0) = false) (h5 : (d.kind == 5) = false) : findM I x d = findS { I with keys := updK I.keys d.key (I.keys d.key ++ [x]) } x d := by
 unfold findM; rw [if_neg (by simpa using h), if_neg (by simpa using h5)]
theorem findS_no {I : Idx} {x : Item} {d : Deed} (h : (d.ses != 0) = false) : findS I x d = { I with N := I.N + 1 } := by unfold findS; rw [if_pos (by simpa using h)]
theorem findS_yes {I : Idx} {x : Item} {d : Deed} (h : (d.ses != 0) = true) : findS I x d = { I with N := I.N + 1, ses := updK I.ses d.ses (I.ses d.ses ++ [x]) } := by unfold findS; rw [if_neg (by simpa using h)]
set_option maxHeartbeats 8000000 in
theorem findD (s lg bk bs : Nat) (I : Idx) (hI : IdxOk I) (x : Item) (d : Deed) (hk : d.key.size ≤ maxLen) (hs : intKOk d.ses) :
  Does Tryz.prog 32 #[.pointer (some ⟨s, 0, none⟩), .agg (IV x), .agg (EV d)] [idxR s lg bk bs I] (.tuple #[]) [idxR s lg bk bs (findM I x d)] := by
 intro W G hS
 have T := ((Sts.start hS).new (IV x) 33).new (EV d) 31
 simp only [World.size_alloc] at T
 clear hS
 generalize hg1 : W.heap.size = g1 at *
 go_enter Tryz.func32, Tryz.ntmps32
 have r0 := T.row; have l0 := row_lt r0; have c0 := row_cell r0
 have HT0 := Lib.hid T; clear T
 obtain ⟨i0, hi, hz0, hz1, hz2⟩ := item_i
 have HOK := Lib.hid (item_honk x)
 have HI := Lib.hid hI; clear hI
 cases h0 : (d.kind == 0)
 case true =>
  rw [findM_nop h0]
  go_wp2
  refine bodyPost_ret (results_none rfl _ _ _) rfl ?_
  exact ⟨rfl, HT0.out.drop.drop⟩
 case false =>
  cases h5 : (d.kind == 5)
  case true =>
   rw [findM_list h0 h5]
   obtain ⟨J, hJ⟩ : ∃ J : Idx, J = { I with lists := I.lists ++ [x] } := ⟨_, rfl⟩
   rw [← hJ]
   have HJJ := Lib.hid hJ; clear hJ
   go_wp2_with fail
   generalize (W.alloc _).alloc _ = w1 at *
   clear r0 l0 c0
   obtain ⟨v, T⟩ := (HT0.out.ord [2, 0, 1]).idxOpen
   have T := T.ord [0, 5, 4, 1, 2, 3]
   have FS : ∀ W' u R', Sts W G W' (rowR s (spCells lg bk u bs) :: rowR g1 (IV x) :: R') → (W'.cell? ⟨s, 2, none⟩ = some u ∧ row? W' g1 = some (IV x)) := fun W' u R' T => ⟨row_cell T.row 2, T.row1⟩
   have S0 := FS _ _ _ T.drew
   have hm : ∀ W', (W'.cell? ⟨s, 2, none⟩ = some v ∧ row? W' g1 = some (IV x)) → True := fun _ _ => trivial
   have HFS := Lib.hid FS; have HM := Lib.hid hm; have HT := Lib.hid T
   clear FS hm T HT0
   have h63 : I.lists.length + 1 ≤ maxLen := by have := HI.out.lists; have := HI.out.N; unfold maxLen; omega
   have hby : (I.lists.length + 1) * 16 ≤ 140737488355328 := by have := HI.out.lists; have := HI.out.N; omega
   have HBY := Lib.hid hby; have H63 := Lib.hid h63; clear hby h63
   refine wp_region_stage (fun W' => (W'.cell? ⟨s, 2, none⟩ = some v ∧ row? W' g1 = some (IV x))) (fun W' => True) 10 (by kernel_rfl) S0 (fun hHeld => ?_)
   clear S0
   refine tk0 0 rfl ?_
   simp only [Act.put, List.setIfInBounds_toArray, List.set_cons_zero, List.set_cons_succ]
   refine tk0 1 rfl ?_
   go_frame
   refine tk0 2 rfl ?_
   go_frame
   refine tk0 3 rfl ?_
   go_frame
   refine tk0 4 rfl ?_
   go_frame
   refine tk0 5 rfl ?_
   go_frame
   refine wpAnyL_ready (rs := [6]) (by kernel_rfl) (by simp) ?_
   refine AllReadyL.cons0 (o := _) rfl (by kernel_rfl) (fun K hK => ?_) AllReadyL.nil
   have Ta := (HT.out.new (IV x) 33).drew
   have HTa := Lib.hid Ta; clear Ta HT
   go_simp
   refine hK.out _ _ ?_ (fun hHeld => ?_)
   ·exact HFS.out _ _ _ HTa.out.drop
   clear hK K
   refine wpAnyL_ready (rs := [7]) (by kernel_rfl) (by simp) ?_
   refine AllReadyL.cons0 (o := _) rfl (by kernel_rfl) (fun K hK => ?_) AllReadyL.nil
   have Tb := HTa.out.ord [4, 0, 1, 2, 3, 5, 6]
   clear HTa
   refine step_append_vec (by rfl) _ _ _ (by rfl) 33 i0 _ 2 16 Tryz.underlying89 hi hz0 hz1 hz2 rfl (by omega) v I.lists.length (vl IV I.lists) (by rfl) Tb ⟨w1.heap.size, 0, none⟩ 1 1 (IV x).toList (by rfl) (by rfl) (news_row Tb.row1) HOK.out (by omega) H63.out HBY.out ?_
   intro gv' cap1 w2 T1
   have T1 := (T1.ord [2, 3, 0, 4, 5, 6, 1])
   refine hK.out _ _ ?_ (fun hHeld => ?_)
   ·exact HFS.out _ _ _ T1
   clear hK K Tb
   refine tk1 8 HM.out rfl ?_
   simp only [Act.put, List.getElem_toArray, List.getElem_cons_succ, List.getElem_cons_zero, List.setIfInBounds_toArray, List.set_cons_zero, List.set_cons_succ]
   refine tk0 9 rfl ?_
   simp only [Act.put, List.setIfInBounds_toArray, List.set_cons_zero, List.set_cons_succ]
   have hf := row_frozen T1.row 2
   have T2 := T1.setCell 2 (.slice (some ⟨gv', 0, none⟩) (I.lists.length + 1) cap1)
   have HT2 := Lib.hid T2; clear T1 T2
   refine wpAnyL_ready (rs := [10]) (by kernel_rfl) (by simp) ?_
   refine AllReadyL.cons1 (o := _) rfl (by kernel_rfl) (fun K hK => ?_) AllReadyL.nil
   go_simp
   refine hK.out _ _ trivial (fun hHeld => ?_)
   clear hK K hf
   refine wpAnyL_done (by kernel_rfl) ?_ _
   try simp only [Exit.then]
   have hJ := HJJ.out
   clear HJJ
   have hl1 : (I.lists ++ [x]).length = I.lists.length + 1 := by simp
   have T3 : Sts W G (w2.setCell ⟨s, 2, none⟩ (.slice (some ⟨gv', 0, none⟩) (I.lists.length + 1) cap1)) [rowR s (spCells lg bk (.slice (some ⟨gv', 0, none⟩) (I.lists.length + 1) cap1) bs), rowR (g1 + 1) (EV d), rowR g1 (IV x), vecR 33 2 (.slice (some ⟨gv', 0, none⟩) (I.lists.length + 1) cap1) J.lists.length (vl IV J.lists), keysR bk (J.N + 1) J.keys, sesR bs J.N J.ses] := by
    have T9 := (HT2.out.ord [6, 4, 0, 3, 1, 2, 5]).drop
    have T9 := T9.kmapMono (Nat.le_succ _)
    subst hJ
    dsimp only
    rw [vl_snoc, hl1]
    have T10 := T9.ord [1, 2, 3, 4, 0, 5]
    exact T10
   have hJok : IdxJ J := by subst hJ; exact ⟨HI.out.N, fun k => Nat.le_succ_of_le (HI.out.keys k), HI.out.ses⟩
   have HJ := Lib.hid hJok
   clear HI hJ hl1 hJok HT2 HFS HM H63 HBY
   have HT3 := Lib.hid T3; clear T3
   generalize w2.setCell _ _ = w3 at *
   generalize Value.slice (some ⟨gv', 0, none⟩) (I.lists.length + 1) cap1 = v at *
   cases hse : (d.ses != 0)
   case false =>
    have r5 := HT3.out.row1; have l5 := row_lt r5; have c5 := row_cell r5
    go_wp2
    refine bodyPost_end (results_none rfl _ _ _) rfl ?_
    have T4 := (HT3.out.ord [5, 0, 1, 2, 3, 4]).kmapMono (Nat.le_succ _)
    have T5 := (T4.ord [2, 3, 1, 4, 5, 0]).drop.drop
    refine ⟨rfl, ?_⟩
    rw [findS_no hse]
    exact Sts.idxShut T5
   case true =>
    have r5 := HT3.out.row1; have l5 := row_lt r5; have c5 := row_cell r5
    go_wp2_with fail
    clear r5 l5 c5
    have TP := HT3.out.ord [5, 0, 1, 2, 3, 4]
    have HKEY := Lib.hid hs
    clear HT3
    have UND : Tryz.prog.underlying 90 = some (.map 3 89) := Tryz.underlying90
    generalize hwc : w3 = wc at *
    obtain ⟨u, n, g, O, hnN, hv, T1, -, hput⟩ := TP.kmapPick d.ses HKEY.out
    have T1 := T1.ord [0, 3, 5, 4, 1, 2, 6, 7]
    have hlen : (J.ses d.ses).length + 1 ≤ 1000001 := by have := HJ.out.ses d.ses; have := HJ.out.N; omega
    have h63 : (J.ses d.ses).length + 1 ≤ maxLen := by unfold maxLen; omega
    have hby : ((J.ses d.ses).length + 1) * 16 ≤ 140737488355328 := by omega
    have hnm : n < maxLen := by have := HJ.out.N; unfold maxLen; omega
    have HBY := Lib.hid hby; have H63 := Lib.hid h63; have HNM := Lib.hid hnm; have HNN := Lib.hid hnN; have HPUT := Lib.hid hput
    clear hby h63 hlen hnm hnN hput
    have FS : ∀ W' R', Sts W G W' (mapR Tryz.prog _ _ id _ bs n g :: rowR s (spCells lg bk v bs) :: rowR g1 (IV x) :: rowR (g1 + 1) (EV d) :: R') → (W'.cell? ⟨s, 3, none⟩ = some (.map (some bs)) ∧ row? W' g1 = some (IV x) ∧ W'.cell? ⟨g1 + 1, 4, none⟩ = some (Value.int .i64 d.ses) ∧ (Instr.lookup 90 (.map (some bs)) (Value.int .i64 d.ses) false).run Tryz.prog W' = .ok u W') := fun W' R' T => ⟨row_cell T.row1 3, T.row2, row_cell T.row3 4, T.map.look0 intOk UND zeroItems d.ses HKEY.out hv⟩
    have S0 := FS _ _ T1.drew
    have hm : ∀ W', (W'.cell? ⟨s, 3, none⟩ = some (.map (some bs)) ∧ row? W' g1 = some (IV x) ∧ W'.cell? ⟨g1 + 1, 4, none⟩ = some (Value.int .i64 d.ses) ∧ (Instr.lookup 90 (.map (some bs)) (Value.int .i64 d.ses) false).run Tryz.prog W' = .ok u W') → True := fun _ _ => trivial
    have HFS := Lib.hid FS; have HM := Lib.hid hm; have HT := Lib.hid T1
    clear FS hm T1 TP hv
    refine wp_region_stage (fun W' => (W'.cell? ⟨s, 3, none⟩ = some (.map (some bs)) ∧ row? W' g1 = some (IV x) ∧ W'.cell? ⟨g1 + 1, 4, none⟩ = some (Value.int .i64 d.ses) ∧ (Instr.lookup 90 (.map (some bs)) (Value.int .i64 d.ses) false).run Tryz.prog W' = .ok u W')) (fun W' => True) 16 (by kernel_rfl) S0 (fun hHeld => ?_)
    clear S0
    refine tk0 0 rfl ?_
    simp only [Act.put, List.setIfInBounds_toArray, List.set_cons_zero, List.set_cons_succ]
    refine tk0 1 rfl ?_
    go_frame
    refine tk0 2 rfl ?_
    go_frame
    refine tk0 3 rfl ?_
    go_frame
    refine tk0 4 rfl ?_
    go_frame
    refine tk0 5 rfl ?_
    go_frame
    refine tk0 6 rfl ?_
    go_frame
    refine tk0 7 rfl ?_
    go_frame
    refine tk0 8 rfl ?_
    go_frame
    refine tk0 9 rfl ?_
    go_frame
    refine tk0 10 rfl ?_
    go_frame
    refine tk0 11 rfl ?_
    go_frame
    refine tk0 12 rfl ?_
    go_frame
    refine tk0 13 rfl ?_
    go_frame
    refine wpAnyL_ready (rs := [14]) (by kernel_rfl) (by simp) ?_
    refine AllReadyL.cons0 (o := _) rfl (by kernel_rfl) (fun K hK => ?_) AllReadyL.nil
    have Ta := (HT.out.new (IV x) 33).drew
    have HTa := Lib.hid Ta; clear Ta HT
    go_simp
    refine hK.out _ _ ?_ (fun hHeld => ?_)
    ·exact HFS.out _ _ HTa.out.drop
    clear hK K
    refine wpAnyL_ready (rs := [15]) (by kernel_rfl) (by simp) ?_
    refine AllReadyL.cons0 (o := _) rfl (by kernel_rfl) (fun K hK => ?_) AllReadyL.nil
    have Tb := HTa.out.ord [5, 0, 1, 2, 3, 4, 6, 7, 8]
    clear HTa
    refine step_append_vec (by rfl) _ _ _ (by rfl) 33 i0 _ 2 16 Tryz.underlying89 hi hz0 hz1 hz2 rfl (by omega) u (J.ses d.ses).length (vl IV (J.ses d.ses)) (by rfl) Tb ⟨wc.heap.size, 0, none⟩ 1 1 (IV x).toList (by rfl) (by rfl) (news_row Tb.row1) HOK.out (by omega) H63.out HBY.out ?_
    intro gv' cap1 w2 T1
    have T1 := T1.ord [2, 3, 4, 5, 0, 6, 7, 8, 1]
    refine hK.out _ _ ?_ (fun hHeld => ?_)
    ·exact HFS.out _ _ T1
    clear hK K Tb HFS
    obtain ⟨W9, hput9, T9, -⟩ := T1.mapPut intOk UND HNM.out d.ses HKEY.out (.slice (some ⟨gv', 0, none⟩) ((J.ses d.ses).length + 1) cap1)
    clear T1
    have HT9 := Lib.hid T9; clear T9
    refine wpAnyL_ready (rs := [16]) (by kernel_rfl) (by simp) ?_
    refine AllReadyL.cons1 (o := _) rfl (by kernel_rfl) (fun K hK => ?_) AllReadyL.nil
    have hput8 : (Instr.mapUpdate 90 (.map (some bs)) (Value.int .i64 d.ses) (.slice (some ⟨gv', 0, none⟩) ((J.ses d.ses).length + 1) cap1)).run Tryz.prog w2 = .ok () W9 := hput9
    clear hput9
    go_simp
    refine hK.out _ _ trivial (fun hHeld => ?_)
    clear hK K hput8
    refine wpAnyL_done (by kernel_rfl) ?_ _
    try simp only [Exit.then]
    have T5 := HT9.out.ord [8, 0, 4, 5, 1, 3, 2, 6, 7]
    have T6 := HPUT.out _ _ _ _ (.slice (some ⟨gv', 0, none⟩) ((J.ses d.ses).length + 1) cap1) (J.ses d.ses ++ [x]) (n + 1) (J.N + 1) (by rw [vl_snoc, List.length_append]; exact T5.drop) (by have := HNN.out; omega)
    have T7 := (T6.ord [2, 3, 1, 4, 5, 0]).drop.drop
    refine bodyPost_end (results_none rfl _ _ _) rfl ?_
    refine ⟨rfl, ?_⟩
    rw [findS_yes hse]
    exact Sts.idxShut T7
  case false =>
   rw [findM_key h0 h5]
   obtain ⟨J, hJ⟩ : ∃ J : Idx, J = { I with keys := updK I.keys d.key (I.keys d.key ++ [x]) } := ⟨_, rfl⟩
   rw [← hJ]
   have HJJ := Lib.hid hJ; clear hJ
   go_wp2_with fail
   obtain ⟨v, T⟩ := (HT0.out.ord [2, 0, 1]).idxOpen
   have TP := T.ord [2, 0, 4, 5, 1, 3]
   have HKEY := Lib.hid hk
   generalize (W.alloc _).alloc _ = wc at *
   clear r0 l0 c0 HT0 T
   have UND : Tryz.prog.underlying 88 = some (.map 9 89) := Tryz.underlying88
   obtain ⟨u, n, g, O, hnN, hv, T1, -, hput⟩ := TP.kmapPick d.key HKEY.out
   have T1 := T1.ord [0, 3, 5, 4, 1, 2, 6, 7]
   have hlen : (I.keys d.key).length + 1 ≤ 1000001 := by have := HI.out.keys d.key; have := HI.out.N; omega
   have h63 : (I.keys d.key).length + 1 ≤ maxLen := by unfold maxLen; omega
   have hby : ((I.keys d.key).length + 1) * 16 ≤ 140737488355328 := by omega
   have hnm : n < maxLen := by have := HI.out.N; unfold maxLen; omega
   have HBY := Lib.hid hby; have H63 := Lib.hid h63; have HNM := Lib.hid hnm; have HNN := Lib.hid hnN; have HPUT := Lib.hid hput
   clear hby h63 hlen hnm hnN hput
   have FS : ∀ W' R', Sts W G W' (mapR Tryz.prog _ _ id _ bk n g :: rowR s (spCells lg bk v bs) :: rowR g1 (IV x) :: rowR (g1 + 1) (EV d) :: R') → (W'.cell? ⟨s, 1, none⟩ = some (.map (some bk)) ∧ row? W' g1 = some (IV x) ∧ W'.cell? ⟨g1 + 1, 1, none⟩ = some (Value.string d.key) ∧ (Instr.lookup 88 (.map (some bk)) (Value.string d.key) false).run Tryz.prog W' = .ok u W') := fun W' R' T => ⟨row_cell T.row1 1, T.row2, row_cell T.row3 1, T.map.look0 strOk UND zeroItems d.key HKEY.out hv⟩
   have S0 := FS _ _ T1.drew
   have hm : ∀ W', (W'.cell? ⟨s, 1, none⟩ = some (.map (some bk)) ∧ row? W' g1 = some (IV x) ∧ W'.cell? ⟨g1 + 1, 1, none⟩ = some (Value.string d.key) ∧ (Instr.lookup 88 (.map (some bk)) (Value.string d.key) false).run Tryz.prog W' = .ok u W') → True := fun _ _ => trivial
   have HFS := Lib.hid FS; have HM := Lib.hid hm; have HT := Lib.hid T1
   clear FS hm T1 TP hv
   refine wp_region_stage (fun W' => (W'.cell? ⟨s, 1, none⟩ = some (.map (some bk)) ∧ row? W' g1 = some (IV x) ∧ W'.cell? ⟨g1 + 1, 1, none⟩ = some (Value.string d.key) ∧ (Instr.lookup 88 (.map (some bk)) (Value.string d.key) false).run Tryz.prog W' = .ok u W')) (fun W' => True) 16 (by kernel_rfl) S0 (fun hHeld => ?_)
   clear S0
   refine tk0 0 rfl ?_
   simp only [Act.put, List.setIfInBounds_toArray, List.set_cons_zero, List.set_cons_succ]
   refine tk0 1 rfl ?_
   go_frame
   refine tk0 2 rfl ?_
   go_frame
   refine tk0 3 rfl ?_
   go_frame
   refine tk0 4 rfl ?_
   go_frame
   refine tk0 5 rfl ?_
   go_frame
   refine tk0 6 rfl ?_
   go_frame
   refine tk0 7 rfl ?_
   go_frame
   refine tk0 8 rfl ?_
   go_frame
   refine tk0 9 rfl ?_
   go_frame
   refine tk0 10 rfl ?_
   go_frame
   refine tk0 11 rfl ?_
   go_frame
   refine tk0 12 rfl ?_
   go_frame
   refine tk0 13 rfl ?_
   go_frame
   refine wpAnyL_ready (rs := [14]) (by kernel_rfl) (by simp) ?_
   refine AllReadyL.cons0 (o := _) rfl (by kernel_rfl) (fun K hK => ?_) AllReadyL.nil
   have Ta := (HT.out.new (IV x) 33).drew
   have HTa := Lib.hid Ta; clear Ta HT
   go_simp
   refine hK.out _ _ ?_ (fun hHeld => ?_)
   ·exact HFS.out _ _ HTa.out.drop
   clear hK K
   refine wpAnyL_ready (rs := [15]) (by kernel_rfl) (by simp) ?_
   refine AllReadyL.cons0 (o := _) rfl (by kernel_rfl) (fun K hK => ?_) AllReadyL.nil
   have Tb := HTa.out.ord [5, 0, 1, 2, 3, 4, 6, 7, 8]
   clear HTa
   refine step_append_vec (by rfl) _ _ _ (by rfl) 33 i0 _ 2 16 Tryz.underlying89 hi hz0 hz1 hz2 rfl (by omega) u (I.keys d.key).length (vl IV (I.keys d.key)) (by rfl) Tb ⟨wc.heap.size, 0, none⟩ 1 1 (IV x).toList (by rfl) (by rfl) (news_row Tb.row1) HOK.out (by omega) H63.out HBY.out ?_
   intro gv' cap1 w2 T1
   have T1 := T1.ord [2, 3, 4, 5, 0, 6, 7, 8, 1]
   refine hK.out _ _ ?_ (fun hHeld => ?_)
   ·exact HFS.out _ _ T1
   clear hK K Tb HFS
   obtain ⟨W9, hput9, T9, -⟩ := T1.mapPut strOk UND HNM.out d.key HKEY.out (.slice (some ⟨gv', 0, none⟩) ((I.keys d.key).length + 1) cap1)
   clear T1
   have HT9 := Lib.hid T9; clear T9
   refine wpAnyL_ready (rs := [16]) (by kernel_rfl) (by simp) ?_
   refine AllReadyL.cons1 (o := _) rfl (by kernel_rfl) (fun K hK => ?_) AllReadyL.nil
   have hput8 : (Instr.mapUpdate 88 (.map (some bk)) (Value.string d.key) (.slice (some ⟨gv', 0, none⟩) ((I.keys d.key).length + 1) cap1)).run Tryz.prog w2 = .ok () W9 := hput9
   clear hput9
   go_simp
   refine hK.out _ _ trivial (fun hHeld => ?_)
   clear hK K hput8
   refine wpAnyL_done (by kernel_rfl) ?_ _
   try simp only [Exit.then]
   have T5 := HT9.out.ord [8, 0, 4, 5, 1, 3, 2, 6, 7]
   have T6 := HPUT.out _ _ _ _ (.slice (some ⟨gv', 0, none⟩) ((I.keys d.key).length + 1) cap1) (I.keys d.key ++ [x]) (n + 1) (I.N + 1) (by rw [vl_snoc, List.length_append]; exact T5.drop) (by have := HNN.out; omega)
   have hJ := HJJ.out
   clear HJJ
   have T3 : Sts W G W9 [rowR s (spCells lg bk v bs), rowR (g1 + 1) (EV d), rowR g1 (IV x), vecR 33 2 v J.lists.length (vl IV J.lists), keysR bk (J.N + 1) J.keys, sesR bs J.N J.ses] := by
    have T10 := T6.ord [1, 2, 3, 4, 0, 5]
    subst hJ
    exact T10
   have hJok : IdxJ J := by
    subst hJ
    refine ⟨HI.out.N, fun k => ?_, HI.out.ses⟩
    show (updK I.keys d.key _ k).length ≤ I.N + 1
    by_cases e : k = d.key
    ·subst e; rw [updK_same, List.length_append]; have := HI.out.keys d.key; simp; omega
    ·rw [updK_other _ _ e]; have := HI.out.keys k; omega
   have HJ := Lib.hid hJok
   clear HI hJ hJok HT9 T6 T5 HPUT H63 HBY HNM HNN HM HKEY UND
   have HT3 := Lib.hid T3; clear T3
   generalize W9 = w3 at *
   cases hse : (d.ses != 0)
   case false =>
    have r5 := HT3.out.row1; have l5 := row_lt r5; have c5 := row_cell r5
    go_wp2
    refine bodyPost_end (results_none rfl _ _ _) rfl ?_
    have T4 := (HT3.out.ord [5, 0, 1, 2, 3, 4]).kmapMono (Nat.le_succ _)
    have T5 := (T4.ord [2, 3, 1, 4, 5, 0]).drop.drop
    refine ⟨rfl, ?_⟩
    rw [findS_no hse]
    exact Sts.idxShut T5
   case true =>
    have r5 := HT3.out.row1; have l5 := row_lt r5; have c5 := row_cell r5
    go_wp2_with fail
    clear r5 l5 c5
    have TP := HT3.out.ord [5, 0, 1, 2, 3, 4]
    have HKEY := Lib.hid hs
    clear HT3
    have UND : Tryz.prog.underlying 90 = some (.map 3 89) := Tryz.underlying90
    generalize hwc : w3 = wc at *
    obtain ⟨u, n, g, O, hnN, hv, T1, -, hput⟩ := TP.kmapPick d.ses HKEY.out
    have T1 := T1.ord [0, 3, 5, 4, 1, 2, 6, 7]
    have hlen : (J.ses d.ses).length + 1 ≤ 1000001 := by have := HJ.out.ses d.ses; have := HJ.out.N; omega
    have h63 : (J.ses d.ses).length + 1 ≤ maxLen := by unfold maxLen; omega
    have hby : ((J.ses d.ses).length + 1) * 16 ≤ 140737488355328 := by omega
    have hnm : n < maxLen := by have := HJ.out.N; unfold maxLen; omega
    have HBY := Lib.hid hby; have H63 := Lib.hid h63; have HNM := Lib.hid hnm; have HNN := Lib.hid hnN; have HPUT := Lib.hid hput
    clear hby h63 hlen hnm hnN hput
    have FS : ∀ W' R', Sts W G W' (mapR Tryz.prog _ _ id _ bs n g :: rowR s (spCells lg bk v bs) :: rowR g1 (IV x) :: rowR (g1 + 1) (EV d) :: R') → (W'.cell? ⟨s, 3, none⟩ = some (.map (some bs)) ∧ row? W' g1 = some (IV x) ∧ W'.cell? ⟨g1 + 1, 4, none⟩ = some (Value.int .i64 d.ses) ∧ (Instr.lookup 90 (.map (some bs)) (Value.int .i64 d.ses) false).run Tryz.prog W' = .ok u W') := fun W' R' T => ⟨row_cell T.row1 3, T.row2, row_cell T.row3 4, T.map.look0 intOk UND zeroItems d.ses HKEY.out hv⟩
    have S0 := FS _ _ T1.drew
    have hm : ∀ W', (W'.cell? ⟨s, 3, none⟩ = some (.map (some bs)) ∧ row? W' g1 = some (IV x) ∧ W'.cell? ⟨g1 + 1, 4, none⟩ = some (Value.int .i64 d.ses) ∧ (Instr.lookup 90 (.map (some bs)) (Value.int .i64 d.ses) false).run Tryz.prog W' = .ok u W') → True := fun _ _ => trivial
    have HFS := Lib.hid FS; have HM := Lib.hid hm; have HT := Lib.hid T1
    clear FS hm T1 TP hv
    refine wp_region_stage (fun W' => (W'.cell? ⟨s, 3, none⟩ = some (.map (some bs)) ∧ row? W' g1 = some (IV x) ∧ W'.cell? ⟨g1 + 1, 4, none⟩ = some (Value.int .i64 d.ses) ∧ (Instr.lookup 90 (.map (some bs)) (Value.int .i64 d.ses) false).run Tryz.prog W' = .ok u W')) (fun W' => True) 16 (by kernel_rfl) S0 (fun hHeld => ?_)
    clear S0
    refine tk0 0 rfl ?_
    simp only [Act.put, List.setIfInBounds_toArray, List.set_cons_zero, List.set_cons_succ]
    refine tk0 1 rfl ?_
    go_frame
    refine tk0 2 rfl ?_
    go_frame
    refine tk0 3 rfl ?_
    go_frame
    refine tk0 4 rfl ?_
    go_frame
    refine tk0 5 rfl ?_
    go_frame
    refine tk0 6 rfl ?_
    go_frame
    refine tk0 7 rfl ?_
    go_frame
    refine tk0 8 rfl ?_
    go_frame
    refine tk0 9 rfl ?_
    go_frame
    refine tk0 10 rfl ?_
    go_frame
    refine tk0 11 rfl ?_
    go_frame
    refine tk0 12 rfl ?_
    go_frame
    refine tk0 13 rfl ?_
    go_frame
    refine wpAnyL_ready (rs := [14]) (by kernel_rfl) (by simp) ?_
    refine AllReadyL.cons0 (o := _) rfl (by kernel_rfl) (fun K hK => ?_) AllReadyL.nil
    have Ta := (HT.out.new (IV x) 33).drew
    have HTa := Lib.hid Ta; clear Ta HT
    go_simp
    refine hK.out _ _ ?_ (fun hHeld => ?_)
    ·exact HFS.out _ _ HTa.out.drop
    clear hK K
    refine wpAnyL_ready (rs := [15]) (by kernel_rfl) (by simp) ?_
    refine AllReadyL.cons0 (o := _) rfl (by kernel_rfl) (fun K hK => ?_) AllReadyL.nil
    have Tb := HTa.out.ord [5, 0, 1, 2, 3, 4, 6, 7, 8]
    clear HTa
    refine step_append_vec (by rfl) _ _ _ (by rfl) 33 i0 _ 2 16 Tryz.underlying89 hi hz0 hz1 hz2 rfl (by omega) u (J.ses d.ses).length (vl IV (J.ses d.ses)) (by rfl) Tb ⟨wc.heap.size, 0, none⟩ 1 1 (IV x).toList (by rfl) (by rfl) (news_row Tb.row1) HOK.out (by omega) H63.out HBY.out ?_
    intro gv' cap1 w2 T1
    have T1 := T1.ord [2, 3, 4, 5, 0, 6, 7, 8, 1]
    refine hK.out _ _ ?_ (fun hHeld => ?_)
    ·exact HFS.out _ _ T1
    clear hK K Tb HFS
    obtain ⟨W9, hput9, T9, -⟩ := T1.mapPut intOk UND HNM.out d.ses HKEY.out (.slice (some ⟨gv', 0, none⟩) ((J.ses d.ses).length + 1) cap1)
    clear T1
    have HT9 := Lib.hid T9; clear T9
    refine wpAnyL_ready (rs := [16]) (by kernel_rfl) (by simp) ?_
    refine AllReadyL.cons1 (o := _) rfl (by kernel_rfl) (fun K hK => ?_) AllReadyL.nil
    have hput8 : (Instr.mapUpdate 90 (.map (some bs)) (Value.int .i64 d.ses) (.slice (some ⟨gv', 0, none⟩) ((J.ses d.ses).length + 1) cap1)).run Tryz.prog w2 = .ok () W9 := hput9
    clear hput9
    go_simp
    refine hK.out _ _ trivial (fun hHeld => ?_)
    clear hK K hput8
    refine wpAnyL_done (by kernel_rfl) ?_ _
    try simp only [Exit.then]
    have T5 := HT9.out.ord [8, 0, 4, 5, 1, 3, 2, 6, 7]
    have T6 := HPUT.out _ _ _ _ (.slice (some ⟨gv', 0, none⟩) ((J.ses d.ses).length + 1) cap1) (J.ses d.ses ++ [x]) (n + 1) (J.N + 1) (by rw [vl_snoc, List.length_append]; exact T5.drop) (by have := HNN.out; omega)
    have T7 := (T6.ord [2, 3, 1, 4, 5, 0]).drop.drop
    refine bodyPost_end (results_none rfl _ _ _) rfl ?_
    refine ⟨rfl, ?_⟩
    rw [findS_yes hse]
    exact Sts.idxShut T7
end Go.Proofs.YtomlilkobhkoiaaGreatDoor
