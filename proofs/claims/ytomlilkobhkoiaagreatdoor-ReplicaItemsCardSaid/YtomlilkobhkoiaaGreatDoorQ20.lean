/- Several texts in one. -/
import Derived.Test.YtomlilkobhkoiaaGreatDoorQ14
import Derived.Test.YtomlilkobhkoiaaGreatDoorQ11
import Derived.Test.YtomlilkobhkoiaaGreatDoorQ18
import Derived.Test.YtomlilkobhkoiaaGreatDoorQ19
import Derived.Test.YtomlilkobhkoiaaGreatDoorQ4
/- Layer 9: the ledger as things in memory; the plate is written anew (tidy). -/
namespace Go.Proofs.YtomlilkobhkoiaaGreatDoor
open Go.RowKit Go.Shelf
set_option linter.unusedVariables false
set_option maxRecDepth 20000
attribute [local go_sem] Oper.semAt_some
attribute [local go_sem] row_alloc row_drew row_drewN row_ext row_setCell row_setRow size_ext setRow_alloc setRow_drew loadOf storeOf piece_lit loadVal_at storeVal_at allOne_lit buildOf buildRes_some
attribute [local go_sem high] cell_alloc frozen_alloc setCell_alloc cell_ext frozen_ext cell_setRow frozen_setRow
attribute [local go_sem ↓] TDeed_ld0 TDeed_st0 TDeed_fd0 TDeed_bd0
attribute [local go_sem] TDeed_size TDeed_one TDeed_piece TDeed_c0 TDeed_c1 TDeed_c2 TDeed_c3 TDeed_c4 TDeed_c5 TDeed_set_kind TDeed_set_key TDeed_set_val TDeed_set_ver TDeed_set_ses TDeed_set_num TDeed_ld TDeed_st TDeed_f_kind TDeed_f_key TDeed_f_val TDeed_f_ver TDeed_f_ses TDeed_f_num TDeed_bd TDeed_fl TDeed_fl_kind TDeed_fl_key TDeed_fl_val TDeed_fl_ver TDeed_fl_ses TDeed_fl_num
attribute [local go_sem high] TDeed_eql TDeed_neq
attribute [local go_sem ↓] index_deps0 load_deps0 store_deps0
attribute [local go_sem] DV_piece DV_size DV_one index_deps load_deps store_deps
attribute [local go_sem high] TDeps_eql TDeps_neq
attribute [local go_sem ↓] TCall_ld0 TCall_st0 TCall_fd0 TCall_bd0
attribute [local go_sem] TCall_size TCall_one TCall_piece TCall_c0 TCall_c1 TCall_c2 TCall_c3 TCall_c4 TCall_c5 TCall_c6 TCall_c7 TCall_c8 TCall_c9 TCall_c10 TCall_c11 TCall_c12 TCall_c13 TCall_p_deed TCall_put_deed TCall_p_deps TCall_put_deps TCall_set_seq TCall_ld TCall_st TCall_f_deed TCall_f_deps TCall_f_seq TCall_bd TCall_fl TCall_fl_deed TCall_fl_deps TCall_fl_seq
attribute [local go_sem high] TCall_eql TCall_neq
attribute [local go_sem ↓] TItem_ld0 TItem_st0 TItem_fd0 TItem_bd0
attribute [local go_sem] TItem_size TItem_one TItem_piece TItem_c0 TItem_c1 TItem_set_rep TItem_set_num TItem_ld TItem_st TItem_f_rep TItem_f_num TItem_bd TItem_fl TItem_fl_rep TItem_fl_num
attribute [local go_sem high] TItem_eql TItem_neq
attribute [local go_sem ↓] TBallot_ld0 TBallot_st0 TBallot_fd0 TBallot_bd0
attribute [local go_sem] TBallot_size TBallot_one TBallot_piece TBallot_c0 TBallot_c1 TBallot_set_round TBallot_set_rep TBallot_ld TBallot_st TBallot_f_round TBallot_f_rep TBallot_bd TBallot_fl TBallot_fl_round TBallot_fl_rep
attribute [local go_sem high] TBallot_eql TBallot_neq
attribute [local go_sem ↓] TInst_ld0 TInst_st0 TInst_fd0 TInst_bd0
attribute [local go_sem] TInst_size TInst_one TInst_piece TInst_c0 TInst_c1 TInst_c2 TInst_c3 TInst_c4 TInst_c5 TInst_c6 TInst_c7 TInst_c8 TInst_c9 TInst_c10 TInst_c11 TInst_c12 TInst_c13 TInst_c14 TInst_c15 TInst_c16 TInst_c17 TInst_c18 TInst_c19 TInst_p_prom TInst_put_prom TInst_p_vote TInst_put_vote TInst_set_status TInst_p_call TInst_put_call TInst_set_same TInst_ld TInst_st TInst_f_prom TInst_f_vote TInst_f_status TInst_f_call TInst_f_same TInst_bd TInst_fl TInst_fl_prom TInst_fl_vote TInst_fl_status TInst_fl_call TInst_fl_same
attribute [local go_sem high] TInst_eql TInst_neq
def ledCells (p g : Nat) (n : Int) : Array Value := #[.pointer (some ⟨p, 0, none⟩), .int .i64 n, .pointer (some ⟨g, 0, none⟩)]
/-- A ledger: its cells, its plate, its rows. -/
def ledL (l p g : Nat) (D : List UInt8) (safe : Nat) (m : RowsM) : List Res := [rowR l (ledCells p g m.n), plR p D safe, rowsIR g m]
set_option maxHeartbeats 1000000 in
theorem irAllS {w W : World} {F : Nat → Prop} {L : List Res} (T : Sts w F W L) (g : Nat) : Calls Tryz.prog 63 #[.pointer (some ⟨g, 0, none⟩)] W fun e W' => e = .returned (.func (.func 109) #[] #[.pointer (some ⟨W.heap.size, 0, none⟩)]) ∧ Sts w F W' (rowR W.heap.size #[.pointer (some ⟨g, 0, none⟩)] :: L) := by
 have T := T.new #[.pointer (some ⟨g, 0, none⟩)] 151
 go_enter Tryz.func63, Tryz.ntmps63
 go_wp2
 go_ret
 exact ⟨rfl, T⟩
/-- The records of entries. -/
def recOf (e : Item × Inst) : List UInt8 := sealS (recB e.1 e.2)
def recsOf (l : List (Item × Inst)) : List UInt8 := l.flatMap recOf
theorem entR_len (m : RowsM) (r k : Nat) : (entR m r k).length ≤ k := by
 unfold entR; exact Nat.le_trans (List.length_filterMap_le _ _) (by simp)
theorem ents_len {m : RowsM} (h : RowsOk m) : (ents m).length ≤ 448 := by
 have hk : ∀ r, (entsTo m r).length ≤ 64 * r := fun r => by
  induction r with
  | zero => simp [entsTo]
  | succ r ih =>
   have h1 := entR_len m r (topM m r).toNat
   have h2 := h.top (r : Int)
   simp only [entsTo, List.length_append]; omega
 exact hk 7
theorem recsOf_take {l : List (Item × Inst)} {k : Nat} {x : Item × Inst} (h : l[k]? = some x) : recsOf (l.take (k + 1)) = recsOf (l.take k) ++ recOf x := by
 unfold recsOf
 rw [List.take_add_one, h, List.flatMap_append]
 simp
theorem recOf_len {x : Item} {i : Inst} (h1 : In64 x.rep) (h2 : In64 x.num) (h : InstIn i 100) : (recOf (x, i)).length ≤ 310 := by
 have h3 := recB_len h1 h2 h (by omega)
 unfold recOf sealS
 split
 ·simp
 ·have h4 : (enc (recB x i).length).length ≤ 9 := by
   have := encs_len (ns := [((recB x i).length : Int)]) (by simp; omega)
   simpa [encs] using this
  unfold sealB
  simp only [List.length_append, fourB, List.length_cons, List.length_nil]
  omega
theorem recsOf_len : ∀ {l : List (Item × Inst)}, (∀ e ∈ l, In64 e.1.rep ∧ In64 e.1.num ∧ InstIn e.2 100) → (recsOf l).length ≤ 310 * l.length
 | [], _ => by simp [recsOf]
 | e :: l, h => by
  have h1 := recsOf_len (l := l) fun x hx => h x (by simp [hx])
  have h2 := h e (by simp)
  have h3 : (recOf e).length ≤ 310 := recOf_len h2.1 h2.2.1 h2.2.2
  have h4 : recsOf (e :: l) = recOf e ++ recsOf l := by simp [recsOf]
  rw [h4, List.length_append, List.length_cons]
  omega
section
variable {P : Program} {w W : World} {F : Nat → Prop} {R : List Res}
theorem step_append_str {ops : Array Oper} {o : Oper} {a : Act} {K : Act → World → Prop} {Q : Exit → Act → World → Prop} {E : Prop} (hgd : o.guard = none) (sl x : Operand) (t u : TypeId)
  (ho : o.op = .call { callee := .builtin .append, args := #[sl, x], argTypes := #[t, u] })
  (e : TypeId) (i : TypeInfo) (ht : P.underlying t = some (.slice e)) (hu : P.underlying u = some .string) (hi : P.info? e = some i) (hz : i.zero = some (.int .u8 0))
  (hsize : i.size = 1) (hby : i.bytes = 1)
  (v : Value) (n : Nat) (xs : List Value) (hs : a.eval sl = v) (T : Sts w F W (vecR e 1 v n xs :: R)) (s : ByteArray) (hx : a.eval x = .string s)
  (h63 : n + s.size ≤ maxLen) (hbytes : n + s.size ≤ 140737488355328)
  (h : ∀ v' w', Sts w F w' (vecR e 1 v' (n + s.size) (xs ++ Lib.strCells s) :: R) → K (a.put o.dst v') w') :
  if Region.wanted o (yielded ops a.tmps) = true then Oper.wp P o a W K Q else E := by
 have hw : Region.wanted o (yielded ops a.tmps) = true := by unfold Region.wanted; rw [hgd]
 rw [if_pos hw]
 obtain ⟨v', w', hr, h2, h3, h4⟩ := run_append_str_at (P := P) W t u o.type e i ht hu hi hz hsize hby v n xs T.vec s h63 hbytes
 unfold Oper.wp execOp
 simp only [ho, resolve, invoke, builtin, Sem.run_bind, Sem.run_pure, Result.andThen_ok, List.map_toArray, List.map_cons, List.map_nil, hs, hx, hr]
 exact h v' w' (T.grown h2 h3 h4)
end
theorem Sts.nilTail {w W : World} {F : Nat → Prop} {M R : List Res} (h : Sts w F W (M ++ R)) : Sts w F W M := by
 obtain ⟨⟨G, hs, hg⟩, m⟩ := h
 obtain ⟨A, B, ha, hb, hd, hf⟩ := hs.parts
 exact ⟨⟨A, ha, fun k hk => hg k ((hf k).2 (.inl hk))⟩, m⟩
theorem snk_shut2 {w W : World} {F : Nat → Prop} {R : List Res} {b n : Nat} {V : Value} {xs : List Value} {l : List UInt8} (hn : n = l.length) (hx : xs = bytesV l) (T : Sts w F W (rowR b #[V] :: vecR 5 1 V n xs :: R)) : Sts w F W (snkR b l :: R) := by
 subst hn hx; exact snk_shut T
/-- All that stands there has a record. -/
def EntsIn (m : RowsM) : Prop := ∀ e ∈ ents m, In64 e.1.rep ∧ In64 e.1.num ∧ InstIn e.2 100
noncomputable def tidyP (D : List UInt8) (safe : Nat) (m : RowsM) : List UInt8 × Nat × Int := if (recsOf (ents m)).length ≤ 65536 then (recsOf (ents m), (recsOf (ents m)).length, 0) else (D, safe, 6)
set_option maxHeartbeats 4000000 in
theorem tidyD (l p g : Nat) (D : List UInt8) (safe : Nat) (m : RowsM) (hm : RowsOk m) (he : EntsIn m) :
  Does Tryz.prog 224 #[.pointer (some ⟨l, 0, none⟩)] (ledL l p g D safe m) (.int .i64 (tidyP D safe m).2.2) (ledL l p g (tidyP D safe m).1 (tidyP D safe m).2.1 m) := by
 intro W G hS
 refine (callsIn_wide (n := 4)).1 ?_
 have T := (Sts.start hS).new #[.slice none 0 0] 73
 clear hS
 refine callsIn_of_wp_marks Tryz.func224 rfl trivial ?_ rfl
 simp only [Tryz.ntmps224, List.size_toArray, List.length_cons, List.length_nil, Nat.reduceAdd, Nat.reduceSub, Array.replicate_succ, Array.replicate_zero, List.push_toArray, List.append_toArray, List.nil_append, List.cons_append]
 refine wpIn_wide.2 ?_
 unfold ledL at T
 have r1 := T.row1
 have l1 := row_lt r1
 have c1 : (W.alloc (.cells #[.slice none 0 0] 73)).cell? ⟨l, 2, none⟩ = some (.pointer (some ⟨g, 0, none⟩)) := row_cell r1 2
 go_wp2_with fail
 refine (irAllS T g).mono ?_
 clear T r1 l1 c1
 rintro e w1 ⟨rfl, T⟩
 go_wp2_with fail
 simp only [World.size_alloc] at T
 generalize hc : W.heap.size + 1 = c at *
 generalize hb : W.heap.size = b at *
 have T0 : Sts W G w1 ([snkR b (recsOf ((ents m).take 0))] ++ (iterIR c g m ++ [rowR l (ledCells p g m.n), plR p D safe])) := by
  have := (T.vecNil 5 1).ord [2, 0, 1, 5, 3, 4]
  exact snk_shut (v := .slice none 0 0) this
 clear T
 refine (wpIn_wide (n := 4)).1 ?_
 refine wp_rangeSts (gf := 109) (lb := #[.pointer (some ⟨c, 0, none⟩)]) (enc := fun x : Item × Inst => #[.agg (IV x.1), .agg (NV x.2)]) (xs := ents m)
  (fun k => [snkR b (recsOf ((ents m).take k))]) (fun _ _ => [noR]) (iterIR c g m ++ [rowR l (ledCells p g m.n), plR p D safe])
  (fun k x a' own' => ∃ b1 b2, own' = [rowR b2 (NV x.2), rowR b1 (IV x.1), snkR b (recsOf ((ents m).take k))] ∧ a' = { tmps := #[.pointer (some ⟨l, 0, none⟩), undef, .int .i64 0, .pointer (some ⟨b, 0, none⟩), .pointer (some ⟨b1, 0, none⟩), .pointer (some ⟨b2, 0, none⟩), .pointer (some ⟨l, 0, none⟩), .pointer (some ⟨l, 0, none⟩), .pointer (some ⟨l, 2, none⟩), .pointer (some ⟨g, 0, none⟩), .func (.func 109) #[] #[.pointer (some ⟨c, 0, none⟩)], .agg (IV x.1), .agg (NV x.2), undef, undef, undef, undef, undef, undef, undef, undef, undef, undef, undef, undef], defers := [] })
  rfl (enters_of Tryz.func109 (by kernel_rfl) rfl) (fun _ => rfl) (Gives.part fun H hS => irAllG c g m hm _ H hS) T0 ?calm ?calmX ?assign ?body ?done ?stop
 case calm => exact fun k => calmL_cons (exR_calm fun v => starR_calm (rowR_calm _ _ _) (vecR_calm _ _ _ _ _ _)) (calmL_nil _)
 case calmX => exact fun _ _ => calmL_cons (noR_calm _) (calmL_nil _)
 case assign =>
  intro lr k x W1 G1 K hx T1 hK
  have T2 := ((T1.new (IV x.1) 33).new (NV x.2) 70)
  rw [World.size_alloc] at T2
  have HT2 := Lib.hid T2
  clear T0 T1 T2
  gi_wp2
  exact hK _ _ _ ⟨_, _, rfl, rfl⟩ HT2.out
 case body =>
  rintro lr k x _ _ W1 G1 hx ⟨b1, b2, rfl, rfl⟩ T1 -
  clear T0
  have hin := he x (List.mem_of_getElem? hx)
  have hrec := record_any x.1 x.2 100 hin.1 hin.2.1 hin.2.2 (by omega)
  have hln1 : (recsOf ((ents m).take k)).length ≤ 310 * 448 := by
   have h1 := recsOf_len (l := (ents m).take k) fun e h => he e (List.mem_of_mem_take h)
   have h2 := ents_len hm
   have h3 : ((ents m).take k).length ≤ (ents m).length := List.length_take_le' _ _
   omega
  have hln2 : (sealS (recB x.1 x.2)).length ≤ 310 := recOf_len hin.1 hin.2.1 hin.2.2
  have hnx : recsOf ((ents m).take (k + 1)) = recsOf ((ents m).take k) ++ sealS (recB x.1 x.2) := recsOf_take hx
  have HNX := Lib.hid hnx; have HREC := Lib.hid hrec
  clear hnx hrec hin hx
  generalize hA : recsOf ((ents m).take k) = acc at *
  clear hA
  obtain ⟨A, c2, T2⟩ := snk_open (T1.ord [2, 0, 1])
  clear T1
  gi_wp2_with fail
  have FS : ∀ W' R', Sts W1 G1 W' (rowR b #[.slice A acc.length c2] :: rowR b2 (NV x.2) :: rowR b1 (IV x.1) :: R') → (W'.cell? ⟨b, 0, none⟩ = some (.slice A acc.length c2) ∧ row? W' b2 = some (NV x.2) ∧ row? W' b1 = some (IV x.1)) := fun W' R' T => ⟨row_cell T.row 0, T.row1, T.row2⟩
  have S0 := FS _ _ (T2.drew.ord [0, 2, 3, 1])
  obtain ⟨i0, hi, hz0, hz1, hz2⟩ := u8_info'
  have HFS := Lib.hid FS
  have HT := Lib.hid (T2.drew)
  clear FS T2
  refine wpIn_region_stage (fun W' => (W'.cell? ⟨b, 0, none⟩ = some (.slice A acc.length c2) ∧ row? W' b2 = some (NV x.2) ∧ row? W' b1 = some (IV x.1))) (fun _ => True) 5 (by kernel_rfl) (by kernel_rfl) S0 (fun hHeld => ?_)
  clear S0
  refine tk0 0 rfl ?_
  simp only [Act.put, List.setIfInBounds_toArray, List.set_cons_zero, List.set_cons_succ]
  refine tk0 1 rfl ?_
  go_frame
  refine tk0 2 rfl ?_
  go_frame
  refine wpAnyL_ready (rs := [3]) (by kernel_rfl) (by simp) ?_
  refine AllReadyL.cons0 (o := _) rfl (by kernel_rfl) (fun K hK => ?_) AllReadyL.nil
  go_simp
  refine (HREC.out _).mono ?_
  rintro e w2 ⟨rfl, hb⟩
  have T3 := HT.out.pure hb
  clear hb HT HREC
  refine hK.out _ _ ?_ (fun hHeld => ?_)
  ·exact HFS.out _ _ (T3.ord [0, 2, 3, 1])
  clear hK K
  refine wpAnyL_ready (rs := [4]) (by kernel_rfl) (by simp) ?_
  refine AllReadyL.cons0 (o := _) rfl (by kernel_rfl) (fun K hK => ?_) AllReadyL.nil
  refine step_append_str (by rfl) _ _ _ _ (by rfl) 5 i0 Tryz.underlying73 Tryz.underlying9 hi hz0 hz1 hz2 (.slice A acc.length c2) acc.length (bytesV acc) (by rfl) (T3.ord [1, 0]) (strL (sealS (recB x.1 x.2))) (by rfl) (by rw [strL_size]; unfold maxLen; omega) (by rw [strL_size]; omega) ?_
  intro v' w3 T4
  clear T3
  obtain ⟨A3, c3, rfl⟩ := vec_shape T4
  refine hK.out _ _ ?_ (fun hHeld => ?_)
  ·exact HFS.out _ _ (T4.ord [1, 2, 3, 0])
  clear hK K
  have hf := row_frozen T4.row1 0
  have T5 := (T4.ord [1, 0]).setCell 0 (.slice A3 (acc.length + (strL (sealS (recB x.1 x.2))).size) c3)
  refine wpAnyL_ready (rs := [5]) (by kernel_rfl) (by simp) ?_
  refine AllReadyL.cons1 (o := _) rfl (by kernel_rfl) (fun K hK => ?_) AllReadyL.nil
  clear T4
  have HT5 := Lib.hid T5; clear T5
  go_simp
  refine hK.out _ _ trivial (fun _ => ?_)
  clear hK K
  refine wpAnyL_done (by kernel_rfl) ?_ _
  have T6 : Sts W1 G1 (w3.setCell ⟨b, 0, none⟩ (.slice A3 (acc.length + (strL (sealS (recB x.1 x.2))).size) c3)) [snkR b (acc ++ sealS (recB x.1 x.2))] := by
   have T6 := (HT5.out.ord [2, 3, 0, 1]).drop.drop
   have e : acc.length + (strL (sealS (recB x.1 x.2))).size = (acc ++ sealS (recB x.1 x.2)).length := by rw [List.length_append, strL_size]
   have e2 : bytesV acc ++ Lib.strCells (strL (sealS (recB x.1 x.2))) = bytesV (acc ++ sealS (recB x.1 x.2)) := by rw [bytesV_str]; simp [bytesV, strL]
   exact snk_shut2 e e2 T6
  rw [← HNX.out] at T6
  have H6 := Lib.hid T6; clear T6 HT5
  change Exit.inBlock 1 _ Exit.normal _ _
  gi_wp2
  exact H6.out
 case done =>
  intro D1 W1 T1
  clear T0
  rw [List.take_length] at T1
  have hln : (recsOf (ents m)).length ≤ 310 * 448 := by
   have h1 := recsOf_len (l := ents m) he
   have h2 := ents_len hm
   omega
  have htp : tidyP D safe m = if (recsOf (ents m)).length ≤ 65536 then (recsOf (ents m), (recsOf (ents m)).length, 0) else (D, safe, 6) := rfl
  have HTP := Lib.hid htp; clear htp he
  generalize hR : recsOf (ents m) = all at *
  have T2 : Sts W G W1 (snkR b all :: objR D1 (.deferred (some [])) :: rowR c #[.pointer (some ⟨g, 0, none⟩)] :: rowsIR g m :: rowR l (ledCells p g m.n) :: plR p D safe :: []) := Sts.swap (r := objR D1 (.deferred (some []))) (s := snkR b all) T1
  clear T1
  obtain ⟨A, c2, T2⟩ := snk_open T2
  have T2 := T2.ord [0, 1, 5, 6, 2, 3, 4]
  -- the box, the bytes, the ledger, the plate, the mark, the iterator's variable, the rows
  have FS : ∀ W' R', Sts W G W' (rowR b #[.slice A all.length c2] :: byR (.slice A all.length c2) all :: rowR l (ledCells p g m.n) :: R') → (W'.cell? ⟨b, 0, none⟩ = some (.slice A all.length c2) ∧ W'.cell? ⟨l, 0, none⟩ = some (.pointer (some ⟨p, 0, none⟩)) ∧ (convert 73 9 (.slice A all.length c2)).run Tryz.prog W' = .ok (.string ⟨all.toArray⟩) W' ∧ l < W'.heap.size) := fun W' R' T => ⟨row_cell T.row 0, row_cell T.row2 0, by_back T.drop, row_lt T.row2⟩
  have S0 := FS _ _ T2.drew
  have HFS := Lib.hid FS
  have HT := Lib.hid T2.drew
  clear FS T2
  go_wp2_with fail
  refine wp_region_noPanic ?_
  refine wp_region_held_drew (S := fun W' => (W'.cell? ⟨b, 0, none⟩ = some (.slice A all.length c2) ∧ W'.cell? ⟨l, 0, none⟩ = some (.pointer (some ⟨p, 0, none⟩)) ∧ (convert 73 9 (.slice A all.length c2)).run Tryz.prog W' = .ok (.string ⟨all.toArray⟩) W' ∧ l < W'.heap.size)) (by kernel_rfl) S0 (fun hHeld => ?_)
  clear S0
  refine tkH 0 rfl ?_
  simp only [Act.put, List.setIfInBounds_toArray, List.set_cons_zero, List.set_cons_succ]
  refine tkH 1 rfl ?_
  go_frame
  refine tkH 2 rfl ?_
  go_frame
  refine tkH 3 rfl ?_
  go_frame
  refine tkH 4 rfl ?_
  go_frame
  refine tkH 5 rfl ?_
  go_frame
  refine wpAnyH_ready (rs := [6]) (by kernel_rfl) (by simp) ?_
  refine AllReadyH.cons (o := _) rfl (fun K hK => ?_) AllReadyH.nil
  go_simp
  have T3 := HT.out.ord [3, 0, 1, 2]
  have hrp := replaceT T3 (strL all) (by rw [strL_size]; omega)
  rw [strL_size] at hrp
  by_cases hle : all.length ≤ 65536
  ·simp only [if_pos hle] at hrp
   have HRP := Lib.hid hrp; clear hrp T3
   refine HRP.out.mono ?_
   rintro e w2 ⟨rfl, T4⟩
   refine hK.out _ _ ?_ (fun hHeld => ?_)
   ·exact HFS.out _ _ (T4.ord [1, 2, 3, 0])
   clear hK K HT HRP
   refine tkH 7 rfl ?_
   simp only [Act.put, List.setIfInBounds_toArray, List.set_cons_zero, List.set_cons_succ]
   refine wpAnyH_done (by kernel_rfl) ?_ _
   refine NoPanic.normal ?_
   have T5 := T4.ord [4, 3, 0, 6, 1, 2, 5]
   have hD := T5.obj
   have T6 := (T5.putObj (.deferred none)).drop.ord [0, 1, 2]
   have T7 : Sts W G (w2.putObj D1 (.deferred none)) (ledL l p g (tidyP D safe m).1 (tidyP D safe m).2.1 m) := by
    rw [HTP.out, if_pos hle]
    have := T6
    refine Sts.nilTail (M := [rowR l (ledCells p g m.n), plR p all all.length, rowsIR g m]) this
   have hv : (tidyP D safe m).2.2 = 0 := by rw [HTP.out, if_pos hle]
   have H7 := Lib.hid T7; have HD := Lib.hid hD; have HV := Lib.hid hv
   clear T4 T5 T6 T7 hD hv HTP
   simp only [Exit.then]
   go_wp2
   exact retM1 HD.out (results_tmp rfl _ _ _) ⟨by rw [HV.out]; rfl, H7.out⟩ rfl
  ·simp only [if_neg hle] at hrp
   have HRP := Lib.hid hrp; clear hrp
   refine HRP.out.mono ?_
   rintro e w2 ⟨rfl, rfl⟩
   have T4 := T3
   refine hK.out _ _ ?_ (fun hHeld => ?_)
   ·exact HFS.out _ _ (T4.ord [1, 2, 3, 0])
   clear hK K HT HRP T3
   refine tkH 7 rfl ?_
   simp only [Act.put, List.setIfInBounds_toArray, List.set_cons_zero, List.set_cons_succ]
   refine wpAnyH_done (by kernel_rfl) ?_ _
   refine NoPanic.normal ?_
   have T5 := T4.ord [4, 3, 0, 6, 1, 2, 5]
   have hD := T5.obj
   have T6 := (T5.putObj (.deferred none)).drop.ord [0, 1, 2]
   have T7 : Sts W G (W1.drew.putObj D1 (.deferred none)) (ledL l p g (tidyP D safe m).1 (tidyP D safe m).2.1 m) := by
    rw [HTP.out, if_neg hle]
    have := T6
    refine Sts.nilTail (M := [rowR l (ledCells p g m.n), plR p D safe, rowsIR g m]) this
   have hv : (tidyP D safe m).2.2 = 6 := by rw [HTP.out, if_neg hle]
   have H7 := Lib.hid T7; have HD := Lib.hid hD; have HV := Lib.hid hv
   clear T4 T5 T6 T7 hD hv HTP
   simp only [Exit.then]
   go_wp2
   exact retM1 HD.out (results_tmp rfl _ _ _) ⟨by rw [HV.out]; rfl, H7.out⟩ rfl
 case stop =>
  intro D1 cd k W1 _ _ T1
  exact T1.drop.no.elim
end Go.Proofs.YtomlilkobhkoiaaGreatDoor
/- Layer 9: the ledger's calls but Open: Size, Top, At, All, Sync, Add. -/
namespace Go.Proofs.YtomlilkobhkoiaaGreatDoor
open Go.RowKit Go.Shelf
set_option linter.unusedVariables false
set_option maxRecDepth 20000
attribute [local go_sem] row_alloc row_drew row_drewN row_ext row_setCell row_setRow size_ext setRow_alloc setRow_drew loadOf storeOf piece_lit loadVal_at storeVal_at allOne_lit buildOf buildRes_some
attribute [local go_sem high] cell_alloc frozen_alloc setCell_alloc cell_ext frozen_ext cell_setRow frozen_setRow
attribute [local go_sem ↓] TDeed_ld0 TDeed_st0 TDeed_fd0 TDeed_bd0
attribute [local go_sem] TDeed_size TDeed_one TDeed_piece TDeed_c0 TDeed_c1 TDeed_c2 TDeed_c3 TDeed_c4 TDeed_c5 TDeed_set_kind TDeed_set_key TDeed_set_val TDeed_set_ver TDeed_set_ses TDeed_set_num TDeed_ld TDeed_st TDeed_f_kind TDeed_f_key TDeed_f_val TDeed_f_ver TDeed_f_ses TDeed_f_num TDeed_bd TDeed_fl TDeed_fl_kind TDeed_fl_key TDeed_fl_val TDeed_fl_ver TDeed_fl_ses TDeed_fl_num
attribute [local go_sem high] TDeed_eql TDeed_neq
attribute [local go_sem ↓] index_deps0 load_deps0 store_deps0
attribute [local go_sem] DV_piece DV_size DV_one index_deps load_deps store_deps
attribute [local go_sem high] TDeps_eql TDeps_neq
attribute [local go_sem ↓] TCall_ld0 TCall_st0 TCall_fd0 TCall_bd0
attribute [local go_sem] TCall_size TCall_one TCall_piece TCall_c0 TCall_c1 TCall_c2 TCall_c3 TCall_c4 TCall_c5 TCall_c6 TCall_c7 TCall_c8 TCall_c9 TCall_c10 TCall_c11 TCall_c12 TCall_c13 TCall_p_deed TCall_put_deed TCall_p_deps TCall_put_deps TCall_set_seq TCall_ld TCall_st TCall_f_deed TCall_f_deps TCall_f_seq TCall_bd TCall_fl TCall_fl_deed TCall_fl_deps TCall_fl_seq
attribute [local go_sem high] TCall_eql TCall_neq
attribute [local go_sem ↓] TItem_ld0 TItem_st0 TItem_fd0 TItem_bd0
attribute [local go_sem] TItem_size TItem_one TItem_piece TItem_c0 TItem_c1 TItem_set_rep TItem_set_num TItem_ld TItem_st TItem_f_rep TItem_f_num TItem_bd TItem_fl TItem_fl_rep TItem_fl_num
attribute [local go_sem high] TItem_eql TItem_neq
attribute [local go_sem ↓] TBallot_ld0 TBallot_st0 TBallot_fd0 TBallot_bd0
attribute [local go_sem] TBallot_size TBallot_one TBallot_piece TBallot_c0 TBallot_c1 TBallot_set_round TBallot_set_rep TBallot_ld TBallot_st TBallot_f_round TBallot_f_rep TBallot_bd TBallot_fl TBallot_fl_round TBallot_fl_rep
attribute [local go_sem high] TBallot_eql TBallot_neq
attribute [local go_sem ↓] TInst_ld0 TInst_st0 TInst_fd0 TInst_bd0
attribute [local go_sem] TInst_size TInst_one TInst_piece TInst_c0 TInst_c1 TInst_c2 TInst_c3 TInst_c4 TInst_c5 TInst_c6 TInst_c7 TInst_c8 TInst_c9 TInst_c10 TInst_c11 TInst_c12 TInst_c13 TInst_c14 TInst_c15 TInst_c16 TInst_c17 TInst_c18 TInst_c19 TInst_p_prom TInst_put_prom TInst_p_vote TInst_put_vote TInst_set_status TInst_p_call TInst_put_call TInst_set_same TInst_ld TInst_st TInst_f_prom TInst_f_vote TInst_f_status TInst_f_call TInst_f_same TInst_bd TInst_fl TInst_fl_prom TInst_fl_vote TInst_fl_status TInst_fl_call TInst_fl_same
attribute [local go_sem high] TInst_eql TInst_neq
theorem led_n (p g : Nat) (n : Int) : (ledCells p g n)[1]? = some (.int .i64 n) := rfl
theorem led_p (p g : Nat) (n : Int) : (ledCells p g n)[0]? = some (.pointer (some ⟨p, 0, none⟩)) := rfl
theorem led_g (p g : Nat) (n : Int) : (ledCells p g n)[2]? = some (.pointer (some ⟨g, 0, none⟩)) := rfl
attribute [local go_sem] led_n led_p led_g
section
variable {w W : World} {F : Nat → Prop} {R : List Res} {l p g : Nat} {n : Int} {D : List UInt8} {safe : Nat} {m : RowsM}
theorem ledSizeT (T : Sts w F W (rowR l (ledCells p g n) :: R)) : Calls Tryz.prog 85 #[.pointer (some ⟨l, 0, none⟩)] W fun e W' => e = .returned (.int .i64 n) ∧ W = W' := by
 have hc := row_cell T.row 1
 rw [led_n] at hc
 have hl := row_lt T.row
 clear T
 go_enter Tryz.func85, Tryz.ntmps85
 go_wp2
 go_ret
 exact ⟨rfl, rfl⟩
theorem ledTopT (hm : RowsOk m) (rep : Int) (T : Sts w F W (ledL l p g D safe m ++ R)) : Calls Tryz.prog 28 #[.pointer (some ⟨l, 0, none⟩), .int .i64 rep] W fun e W' => e = .returned (.int .i64 (topM m rep)) ∧ Below W.heap.size W W' := by
 have T : Sts w F W (rowR l (ledCells p g m.n) :: plR p D safe :: rowsIR g m :: R) := T
 have hc := row_cell T.row 2
 rw [led_g] at hc
 have hl := row_lt T.row
 have ht := (irTopR g m hm.n rep).at1 (T.ord [2, 0, 1])
 have HT := Lib.hid ht
 clear T ht
 go_enter Tryz.func28, Tryz.ntmps28
 go_wp2_with fail
 refine HT.out.mono ?_
 rintro e w1 ⟨rfl, hb⟩
 clear hc hl
 go_wp2
 go_ret
 exact ⟨rfl, hb⟩
theorem ledAllT (T : Sts w F W (rowR l (ledCells p g n) :: R)) : Calls Tryz.prog 31 #[.pointer (some ⟨l, 0, none⟩)] W fun e W' => e = .returned (.func (.func 109) #[] #[.pointer (some ⟨W.heap.size, 0, none⟩)]) ∧ Sts w F W' (rowR W.heap.size #[.pointer (some ⟨g, 0, none⟩)] :: rowR l (ledCells p g n) :: R) := by
 have hc := row_cell T.row 2
 rw [led_g] at hc
 have hl := row_lt T.row
 have ht := irAllS T g
 have HT := Lib.hid ht
 clear T ht
 go_enter Tryz.func31, Tryz.ntmps31
 go_wp2_with fail
 refine HT.out.mono ?_
 rintro e w1 ⟨rfl, T⟩
 have H1 := Lib.hid T; clear T hc hl
 go_wp2
 go_ret
 exact ⟨rfl, H1.out⟩
theorem ledSyncT (T : Sts w F W (ledL l p g D safe m ++ R)) : Calls Tryz.prog 55 #[.pointer (some ⟨l, 0, none⟩)] W fun e W' => e = .returned (.int .i64 0) ∧ Sts w F W' (ledL l p g D D.length m ++ R) := by
 have T : Sts w F W (rowR l (ledCells p g m.n) :: plR p D safe :: rowsIR g m :: R) := T
 have hc := row_cell T.row 0
 rw [led_p] at hc
 have hl := row_lt T.row
 have ht := syncT (T.ord [1, 0])
 have HT := Lib.hid ht
 clear T ht
 go_enter Tryz.func55, Tryz.ntmps55
 go_wp2_with fail
 refine HT.out.mono ?_
 rintro e w1 ⟨rfl, T⟩
 have T2 := T.ord [1, 0]
 have H1 := Lib.hid T2; clear T T2 hc hl
 go_wp2
 go_ret
 exact ⟨rfl, H1.out⟩
end
set_option maxHeartbeats 2000000 in
theorem ledAtR (l p g : Nat) (D : List UInt8) (safe : Nat) (m : RowsM) (hm : RowsOk m) (x : Item) :
  Reads Tryz.prog 48 #[.pointer (some ⟨l, 0, none⟩), .agg (IV x)] (ledL l p g D safe m) (.agg (NV ((getM m x).getD noInst))) := by
 intro W G hS
 obtain ⟨w3, hw3⟩ : ∃ w3, w3 = (W.alloc (.cells (IV x) 33)).alloc (.cells (NV noInst) 70) := ⟨_, rfl⟩
 have T := ((Sts.start0 W).new (IV x) 33).new (NV noInst) 70
 simp only [World.size_alloc] at T
 rw [← hw3] at T
 rw [noInst_lit] at hw3
 have TS : Sts W G W (rowR l (ledCells p g m.n) :: plR p D safe :: rowsIR g m :: []) := Sts.start hS
 have hlW := row_lt TS.row
 have hrl : ∀ W', Below W.heap.size W W' → row? W' l = some (ledCells p g m.n) := fun W' hb => (row_below hb hlW).trans TS.row
 have hat : ∀ W', Below W.heap.size W W' → Calls Tryz.prog 88 #[.pointer (some ⟨g, 0, none⟩), .agg (IV x)] W' fun e W'' => e = .returned (.tuple #[.agg (NV ((getM m x).getD noInst)), .bool (getM m x).isSome]) ∧ Below W'.heap.size W' W'' := fun W' hb =>
  (irAtR g m hm.n x).at1 (R := [rowR l (ledCells p g m.n), plR p D safe]) ((TS.pure hb).ord [2, 0, 1])
 have HRL := Lib.hid hrl; have HAT := Lib.hid hat
 clear hrl hat TS hS
 have r0 := HRL.out w3 T.below
 have c0 := row_cell r0 2
 rw [led_g] at c0
 have l0 := row_lt r0
 go_enter Tryz.func48, Tryz.ntmps48
 go_wp2_with fail
 rw [← hw3]
 clear hw3
 generalize hg2 : W.heap.size + 1 = g2 at *
 generalize hg1 : W.heap.size = g1 at *
 have FS : ∀ W' R', Sts W (fun _ => False) W' (rowR g1 (IV x) :: R') → (W'.cell? ⟨l, 2, none⟩ = some (.pointer (some ⟨g, 0, none⟩)) ∧ row? W' g1 = some (IV x)) := fun W' R' T => ⟨row_cell (HRL.out W' (hg1 ▸ T.below)) 2, T.row⟩
 have S0 := FS _ _ T.drew.swap
 have HFS := Lib.hid FS
 have HT := Lib.hid T
 clear FS T r0 c0 l0 HRL
 generalize hres : (getM m x).getD noInst = res at *
 generalize (getM m x).isSome = bs at *
 refine wp_region_held_drew (S := fun W' => (W'.cell? ⟨l, 2, none⟩ = some (.pointer (some ⟨g, 0, none⟩)) ∧ row? W' g1 = some (IV x))) (by kernel_rfl) S0 (fun hHeld => ?_)
 clear S0
 refine tkH 0 rfl ?_
 simp only [Act.put, List.setIfInBounds_toArray, List.set_cons_zero, List.set_cons_succ]
 refine tkH 1 rfl ?_
 go_frame
 refine tkH 2 rfl ?_
 go_frame
 refine tkH 3 rfl ?_
 go_frame
 refine tkH 4 rfl ?_
 go_frame
 refine wpAnyH_ready (rs := [5, 9]) (by kernel_rfl) (by simp) ?_
 refine AllReadyH.cons (o := _) rfl (fun K hK => ?_) ?_
 ·go_simp
  refine (HAT.out _ (hg1 ▸ HT.out.drew.below)).mono ?_
  rintro e w4 ⟨rfl, hb⟩
  have T1 := HT.out.drew.pure hb
  clear hb HT HAT
  refine hK.out _ _ ?_ (fun hHeld => ?_)
  ·exact HFS.out _ _ T1.swap
  clear hK K
  refine tkH 6 rfl ?_
  simp only [Act.put, List.setIfInBounds_toArray, List.set_cons_zero, List.set_cons_succ]
  refine tkH 7 rfl ?_
  go_frame
  refine tkH 8 rfl ?_
  go_frame
  have T2 := T1.new (NV res) 70
  have T2a := T1.new (NV noInst) 70
  have r2 := T2a.row; have l2 := row_lt r2
  have HT2 := Lib.hid T2; have HT2a := Lib.hid T2a
  clear T1 T2 T2a
  rw [noInst_lit] at r2 l2
  refine wpAnyH_ready (rs := [9]) (by kernel_rfl) (by simp) ?_
  refine AllReadyH.cons (o := _) rfl (fun K hK => ?_) AllReadyH.nil
  go_simp
  refine hK.out _ _ ?_ (fun hHeld => ?_)
  ·have := HFS.out _ _ (HT2a.out.ord [2, 0, 1])
   rw [noInst_lit] at this
   exact this
  clear hK K
  refine wpAnyH_ready (rs := [10]) (by kernel_rfl) (by simp) ?_
  refine AllReadyH.cons (o := _) rfl (fun K hK => ?_) AllReadyH.nil
  go_simp
  refine hK.out _ _ ?_ (fun hHeld => ?_)
  ·exact HFS.out _ _ (HT2.out.ord [2, 0, 1])
  clear hK K r2 l2 HT2a
  refine tkH 11 rfl ?_
  simp only [Act.put, List.setIfInBounds_toArray, List.set_cons_zero, List.set_cons_succ]
  refine wpAnyH_done (by kernel_rfl) ?_ _
  simp only [Exit.then]
  have r3 := HT2.out.row; have r4 := HT2.out.row1; have l3 := row_lt r3; have l4 := row_lt r4
  generalize hw5 : w4.alloc _ = w5 at *
  generalize w4.heap.size = g5 at *
  go_wp2_with fail
  have T3 := (HT2.out.ord [1, 0]).setRow (NV res)
  clear r3 r4 l3 l4
  refine ret_row (NV res) TInst_und rfl (by kernel_rfl) rfl rfl rfl (TInst_size _) T3.row ?_
  exact ⟨by rw [hres], T3.below⟩
 ·have T1 := HT.out.drew.new (NV noInst) 70
  have r1 := T1.row; have l1 := row_lt r1
  rw [noInst_lit] at r1 l1
  have HT1 := Lib.hid T1; clear T1 HT
  refine AllReadyH.cons (o := _) rfl (fun K hK => ?_) AllReadyH.nil
  go_simp
  refine hK.out _ _ ?_ (fun hHeld => ?_)
  ·have := HFS.out _ _ (HT1.out.ord [2, 0, 1])
   rw [noInst_lit] at this
   exact this
  clear hK K r1 l1
  refine wpAnyH_ready (rs := [5]) (by kernel_rfl) (by simp) ?_
  refine AllReadyH.cons (o := _) rfl (fun K hK => ?_) AllReadyH.nil
  go_simp
  have hbb := HT1.out.below
  rw [noInst_lit] at hbb
  refine (HAT.out _ (hg1 ▸ hbb)).mono ?_
  rintro e w4 ⟨rfl, hb⟩
  have T1 := HT1.out
  rw [noInst_lit] at T1
  have T2 := T1.pure hb
  clear hb HT1 HAT hbb T1
  refine hK.out _ _ ?_ (fun hHeld => ?_)
  ·exact HFS.out _ _ (T2.ord [2, 0, 1])
  clear hK K
  refine tkH 6 rfl ?_
  simp only [Act.put, List.setIfInBounds_toArray, List.set_cons_zero, List.set_cons_succ]
  refine tkH 7 rfl ?_
  go_frame
  refine tkH 8 rfl ?_
  go_frame
  have T3 := T2.setRow (NV res)
  have r2 := T2.row; have l2 := row_lt r2
  have HT3 := Lib.hid T3; clear T2 T3
  simp only [size_drew] at r2 l2 HT3
  generalize w3.heap.size = g5 at *
  refine wpAnyH_ready (rs := [10]) (by kernel_rfl) (by simp) ?_
  refine AllReadyH.cons (o := _) rfl (fun K hK => ?_) AllReadyH.nil
  go_simp
  refine hK.out _ _ ?_ (fun hHeld => ?_)
  ·exact HFS.out _ _ (HT3.out.ord [2, 0, 1])
  clear hK K r2 l2
  refine tkH 11 rfl ?_
  simp only [Act.put, List.setIfInBounds_toArray, List.set_cons_zero, List.set_cons_succ]
  refine wpAnyH_done (by kernel_rfl) ?_ _
  simp only [Exit.then]
  have r3 := HT3.out.row; have r4 := HT3.out.row1; have l3 := row_lt r3; have l4 := row_lt r4
  generalize hw5 : w4.setRow _ _ = w5 at *
  go_wp2_with fail
  have T3 := (HT3.out.ord [1, 0]).setRow (NV res)
  clear r3 r4 l3 l4
  refine ret_row (NV res) TInst_und rfl (by kernel_rfl) rfl rfl rfl (TInst_size _) T3.row ?_
  exact ⟨by rw [hres], T3.below⟩
/-- What can be has a record. -/
theorem goodI_in {x : Item} {n : Int} (h : goodI x n = true) (hn : n ≤ 7) : In64 x.rep ∧ In64 x.num := by
 unfold goodI at h
 rw [decide_eq_true_iff] at h
 unfold In64
 omega
theorem goodN_in {i : Inst} {n : Int} (h : goodN i n = true) (hn : n ≤ 7) : InstIn i 100 := by
 unfold goodN goodBal goodC goodB goodD goodAt Kinds at h
 simp only [Bool.and_eq_true, decide_eq_true_eq, List.all_eq_true, List.mem_range] at h
 obtain ⟨⟨⟨⟨h1, h2⟩, h3⟩, ⟨⟨h4, h5⟩, h6⟩, h7⟩, -⟩ := h
 exact ⟨by unfold In64; omega, by unfold In64; omega, by unfold In64; omega, by unfold In64; omega, by unfold In64; omega, ⟨⟨by omega, by omega, by omega, by omega, by omega⟩, fun k hk => by have := h5 k hk; omega, by omega⟩⟩
theorem ents_mem {m : RowsM} {e : Item × Inst} (h : e ∈ ents m) : getM m e.1 = some e.2 := by
 have hto : ∀ r, e ∈ entsTo m r → getM m e.1 = some e.2 := fun r => by
  induction r with
  | zero => intro h; simp [entsTo] at h
  | succ r ih =>
   intro h
   rw [entsTo, List.mem_append] at h
   rcases h with h | h
   ·exact ih h
   ·unfold entR at h
    rw [List.mem_filterMap] at h
    obtain ⟨k, _, hk⟩ := h
    unfold entAt at hk
    rw [Option.map_eq_some_iff] at hk
    obtain ⟨t, ht, rfl⟩ := hk
    exact ht
 exact hto 7 h
theorem getM_good {m : RowsM} {x : Item} {t : Inst} (h : getM m x = some t) : goodI x m.n = true := by
 unfold getM at h
 split at h
 ·assumption
 ·cases h
/-- All that is known can be. -/
def RowsGood (m : RowsM) : Prop := ∀ x t, getM m x = some t → goodN t m.n = true
theorem RowsGood.ents {m : RowsM} (h : RowsGood m) (hm : RowsOk m) : EntsIn m := fun e he => by
 have h1 := ents_mem he
 have h2 := goodI_in (getM_good h1) hm.n.2
 exact ⟨h2.1, h2.2, goodN_in (h _ _ h1) hm.n.2⟩
end Go.Proofs.YtomlilkobhkoiaaGreatDoor
