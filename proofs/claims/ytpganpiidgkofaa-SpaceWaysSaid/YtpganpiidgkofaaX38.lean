/- Several texts in one. -/
import Derived.Test.YtpganpiidgkofaaX27
import Derived.Test.YtpganpiidgkofaaX37
import Derived.Maps.OwnIn
import Derived.OwnWalkIn
/- Layers 12, 24: all that is known, one by one, and as entries (Space.All, audit.Dump). -/
namespace Go.Proofs.Ytpganpiidgkofaa
open Go.RowKit Go.Shelf
set_option linter.unusedVariables false
set_option maxRecDepth 20000
attribute [local go_sem] Oper.semAt_some
attribute [local go_sem] row_alloc row_drew row_drewN row_ext row_setCell row_setRow size_ext setRow_alloc setRow_drew loadOf storeOf piece_lit loadVal_at storeVal_at allOne_lit buildOf buildRes_some
attribute [local go_sem high] cell_alloc frozen_alloc setCell_alloc cell_ext frozen_ext cell_setRow frozen_setRow
attribute [local go_sem ↓] TDeed_ld0 TDeed_st0 TDeed_fd0 TDeed_bd0
attribute [local go_sem] TDeed_size TDeed_one TDeed_piece TDeed_c0 TDeed_c1 TDeed_c2 TDeed_c3 TDeed_c4 TDeed_c5 TDeed_set_kind TDeed_set_key TDeed_set_val TDeed_set_ver TDeed_set_ses TDeed_set_num TDeed_ld TDeed_st TDeed_f_kind TDeed_f_key TDeed_f_val TDeed_f_ver TDeed_f_ses TDeed_f_num TDeed_bd TDeed_fl TDeed_fl_kind TDeed_fl_key TDeed_fl_val TDeed_fl_ver TDeed_fl_ses TDeed_fl_num
attribute [local go_sem high] TDeed_eql TDeed_neq
attribute [local go_sem ↓] index_deps0 load_deps0 store_deps0
attribute [local go_sem] DV_piece DV_size DV_one index_deps load_deps store_deps
attribute [local go_sem high] TDeps_eql TDeps_neq
attribute [local go_sem ↓] TCall_ld0 TCall_st0 TCall_fd0 TCall_bd0
attribute [local go_sem] TCall_size TCall_one TCall_piece TCall_c0 TCall_c1 TCall_c2 TCall_c3 TCall_c4 TCall_c5 TCall_c6 TCall_c7 TCall_c8 TCall_c9 TCall_c10 TCall_c11 TCall_c12 TCall_c13 TCall_p_deed TCall_put_deed TCall_p_deps TCall_put_deps TCall_set_seq TCall_ld TCall_st TCall_f_deed TCall_f_deps TCall_f_seq TCall_bd TCall_fl TCall_fl_deed TCall_fl_deps TCall_fl_seq
attribute [local go_sem high] TCall_eql TCall_neq
attribute [local go_sem ↓] TItem_ld0 TItem_st0 TItem_fd0 TItem_bd0
attribute [local go_sem] TItem_size TItem_one TItem_piece TItem_c0 TItem_c1 TItem_set_rep TItem_set_num TItem_ld TItem_st TItem_f_rep TItem_f_num TItem_bd TItem_fl TItem_fl_rep TItem_fl_num
attribute [local go_sem high] TItem_eql TItem_neq
attribute [local go_sem ↓] TBallot_ld0 TBallot_st0 TBallot_fd0 TBallot_bd0
attribute [local go_sem] TBallot_size TBallot_one TBallot_piece TBallot_c0 TBallot_c1 TBallot_set_round TBallot_set_rep TBallot_ld TBallot_st TBallot_f_round TBallot_f_rep TBallot_bd TBallot_fl TBallot_fl_round TBallot_fl_rep
attribute [local go_sem high] TBallot_eql TBallot_neq
attribute [local go_sem ↓] TInst_ld0 TInst_st0 TInst_fd0 TInst_bd0
attribute [local go_sem] TInst_size TInst_one TInst_piece TInst_c0 TInst_c1 TInst_c2 TInst_c3 TInst_c4 TInst_c5 TInst_c6 TInst_c7 TInst_c8 TInst_c9 TInst_c10 TInst_c11 TInst_c12 TInst_c13 TInst_c14 TInst_c15 TInst_c16 TInst_c17 TInst_c18 TInst_c19 TInst_p_prom TInst_put_prom TInst_p_vote TInst_put_vote TInst_set_status TInst_p_call TInst_put_call TInst_set_same TInst_ld TInst_st TInst_f_prom TInst_f_vote TInst_f_status TInst_f_call TInst_f_same TInst_bd TInst_fl TInst_fl_prom TInst_fl_vote TInst_fl_status TInst_fl_call TInst_fl_same
attribute [local go_sem high] TInst_eql TInst_neq
attribute [local go_sem ↓] TEntry_ld0 TEntry_st0 TEntry_fd0 TEntry_bd0
attribute [local go_sem] TEntry_size TEntry_one TEntry_piece TEntry_c0 TEntry_c1 TEntry_c2 TEntry_c3 TEntry_c4 TEntry_c5 TEntry_c6 TEntry_c7 TEntry_c8 TEntry_c9 TEntry_c10 TEntry_c11 TEntry_c12 TEntry_c13 TEntry_c14 TEntry_c15 TEntry_c16 TEntry_c17 TEntry_c18 TEntry_c19 TEntry_c20 TEntry_c21 TEntry_p_item TEntry_put_item TEntry_p_inst TEntry_put_inst TEntry_ld TEntry_st TEntry_f_item TEntry_f_inst TEntry_bd TEntry_fl TEntry_fl_item TEntry_fl_inst
attribute [local go_sem high] TEntry_eql TEntry_neq
attribute [local go_sem ↓] entry_slice0
attribute [local go_sem] entry_slice1
section
variable {P : Program} {w W : World} {F : Nat → Prop} {R : List Res} {Fe : Fence} {nF : Nat}
theorem wpListIn_append_vec {ops : Array Oper} {rest : List Oper} {o : Oper} {a : Act} {Q : Exit → Act → World → Prop} (hgd : o.guard = none) (s x : Operand) (t : TypeId)
    (ho : o.op = .call { callee := .builtin .append, args := #[s, x], argTypes := #[t, t] })
    (e : TypeId) (i : TypeInfo) (z : Value) (size bytes : Nat) (ht : P.underlying t = some (.slice e)) (hi : P.info? e = some i) (hz : i.zero = some z)
    (hsize : i.size = size) (hby : i.bytes = bytes) (hzs : z.cells.size = size) (hsz : 0 < size)
    (v : Value) (n : Nat) (xs : List Value) (hs : a.eval s = v) (T : Sts w F W (vecR e size v n xs :: R))
    (ad : Addr) (m c : Nat) (news : List Value) (hx : a.eval x = .slice (some ad) m c) (hl : news.length = m * size) (hnews : ∀ j u, news[j]? = some u → W.cell? (ad.add j) = some u) (h1 : ∀ u ∈ news, u.oneCell' = true)
    (h63 : n + m ≤ maxLen) (hbytes : (n + m) * bytes ≤ 140737488355328)
    (h : ∀ v' w', Sts w F w' (vecR e size v' (n + m) (xs ++ news) :: R) → wpListIn Fe nF P ops Q rest (a.put o.dst v') w') :
    wpListIn Fe nF P ops Q (o :: rest) a W :=
  wpListIn_append_own_at (P := P) (w := W) hgd s x t ho 0 e i z size bytes ht hi hz hsize hby hzs hsz v n xs hs T.vec ad m c news hx hl hnews h1 h63 hbytes (Nat.zero_le _)
    fun v' w' ho' hg' _ hf' => h v' w' (T.grown ho' hg' hf')
end
def noRows : RowsM := ⟨0, fun _ => []⟩
abbrev allF (c : Nat) : Value := .func (.func 116) #[] #[.pointer (some ⟨c, 0, none⟩)]
section
variable {w W : World} {F : Nat → Prop} {R : List Res} {s lg p g bk bs : Nat} {I : Idx} {D : List UInt8} {safe : Nat} {m : RowsM}
theorem ledAllNil (T : Sts w F W R) : Calls Try.prog 67 #[.pointer none] W fun e W' => ∃ c g, e = .returned (allF c) ∧ Sts w F W' (iterIR c g noRows ++ R) := by
  have HN := Lib.hid (irNewT 0 (by omega) T); clear T
  go_enter Try.func67, Try.ntmps67
  go_wp2_with fail
  refine HN.out.mono ?_
  clear HN
  rintro e w1 ⟨rfl, T⟩
  have HA := Lib.hid (irAllS T W.heap.size); clear T
  go_wp2_with fail
  refine HA.out.mono ?_
  clear HA
  rintro e w2 ⟨rfl, T⟩
  have HT := Lib.hid T; clear T
  go_wp2
  go_ret
  exact ⟨_, _, rfl, HT.out⟩
theorem spAllNil (T : Sts w F W R) : Calls Try.prog 42 #[.pointer none] W fun e W' => ∃ c g, e = .returned (allF c) ∧ Sts w F W' (iterIR c g noRows ++ R) := by
  have HN := Lib.hid (ledAllNil T); clear T
  go_enter Try.func42, Try.ntmps42
  go_wp2_with fail
  refine HN.out.mono ?_
  clear HN
  rintro e w1 ⟨c, g, rfl, T⟩
  have HT := Lib.hid T; clear T
  go_wp2
  go_ret
  exact ⟨_, _, rfl, HT.out⟩
theorem spAllT (T : Sts w F W (spL s lg p g bk bs I D safe m ++ R)) : Calls Try.prog 42 #[.pointer (some ⟨s, 0, none⟩)] W fun e W' => ∃ c, e = .returned (allF c) ∧ Sts w F W' (iterIR c g m ++ (idxR s lg bk bs I :: rowR lg (ledCells p g m.n) :: plR p D safe :: R)) := by
  have T : Sts w F W (idxR s lg bk bs I :: rowR lg (ledCells p g m.n) :: plR p D safe :: rowsIR g m :: R) := T
  obtain ⟨v, T⟩ := T.idxOpen
  have hc : W.cell? ⟨s, 0, none⟩ = some (.pointer (some ⟨lg, 0, none⟩)) := row_cell T.row 0
  have hl := row_lt T.row
  have HA := Lib.hid (ledAllT (T.ord [4, 0, 1, 2, 3, 5, 6])); clear T
  go_enter Try.func42, Try.ntmps42
  go_wp2_with fail
  refine HA.out.mono ?_
  clear HA
  rintro e w1 ⟨rfl, T⟩
  have T2 := (T.ord [2, 3, 4, 5, 0, 1, 6, 7]).idxShut
  have T3 := T2.ord [1, 4, 0, 2, 3]
  have HT := Lib.hid T3; clear T T2 T3 hc hl
  go_wp2
  go_ret
  exact ⟨_, rfl, HT.out⟩
end
def EnV (e : Ent) : Array Value := AV ⟨e.1, e.2⟩
theorem entry_i : ∃ i, Try.prog.info? 85 = some i ∧ i.zero = some (.agg (AV noEntry)) ∧ i.size = 22 ∧ i.bytes = 192 := by
  have h : (Try.prog.info? 85).map (fun i => (i.zero, i.size, i.bytes)) = some (some (.agg (AV noEntry)), 22, 192) := by kernel_rfl
  cases hi : Try.prog.info? 85 with
  | none => rw [hi] at h; simp at h
  | some i => rw [hi] at h; simp at h; exact ⟨i, rfl, h.1, h.2.1, h.2.2⟩
theorem entry_honk (x : Entry) : ∀ u ∈ (AV x).toList, u.oneCell' = true := by
  have := TEntry_one x
  simp only [allOne, Array.all_eq_true_iff_forall_mem] at this
  intro u hu
  exact this u (by simpa using hu)
/-- What is dumped so far. -/
def outR (b : Nat) (L : List Ent) : Res := exR fun u : Value => packR [rowR b #[u], vecR 85 22 u L.length (vl EnV L)]
section
variable {w W : World} {F : Nat → Prop} {R L M : List Res} {m : RowsM}
theorem Sts.front2 {a b : Res} {X : List Res} (T : Sts w F W (X ++ (a :: b :: R))) : Sts w F W (a :: b :: (X ++ R)) := by
  have hp : ((X ++ [a, b]) ++ R).Perm (([a, b] ++ X) ++ R) := List.Perm.append_right R List.perm_append_comm
  rw [List.append_assoc] at hp
  exact T.perm hp
theorem Sts.outOpen {b : Nat} {L : List Ent} (T : Sts w F W (outR b L :: R)) : ∃ u, Sts w F W (rowR b #[u] :: vecR 85 22 u L.length (vl EnV L) :: R) := by
  obtain ⟨u, T⟩ := T.open
  exact ⟨u, T.unpack⟩
theorem Sts.outShut {b : Nat} {u : Value} {L : List Ent} (T : Sts w F W (rowR b #[u] :: vecR 85 22 u L.length (vl EnV L) :: R)) : Sts w F W (outR b L :: R) := (Sts.pack (L := [_, _]) T).close u
def DumpPost (w : World) (F : Nat → Prop) (M R : List Res) (m : RowsM) (e : Ending) (W' : World) : Prop := ∃ v g, e = .returned v ∧ Sts w F W' (vecR 85 22 v (ents m).length (vl EnV (ents m)) :: rowsIR g m :: (M ++ R))
set_option maxHeartbeats 4000000 in
theorem dumpEntT (hm : RowsOk m) (sv : Value) (hall : ∀ {W : World} {R : List Res}, Sts w F W (L ++ R) → Calls Try.prog 42 #[sv] W fun e W' => ∃ c g, e = .returned (allF c) ∧ Sts w F W' (iterIR c g m ++ (M ++ R))) (T : Sts w F W (L ++ R)) :
    Calls Try.prog 38 #[sv] W (DumpPost w F M R m) := by
  refine (callsIn_wide (n := 4)).1 ?_
  refine callsIn_of_wp_marks Try.func38 rfl trivial ?_ rfl
  simp only [Try.ntmps38, List.size_toArray, List.length_cons, List.length_nil, Nat.reduceAdd, Nat.reduceSub, Array.replicate_succ, Array.replicate_zero, List.push_toArray, List.append_toArray, List.nil_append, List.cons_append]
  refine wpIn_wide.2 ?_
  have T1 := (T.vecNil 85 22).new #[.slice none 0 0] 80
  have T2 : Sts w F (W.alloc (.cells #[.slice none 0 0] 80)) (L ++ (rowR W.heap.size #[.slice none 0 0] :: vecR 85 22 (.slice none 0 0) 0 [] :: R)) := by
    have hp : (([rowR W.heap.size #[.slice none 0 0], vecR 85 22 (.slice none 0 0) 0 []] ++ L) ++ R).Perm ((L ++ [rowR W.heap.size #[.slice none 0 0], vecR 85 22 (.slice none 0 0) 0 []]) ++ R) := List.Perm.append_right R List.perm_append_comm
    rw [List.append_assoc L] at hp
    exact T1.perm hp
  have HA := Lib.hid (hall T2)
  clear T T1 T2
  go_wp2_with fail
  refine HA.out.mono ?_
  clear HA
  rintro e w1 ⟨c, g, rfl, T⟩
  have HT := Lib.hid T; clear T
  go_wp2_with fail
  have lc := row_lt HT.out.row
  generalize hb : W.heap.size = b at *
  clear hb
  have T0 : Sts w F w1 ([outR b ((ents m).take 0)] ++ (iterIR c g m ++ (M ++ R))) := by
    have T1 := HT.out
    rw [← List.append_assoc] at T1
    have T2 := Sts.front2 T1
    rw [List.append_assoc] at T2
    exact (Sts.pack (L := [_, _]) T2).close (.slice none 0 0)
  clear HT lc
  refine (wpIn_wide (n := 4)).1 ?_
  refine wp_rangeSts (gf := 116) (lb := #[.pointer (some ⟨c, 0, none⟩)]) (enc := fun x : Item × Inst => #[.agg (IV x.1), .agg (NV x.2)]) (xs := ents m)
    (fun k => [outR b ((ents m).take k)]) (fun _ _ => [noR]) (iterIR c g m ++ (M ++ R))
    (fun k x a' own' => ∃ b1 b2, own' = [rowR b2 (NV x.2), rowR b1 (IV x.1), outR b ((ents m).take k)] ∧ a' = { tmps := #[sv, undef, .slice none 0 0, .pointer (some ⟨b, 0, none⟩), .pointer (some ⟨b1, 0, none⟩), .pointer (some ⟨b2, 0, none⟩), sv, allF c, .agg (IV x.1), .agg (NV x.2), undef, undef, undef, undef, undef, undef, undef], defers := [] })
    rfl (enters_of Try.func116 (by kernel_rfl) rfl) (fun _ => rfl) (Gives.part fun H hS => irAllG c g m hm _ H hS) T0 ?calm ?calmX ?assign ?body ?done ?stop
  case calm => exact fun k => calmL_cons (exR_calm fun u => packR_calm (calmL_cons (rowR_calm _ _ _) (calmL_cons (vecR_calm _ _ _ _ _ _) (calmL_nil _)))) (calmL_nil _)
  case calmX => exact fun _ _ => calmL_cons (noR_calm _) (calmL_nil _)
  case assign =>
    intro lr k x W1 G1 K hx T1 hK
    have T2 := ((T1.new (IV x.1) 42).new (NV x.2) 39)
    rw [World.size_alloc] at T2
    have HT2 := Lib.hid T2
    clear T0 T1 T2
    gi_wp2
    exact hK _ _ _ ⟨_, _, rfl, rfl⟩ HT2.out
  case body =>
    rintro lr k x _ _ W1 G1 hx ⟨b1, b2, rfl, rfl⟩ T1 hread
    clear T0 hread
    have T3 := T1.ord [2, 0, 1]
    obtain ⟨u, T2⟩ := T3.outOpen
    clear T1 T3
    have r1 := T2.row2; have r2 := T2.row3; have l1 := row_lt r1; have l2 := row_lt r2
    have r0 := T2.row; have l0 := row_lt r0; have c0 : W1.cell? ⟨b, 0, none⟩ = some u := row_cell r0 0; have f0 := row_frozen r0 0
    obtain ⟨i0, hi, hz0, hz1, hz2⟩ := entry_i
    have hlen := ents_len hm
    have hlk : ((ents m).take k).length ≤ (ents m).length := List.length_take_le' _ _
    have TA := T2.new (AV ⟨x.1, x.2⟩) 85
    have hnw := Lib.hid (news_row TA.row)
    have TA := Lib.hid (TA.ord [2, 0, 1, 3, 4])
    have h63 : ((ents m).take k).length + 1 ≤ maxLen := by unfold maxLen; omega
    have hby : (((ents m).take k).length + 1) * 192 ≤ 140737488355328 := by omega
    have HOK := Lib.hid (entry_honk ⟨x.1, x.2⟩)
    have HX := Lib.hid hx
    have hnx : (ents m).take (k + 1) = (ents m).take k ++ [x] := by rw [List.take_add_one, hx]; rfl
    have HNX := Lib.hid hnx
    clear T2 hlen hlk hx hnx
    generalize (ents m).take k = LT at *
    gi_wp2_with (gi_at_builtin; refine wpListIn_append_vec rfl _ _ 80 rfl 85 i0 (.agg (AV noEntry)) 22 192 Try.underlying80 hi hz0 hz1 hz2 rfl (by decide) _ _ _ rfl TA.out ⟨W1.heap.size, 0, none⟩ 1 1 (AV ⟨x.1, x.2⟩).toList rfl rfl hnw.out HOK.out ?c3 ?c4 ?_)
    case c3 => exact h63
    case c4 => exact hby
    intro v9 w9 T9
    obtain ⟨A9, c9, rfl⟩ := vec_shape2 T9
    clear TA hnw r0 r1 r2 l0 l1 l2 c0 f0 h63 hby
    have r0 := T9.row2; have l0 := row_lt r0; have c0 : w9.cell? ⟨b, 0, none⟩ = some u := row_cell r0 0; have f0 := row_frozen r0 0
    have T10 := (T9.ord [2, 0, 1, 3, 4]).setCell 0 (.slice A9 (LT.length + 1) c9)
    have HT := Lib.hid T10; clear T9 T10
    gi_wp2
    show Sts W1 G1 _ [outR b ((ents m).take (k + 1))]
    rw [HNX.out]
    have T11 := HT.out.ord [2, 3, 4, 0, 1]
    refine Sts.outShut (u := .slice A9 (LT.length + 1) c9) ?_
    rw [List.length_append, show vl EnV (LT ++ [x]) = vl EnV LT ++ (AV ⟨x.1, x.2⟩).toList from vl_snoc EnV LT x]
    exact T11.drop.drop.drop
  case done =>
    intro D2 W1 T1
    clear T0
    rw [List.take_length] at T1
    have T1 : Sts w F W1 (objR D2 (.deferred (some [])) :: outR b (ents m) :: rowR c #[.pointer (some ⟨g, 0, none⟩)] :: rowsIR g m :: (M ++ R)) := T1
    obtain ⟨u, T2⟩ := (T1.swap).outOpen
    have rb := T2.row
    have lb := row_lt rb
    have cb : W1.cell? ⟨b, 0, none⟩ = some u := row_cell rb 0
    have T3 := T2.ord [2, 0, 1, 3, 4]
    have hD := T3.obj
    have T4 := (T3.putObj (.deferred none)).drop
    have T5 := T4.ord [0, 2, 1, 3]
    have HT := Lib.hid T5.drop.drop; have HD := Lib.hid hD; clear T1 T2 T3 T4 T5 hD
    go_wp2
    exact retM1 HD.out (results_tmp rfl _ _ _) ⟨u, g, rfl, HT.out⟩ rfl
  case stop =>
    intro D2 c1 k W1 _ _ T1
    exact (Sts.no T1.drop).elim
end
end Go.Proofs.Ytpganpiidgkofaa
