/- Several texts in one. -/
import Derived.Test.YtpganpiidgkofaaZ23
import Derived.Test.YtpganpiidgkofaaZ28
import Derived.Test.YtpganpiidgkofaaZ20
import Derived.Test.YtpganpiidgkofaaZ43
import Derived.Test.YtpganpiidgkofaaZ40
import Derived.Test.YtpganpiidgkofaaZ9
import Derived.Test.YtpganpiidgkofaaZ8
/- Layer 9: the document's bytes of a record. -/
namespace Go.Proofs.Ytpganpiidgkofaa
open Go.RowKit
set_option linter.unusedVariables false
set_option maxRecDepth 20000
attribute [local go_sem] row_alloc row_drew row_drewN row_ext row_setCell row_setRow size_ext setRow_alloc setRow_drew loadOf storeOf piece_lit loadVal_at storeVal_at allOne_lit buildOf buildRes_some
attribute [local go_sem high] cell_alloc frozen_alloc setCell_alloc cell_ext frozen_ext cell_setRow frozen_setRow
attribute [local go_sem ↓] TDeed_ld0 TDeed_st0 TDeed_fd0 TDeed_bd0
attribute [local go_sem] TDeed_size TDeed_one TDeed_piece TDeed_c0 TDeed_c1 TDeed_c2 TDeed_c3 TDeed_c4 TDeed_c5 TDeed_set_kind TDeed_set_key TDeed_set_val TDeed_set_ver TDeed_set_ses TDeed_set_num TDeed_ld TDeed_st TDeed_f_kind TDeed_f_key TDeed_f_val TDeed_f_ver TDeed_f_ses TDeed_f_num TDeed_bd TDeed_fl TDeed_fl_kind TDeed_fl_key TDeed_fl_val TDeed_fl_ver TDeed_fl_ses TDeed_fl_num
attribute [local go_sem high] TDeed_eql TDeed_neq
attribute [local go_sem ↓] index_deps0 load_deps0 store_deps0
attribute [local go_sem] DV_piece DV_size DV_one index_deps load_deps store_deps
attribute [local go_sem high] TDeps_eql TDeps_neq
attribute [local go_sem ↓] TCall_ld0 TCall_st0 TCall_fd0 TCall_bd0
attribute [local go_sem] TCall_size TCall_one TCall_piece TCall_c0 TCall_c1 TCall_c2 TCall_c3 TCall_c4 TCall_c5 TCall_c6 TCall_c7 TCall_c8 TCall_c9 TCall_c10 TCall_c11 TCall_c12 TCall_c13 TCall_p_deed TCall_put_deed TCall_p_deps TCall_put_deps TCall_set_seq TCall_ld TCall_st TCall_f_deed TCall_f_deps TCall_f_seq TCall_bd TCall_fl TCall_fl_deed TCall_fl_deps TCall_fl_seq
attribute [local go_sem high] TCall_eql TCall_neq
attribute [local go_sem ↓] TItem_ld0 TItem_st0 TItem_fd0 TItem_bd0
attribute [local go_sem] TItem_size TItem_one TItem_piece TItem_c0 TItem_c1 TItem_set_rep TItem_set_num TItem_ld TItem_st TItem_f_rep TItem_f_num TItem_bd TItem_fl TItem_fl_rep TItem_fl_num
attribute [local go_sem high] TItem_eql TItem_neq
attribute [local go_sem ↓] TBallot_ld0 TBallot_st0 TBallot_fd0 TBallot_bd0
attribute [local go_sem] TBallot_size TBallot_one TBallot_piece TBallot_c0 TBallot_c1 TBallot_set_round TBallot_set_rep TBallot_ld TBallot_st TBallot_f_round TBallot_f_rep TBallot_bd TBallot_fl TBallot_fl_round TBallot_fl_rep
attribute [local go_sem high] TBallot_eql TBallot_neq
attribute [local go_sem ↓] TInst_ld0 TInst_st0 TInst_fd0 TInst_bd0
attribute [local go_sem] TInst_size TInst_one TInst_piece TInst_c0 TInst_c1 TInst_c2 TInst_c3 TInst_c4 TInst_c5 TInst_c6 TInst_c7 TInst_c8 TInst_c9 TInst_c10 TInst_c11 TInst_c12 TInst_c13 TInst_c14 TInst_c15 TInst_c16 TInst_c17 TInst_c18 TInst_c19 TInst_p_prom TInst_put_prom TInst_p_vote TInst_put_vote TInst_set_status TInst_p_call TInst_put_call TInst_set_same TInst_ld TInst_st TInst_f_prom TInst_f_vote TInst_f_status TInst_f_call TInst_f_same TInst_bd TInst_fl TInst_fl_prom TInst_fl_vote TInst_fl_status TInst_fl_call TInst_fl_same
attribute [local go_sem high] TInst_eql TInst_neq
set_option maxHeartbeats 1000000 in
theorem ritemBytes (x : Item) (h1 : In64 x.rep) (h2 : In64 x.num) : Ans Try.prog 63 #[.agg (IV x)] (.string (strL (encs [x.rep, x.num]))) := by
  intro w
  have T := (St.start w).new (IV x) 42
  have C1 := Lib.hid (refNat x.rep h1.2); have C2 := Lib.hid (refNat x.num h2.2)
  have e : strL (enc x.rep.toNat) ++ strL (enc x.num.toNat) = strL (encs [x.rep, x.num]) := by
    simp only [strL_app]; simp [encs]
  have E := Lib.hid e; clear e
  have z1 : (strL (enc x.rep.toNat)).size ≤ 9 := by rw [strL_size]; exact enc_len9 (by have := h1.2; omega)
  have z2 : (strL (enc x.num.toNat)).size ≤ 9 := by rw [strL_size]; exact enc_len9 (by have := h2.2; omega)
  generalize strL (encs [x.rep, x.num]) = B at *
  generalize strL (enc x.rep.toNat) = B1 at *
  generalize strL (enc x.num.toNat) = B2 at *
  clear h1 h2
  go_enter Try.func63, Try.ntmps63
  go_wp2_with fail
  refine wp_region_st (by kernel_rfl) (by kernel_rfl) ?_
  repeat (go_big_quiet_step (first | (go_at_call 65; with_reducible exact C1.out.quiet) | (go_at_call 65; with_reducible exact C2.out.quiet)))
  refine wpQuiet_nil ?_
  rintro _ ⟨x9, rfl⟩
  go_wp2_with fail
  go_ret
  exact ⟨congrArg (fun s => Ending.returned (.string s)) (by rw [← E.out]), (T.ext x9).below⟩
set_option maxHeartbeats 1000000 in
theorem rbalBytes (x : Ballot) (h1 : In64 x.round) (h2 : In64 x.rep) : Ans Try.prog 64 #[.agg (BV x)] (.string (strL (encs [x.round, x.rep]))) := by
  intro w
  have T := (St.start w).new (BV x) 31
  have C1 := Lib.hid (refNat x.round h1.2); have C2 := Lib.hid (refNat x.rep h2.2)
  have e : strL (enc x.round.toNat) ++ strL (enc x.rep.toNat) = strL (encs [x.round, x.rep]) := by
    simp only [strL_app]; simp [encs]
  have E := Lib.hid e; clear e
  have z1 : (strL (enc x.round.toNat)).size ≤ 9 := by rw [strL_size]; exact enc_len9 (by have := h1.2; omega)
  have z2 : (strL (enc x.rep.toNat)).size ≤ 9 := by rw [strL_size]; exact enc_len9 (by have := h2.2; omega)
  generalize strL (encs [x.round, x.rep]) = B at *
  generalize strL (enc x.round.toNat) = B1 at *
  generalize strL (enc x.rep.toNat) = B2 at *
  clear h1 h2
  go_enter Try.func64, Try.ntmps64
  go_wp2_with fail
  refine wp_region_st (by kernel_rfl) (by kernel_rfl) ?_
  repeat (go_big_quiet_step (first | (go_at_call 65; with_reducible exact C1.out.quiet) | (go_at_call 65; with_reducible exact C2.out.quiet)))
  refine wpQuiet_nil ?_
  rintro _ ⟨x9, rfl⟩
  go_wp2_with fail
  go_ret
  exact ⟨congrArg (fun s => Ending.returned (.string s)) (by rw [← E.out]), (T.ext x9).below⟩
set_option maxHeartbeats 4000000 in
theorem rrecBytes (x : Item) (i : Inst) (N : Nat) (h1 : In64 x.rep) (h2 : In64 x.num) (h : InstIn i N) (hN : N ≤ 1000) : Ans Try.prog 21 #[.agg (IV x), .agg (NV i)] (.string (strL (recOf (x, i)))) := by
  intro w
  have T := ((St.start w).new (IV x) 42).new (NV i) 39
  have hlen := recB_len h1 h2 h (by omega)
  have C1 := Lib.hid (ritemBytes x h1 h2); have C2 := Lib.hid (rbalBytes i.prom h.round h.rep); have C3 := Lib.hid (rbalBytes i.vote h.vround h.vrep)
  have C4 := Lib.hid (refNat i.status h.status.2); have C5 := Lib.hid (refCallBytes i.call N h.call (by omega))
  have C6 := rseal_any (recB x i) (by omega)
  have e : strL (encs [x.rep, x.num]) ++ strL (encs [i.prom.round, i.prom.rep]) ++ strL (encs [i.vote.round, i.vote.rep]) ++ strL (enc i.status.toNat) ++ strL (bitB i.same) ++ strL (callB i.call) = strL (recB x i) := by
    simp only [strL_app]; simp [encs, recB]
  rw [← e] at C6
  have hr : strL (sealS (recB x i)) = strL (recOf (x, i)) := rfl
  rw [hr] at C6
  have z : (strL (recB x i)).size ≤ N + 190 := by rw [strL_size]; exact hlen
  rw [← e] at z
  simp only [ByteArray.size_append] at z
  have hb0 : strL (bitB false) = ⟨#[0]⟩ := rfl
  have hb1 : strL (bitB true) = ⟨#[1]⟩ := rfl
  generalize strL (recOf (x, i)) = B at *
  generalize strL (encs [x.rep, x.num]) = B1 at *
  generalize strL (encs [i.prom.round, i.prom.rep]) = B2 at *
  generalize strL (encs [i.vote.round, i.vote.rep]) = B3 at *
  generalize strL (enc i.status.toNat) = B4 at *
  generalize strL (callB i.call) = B5 at *
  have HC6 := Lib.hid C6
  clear h h1 h2 hlen e hr
  cases hs : i.same
  case false =>
    rw [hs, hb0] at C6 z
    have C6 := Lib.hid C6
    clear hb0 hb1 HC6
    go_enter Try.func21, Try.ntmps21
    go_wp2_with fail
    refine wp_region_st (by kernel_rfl) (by kernel_rfl) ?_
    repeat (go_big_quiet_step (first | (go_at_call 63; with_reducible exact C1.out.quiet) | (go_at_call 64; with_reducible exact C2.out.quiet) | (go_at_call 64; with_reducible exact C3.out.quiet) | (go_at_call 65; with_reducible exact C4.out.quiet) | (go_at_call 66; with_reducible exact C5.out.quiet) | (go_at_call 62; with_reducible exact C6.out.quiet)))
    refine wpQuiet_nil ?_
    rintro _ ⟨x9, rfl⟩
    go_wp2_with fail
    go_ret
    exact ⟨rfl, (T.ext x9).below⟩
  case true =>
    rw [hs, hb1] at C6 z
    have C6 := Lib.hid C6
    clear hb0 hb1 HC6
    go_enter Try.func21, Try.ntmps21
    go_wp2_with fail
    refine wp_region_st (by kernel_rfl) (by kernel_rfl) ?_
    repeat (go_big_quiet_step (first | (go_at_call 63; with_reducible exact C1.out.quiet) | (go_at_call 64; with_reducible exact C2.out.quiet) | (go_at_call 64; with_reducible exact C3.out.quiet) | (go_at_call 65; with_reducible exact C4.out.quiet) | (go_at_call 66; with_reducible exact C5.out.quiet) | (go_at_call 62; with_reducible exact C6.out.quiet)))
    refine wpQuiet_nil ?_
    rintro _ ⟨x9, rfl⟩
    go_wp2_with fail
    go_ret
    exact ⟨rfl, (T.ext x9).below⟩
end Go.Proofs.Ytpganpiidgkofaa
/- Layer 9, plain: what is opened of records, and of what stands behind them. No walk stands here. -/
namespace Go.Proofs.Ytpganpiidgkofaa
open Go.RowKit
set_option linter.unusedVariables false
noncomputable def okE (n : Int) (e : Ent) : Bool := goodI e.1 n && goodN e.2 n
noncomputable def preE (n : Int) (L : List Ent) : List Ent := L.takeWhile (okE n)
noncomputable def allE (n : Int) (L : List Ent) : Bool := L.all (okE n)
theorem allE_snoc (n : Int) (L : List Ent) (e : Ent) : allE n (L ++ [e]) = (allE n L && okE n e) := by unfold allE; rw [List.all_append]; simp
theorem preE_all {n : Int} {L : List Ent} (h : allE n L = true) : preE n L = L := by
  have := takeWhile_app (b := []) h
  simpa [preE] using this
theorem preE_snoc_good {n : Int} {L : List Ent} {e : Ent} (h : (allE n L && okE n e) = true) : preE n (L ++ [e]) = L ++ [e] := preE_all (by rw [allE_snoc]; exact h)
theorem takeWhile_not {α : Type} {p : α → Bool} : ∀ {a b : List α}, a.all p = false → (a ++ b).takeWhile p = a.takeWhile p
  | [], _, h => by simp at h
  | x :: t, b, h => by
    rw [List.cons_append, List.takeWhile_cons, List.takeWhile_cons]
    cases hx : p x
    · rfl
    · rw [List.all_cons, hx, Bool.true_and] at h
      simp only [if_true]
      rw [takeWhile_not h]
theorem preE_snoc_bad {n : Int} {L : List Ent} {e : Ent} (h : (allE n L && okE n e) = false) : preE n (L ++ [e]) = preE n L := by
  unfold preE
  by_cases ha : L.all (okE n) = true
  · have h2 : okE n e = false := by unfold allE at h; rw [ha] at h; simpa using h
    rw [takeWhile_app ha]
    have := takeWhile_app (b := []) ha
    simp only [List.append_nil, List.takeWhile_nil] at this
    rw [this, List.takeWhile_cons, h2]
    simp
  · exact takeWhile_not (by simpa using ha)
theorem preE_good (n : Int) (L : List Ent) : GoodE n (preE n L) := fun e he => by
  have := takeWhile_good (okE n) L
  rw [List.all_eq_true] at this
  have := this e he
  unfold okE at this
  simpa using this
structure EntP (e : Ent) : Prop where
  rep : P64 e.1.rep
  num : P64 e.1.num
  inst : InstP e.2
  len : (recB e.1 e.2).length ≤ 16384
theorem split_pre (n : Int) : ∀ L : List Ent, preE n L = L ∨ ∃ e t, L = preE n L ++ e :: t ∧ okE n e = false
  | [] => .inl rfl
  | x :: t => by
    unfold preE
    rw [List.takeWhile_cons]
    cases hx : okE n x
    · exact .inr ⟨x, t, rfl, hx⟩
    · rcases split_pre n t with h | ⟨e, u, h, h2⟩
      · left; simp only [if_true]; unfold preE at h; rw [h]
      · right
        refine ⟨e, u, ?_, h2⟩
        simp only [if_true]
        unfold preE at h
        rw [List.cons_append, ← h]
/-- What stands behind the records that can be is none. -/
theorem junk_none {n : Int} {L : List Ent} {more : List UInt8} (hL : ∀ e ∈ L, EntP e) (hm : allE n L = true → more = [] ∨ ∃ r, more = 0 :: r) :
    ∃ r, recsOf L ++ more = recsOf (preE n L) ++ r ∧ NoRec n r := by
  rcases split_pre n L with h | ⟨e, t, h, h2⟩
  · refine ⟨more, by rw [h], ?_⟩
    have ha : allE n L = true := by
      have := takeWhile_good (okE n) L
      unfold preE at h
      rw [h] at this
      exact this
    rcases hm ha with rfl | ⟨r, rfl⟩
    · exact noRec_nil n
    · exact noRec_zero n r
  · have he := hL e (by rw [h]; simp)
    refine ⟨recOf e ++ (recsOf t ++ more), ?_, noRec_bad he.rep he.num he.inst he.len h2 _⟩
    have : recsOf L = recsOf (preE n L) ++ (recOf e ++ recsOf t) := by
      rw [← recsOf_cons, ← recsOf_app, ← h]
    rw [this]
    simp only [List.append_assoc]
structure OpenW (n : Int) (G : List Ent) (D : List UInt8) : Prop where
  once : openD n D = recsOf G
  twice : openD n (openD n D) = recsOf G
  rows1 : RowsOk (mK n (goT n D))
  rows2 : RowsOk (mK n (goT n (openD n D)))
  same1 : sameB (ents (mK n (goT n D))) (foldB G) = true
  same2 : sameB (ents (mK n (goT n (openD n D)))) (foldB G) = true
theorem open_recs {n : Int} (hn : n ≤ 7) {G : List Ent} (hG : GoodE n G) {r : List UInt8} (hr : NoRec n r) : openD n (recsOf G ++ r) = recsOf G := by
  unfold openD
  rw [goT_recs hn hG hr, eK_recs, List.length_append]
  split
  · rw [List.take_left']; rfl
  · have : r = [] := List.eq_nil_of_length_eq_zero (by omega)
    rw [this, List.append_nil]
theorem openW {n : Int} (h0 : 0 ≤ n ∧ n ≤ 7) {L : List Ent} {more : List UInt8} (hL : ∀ e ∈ L, EntP e) (hm : allE n L = true → more = [] ∨ ∃ r, more = 0 :: r) : OpenW n (preE n L) (recsOf L ++ more) := by
  obtain ⟨r, e, hr⟩ := junk_none hL hm
  rw [e]
  have hG := preE_good n L
  have h1 := open_recs h0.2 hG hr
  have h2 := open_recs h0.2 hG (noRec_nil n)
  rw [List.append_nil] at h2
  have g1 := goT_recs h0.2 hG hr
  have g2 := goT_recs h0.2 hG (noRec_nil n)
  rw [List.append_nil] at g2
  refine ⟨h1, by rw [h1, h2], (mK_rows h0 _).1, (mK_rows h0 _).1, ?_, ?_⟩
  · exact sameB_fold (mK_rows h0 _).1 hG (by rw [g1]; exact mK_recT h0.2 hG)
  · exact sameB_fold (mK_rows h0 _).1 hG (by rw [h1, g2]; exact mK_recT h0.2 hG)
theorem recOf_len2 {e : Ent} (h1 : In64 e.1.rep) (h2 : In64 e.1.num) (h : InstIn e.2 200) : (recOf e).length ≤ 403 := by
  have h3 := recB_len h1 h2 h (by omega)
  have h4 := sealS_len (t := recB e.1 e.2) (by omega)
  rw [recOf_eq]
  omega
structure EntIn (e : Ent) : Prop where
  rep : In64 e.1.rep
  num : In64 e.1.num
  inst : InstIn e.2 200
theorem recsOf_len2 : ∀ {l : List Ent}, (∀ e ∈ l, EntIn e) → (recsOf l).length ≤ 403 * l.length
  | [], _ => by simp [recsOf]
  | e :: l, h => by
    have h1 := recsOf_len2 (l := l) fun x hx => h x (by simp [hx])
    have h2 := h e (by simp)
    have h3 := recOf_len2 h2.rep h2.num h2.inst
    rw [recsOf_cons, List.length_append, List.length_cons]
    omega
/-- Slices side by side, as one list of pairs. -/
theorem zip_rows {W : World} {A B : Option Addr} {xs : List Item} {is : List Inst} (h : xs.length = is.length) (hx : RowsIn W A 2 IV xs) (hi : RowsIn W B 20 NV is) : RowsIn W A 2 KV (xs.zip is) ∧ RowsIn W B 20 WV (xs.zip is) := by
  have hl : (xs.zip is).length = xs.length := by rw [List.length_zip]; omega
  refine ⟨⟨fun ha => by rw [hx.nil ha]; rfl, fun a ha j hj i v hv => hx.cell a ha j (by omega) i v ?_, by have := hx.len; omega⟩, ⟨fun ha => by rw [hi.nil ha]; simp, fun a ha j hj i v hv => hi.cell a ha j (by omega) i v ?_, by have := hx.len; omega⟩⟩
  · rw [List.getElem_zip] at hv; exact hv
  · rw [List.getElem_zip] at hv; exact hv
end Go.Proofs.Ytpganpiidgkofaa
/- Layer 9: slices that come in, item by item, and their fields. No walk stands here. -/
namespace Go.Proofs.Ytpganpiidgkofaa
open Go.ChangeShapes Go.WideShapes Go.ChangeAt Go.RowKit Go.WideMaps Go.WideElems Go.Joins Go.Deep
set_option linter.unusedVariables false
theorem addr_add (a : Addr) (o i : Nat) : (a.add o).add i = a.add (o + i) := by
  cases a
  unfold Addr.add
  by_cases h : o = 0
  · simp [h]
  · by_cases h2 : i = 0
    · simp [h2]
    · simp [h, h2]; omega
section
variable {α : Type} {w W : World} {A : Option Addr} {n : Nat} {V : α → Array Value} {l : List α} {P : Program} {T : TypeId} {d : TypeDesc} {a : Addr} {j : Nat}
theorem RowsIn.partAt (h : RowsIn w A n V l) (hb : Below w.heap.size w W) (hA : A = some a) (hj : j < l.length) (o m : Nat) (X : Array Value) (hX : ∀ i v, X[i]? = some v → (V l[j])[o + i]? = some v) (hm : X.size = m) (hu : P.underlying T = some d) (hd : d.isRow = true) (hi : (P.info? T).map (·.size) = some m) :
    loadVal P T m W (.pointer (some ((a.add (j * n)).add o))) = .ok (.agg X) W := by
  rw [← load_val hu hd hi]
  refine loadAt_cells W _ _ (fun i v hv => ?_) hu hd (by rw [hi, hm])
  have hc := h.cell a hA j hj (o + i) v (hX i v hv)
  rw [addr_add]
  exact (hb.cell (World.block_lt_of_cell? w _ hc)).trans hc
theorem RowsIn.oneAt (h : RowsIn w A n V l) (hb : Below w.heap.size w W) (hA : A = some a) (hj : j < l.length) (o : Nat) (v : Value) (hv : (V l[j])[o]? = some v) : W.cell? ((a.add (j * n)).add o) = some v := by
  have hc := h.cell a hA j hj o v hv
  exact (hb.cell (World.block_lt_of_cell? w _ hc)).trans hc
end
/-- What comes in: all numbers fit, texts are of some length. -/
structure EntF (e : Ent) : Prop where
  item : ItemFits e.1
  inst : InstFits e.2
theorem in64_of {a : Int} (h : Fits a) : In64 a := by unfold Fits at h; unfold In64; omega
theorem EntF.in (e : Ent) (h : EntF e) (ht : e.2.call.deed.key.size + e.2.call.deed.val.size ≤ 200) : EntIn e := by
  obtain ⟨⟨a1, a2⟩, ⟨⟨b1, b2⟩, ⟨c1, c2⟩, d1, ⟨⟨e1, e2, e3, e4, e5, e6⟩, f1, g1⟩⟩⟩ := h
  exact ⟨in64_of a1, in64_of a2, ⟨in64_of b1, in64_of b2, in64_of c1, in64_of c2, in64_of d1, ⟨⟨in64_of e1, in64_of e2, in64_of e3, in64_of e4, ht⟩, fun i hi => in64_of (f1 i hi), in64_of g1⟩⟩⟩
/-- No number of it is less than 0. -/
structure EntN (e : Ent) : Prop where
  deps : ∀ i, i < 7 → 0 ≤ e.2.call.deps i
  seq : 0 ≤ e.2.call.seq
  kind : 0 ≤ e.2.call.deed.kind
  ver : 0 ≤ e.2.call.deed.ver
  ses : 0 ≤ e.2.call.deed.ses
  num : 0 ≤ e.2.call.deed.num
  status : 0 ≤ e.2.status
  pround : 0 ≤ e.2.prom.round
  prep : 0 ≤ e.2.prom.rep
  vround : 0 ≤ e.2.vote.round
  vrep : 0 ≤ e.2.vote.rep
  irep : 0 ≤ e.1.rep
  inum : 0 ≤ e.1.num
theorem EntN.p {e : Ent} (h : EntN e) (k : EntIn e) : EntP e := by
  have P : ∀ {a : Int}, 0 ≤ a → In64 a → P64 a := fun h k => ⟨h, k.2⟩
  have hk := k.inst.call.deed.txt
  refine ⟨P h.irep k.rep, P h.inum k.num, ⟨P h.pround k.inst.round, P h.prep k.inst.rep, P h.vround k.inst.vround, P h.vrep k.inst.vrep, P h.status k.inst.status, ⟨⟨P h.kind k.inst.call.deed.kind, P h.ver k.inst.call.deed.ver, P h.ses k.inst.call.deed.ses, P h.num k.inst.call.deed.num, by omega, by omega⟩, fun i hi => P (h.deps i hi) (k.inst.call.deps i hi), P h.seq k.inst.call.seq⟩⟩, ?_⟩
  have := recB_len k.rep k.num k.inst (by omega)
  omega
theorem setB_len (x : Item) (i : Inst) : ∀ L : List Ent, (setB L x i).length ≤ L.length + 1
  | [] => by simp [setB]
  | e :: t => by
    unfold setB
    split
    · simp
    · have := setB_len x i t
      simp; omega
theorem foldB_len (L : List Ent) : (foldB L).length ≤ L.length := by
  have : ∀ (L B : List Ent), (L.foldl (fun b e => setB b e.1 e.2) B).length ≤ B.length + L.length := by
    intro L
    induction L with
    | nil => intro B; simp
    | cons e t ih =>
      intro B
      have h1 := ih (setB B e.1 e.2)
      have h2 := setB_len e.1 e.2 B
      simp only [List.foldl_cons, List.length_cons]
      omega
  have h := this L []
  simpa [foldB] using h
def minI (x y : Int) : Int := if y < x then y else x
theorem minI_neg {x y : Int} : minI x y < 0 ↔ x < 0 ∨ y < 0 := by unfold minI; split <;> omega
theorem min6 (P : Program) (ats : Array TypeId) (t : TypeId) (k : IntKind) (a b c d e f : Int) (w : World) :
    (Builtin.min_ ats t #[.int k a, .int k b, .int k c, .int k d, .int k e, .int k f]).run P w = .ok (.int k (minI (minI (minI (minI (minI a b) c) d) e) f)) w := by
  rfl
/-- What stands behind loop 1's first k rounds. -/
structure MadeB (n : Int) (E : List Ent) (k : Nat) (b : ByteArray) (G : List Ent) (good : Bool) (fin : Nat) : Prop where
  b : b = strL (recsOf (E.take k))
  G : G = preE n (E.take k)
  good : good = allE n (E.take k)
  fin : fin = (recsOf (preE n (E.take k))).length
  all : ∀ e ∈ E.take k, EntIn e
section
variable {n : Int} {E : List Ent} {k : Nat} {b : ByteArray} {G : List Ent} {good : Bool} {fin : Nat}
theorem MadeB.size (h : MadeB n E k b G good fin) (hE : E.length ≤ 30) : b.size ≤ 12090 := by
  rw [h.b, strL_size]
  have h1 := recsOf_len2 h.all
  have h2 : (E.take k).length ≤ 30 := by rw [List.length_take]; omega
  omega
theorem MadeB.len (h : MadeB n E k b G good fin) : G.length ≤ E.length := by
  rw [h.G]
  have h1 : (preE n (E.take k)).length ≤ (E.take k).length := List.IsPrefix.length_le (List.takeWhile_prefix _)
  rw [List.length_take] at h1
  omega
theorem MadeB.all' (h : MadeB n E k b G good fin) (hk : k < E.length) (he : EntIn E[k]) : ∀ e ∈ E.take (k + 1), EntIn e := fun e hm => by
  rw [List.take_succ_eq_append_getElem hk, List.mem_append] at hm
  rcases hm with hm | hm
  · exact h.all e hm
  · simp at hm; subst hm; exact he
theorem MadeB.bad (h : MadeB n E k b G good fin) (hk : k < E.length) (he : EntIn E[k]) (hb : (good && okE n E[k]) = false) : MadeB n E (k + 1) (b ++ strL (recOf E[k])) G false fin := by
  have ht := List.take_succ_eq_append_getElem hk
  rw [h.good] at hb
  refine ⟨?_, ?_, ?_, ?_, h.all' hk he⟩
  · rw [h.b, ht, recsOf_app, strL_app]; simp [recsOf]
  · rw [ht, preE_snoc_bad hb]; exact h.G
  · rw [ht, allE_snoc, hb]
  · rw [ht, preE_snoc_bad hb]; exact h.fin
theorem MadeB.more (h : MadeB n E k b G good fin) (hk : k < E.length) (he : EntIn E[k]) (hb : (good && okE n E[k]) = true) : MadeB n E (k + 1) (b ++ strL (recOf E[k])) (G ++ [E[k]]) true (b ++ strL (recOf E[k])).size := by
  have ht := List.take_succ_eq_append_getElem hk
  have hg := h.good
  have hG := h.G
  rw [hg] at hb
  have ha : allE n (E.take k) = true := by simp at hb; exact hb.1
  rw [preE_all ha] at hG
  have hp : preE n (E.take (k + 1)) = E.take k ++ [E[k]] := by rw [ht, preE_snoc_good hb]
  refine ⟨?_, ?_, ?_, ?_, h.all' hk he⟩
  · rw [h.b, ht, recsOf_app, strL_app]; simp [recsOf]
  · rw [hp, hG]
  · rw [ht, allE_snoc, hb]
  · rw [hp, h.b, strL_app, strL_size, recsOf_app]; simp [recsOf]
end
end Go.Proofs.Ytpganpiidgkofaa
