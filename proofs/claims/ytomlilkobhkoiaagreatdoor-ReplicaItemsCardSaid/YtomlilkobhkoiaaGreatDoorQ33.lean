/- Several texts in one. -/
import Derived.Test.YtomlilkobhkoiaaGreatDoorQ32
import Derived.Test.YtomlilkobhkoiaaGreatDoorQ27
import Derived.Test.YtomlilkobhkoiaaGreatDoorQ31
import Derived.Test.YtomlilkobhkoiaaGreatDoorQ5
/- Layer 12: the items that may be in a deed's way (Space.near), for deeds that name a prefix. -/
namespace Go.Proofs.YtomlilkobhkoiaaGreatDoor
open Go.RowKit Go.Shelf
set_option linter.unusedVariables false
set_option maxRecDepth 20000
attribute [local go_sem] Oper.semAt_some
attribute [local go_sem] row_alloc row_drew row_drewN row_ext row_setCell row_setRow size_ext setRow_alloc setRow_drew loadOf storeOf piece_lit loadVal_at storeVal_at allOne_lit buildOf buildRes_some
attribute [local go_sem high] cell_alloc frozen_alloc setCell_alloc cell_ext frozen_ext cell_setRow frozen_setRow
attribute [local go_sem ↓] TDeed_ld0 TDeed_st0 TDeed_fd0 TDeed_bd0
attribute [local go_sem] TDeed_size TDeed_one TDeed_piece TDeed_c0 TDeed_c1 TDeed_c2 TDeed_c3 TDeed_c4 TDeed_c5 TDeed_set_kind TDeed_set_key TDeed_set_val TDeed_set_ver TDeed_set_ses TDeed_set_num TDeed_ld TDeed_st TDeed_f_kind TDeed_f_key TDeed_f_val TDeed_f_ver TDeed_f_ses TDeed_f_num TDeed_bd TDeed_fl TDeed_fl_kind TDeed_fl_key TDeed_fl_val TDeed_fl_ver TDeed_fl_ses TDeed_fl_num
attribute [local go_sem high] TDeed_eql TDeed_neq
attribute [local go_sem ↓] index_deps0 load_deps0 store_deps0
attribute [local go_sem] DV_piece DV_size DV_one index_deps load_deps store_deps
attribute [local go_sem high] TDeps_eql TDeps_neq
attribute [local go_sem ↓] TCall_ld0 TCall_st0 TCall_fd0 TCall_bd0
attribute [local go_sem] TCall_size TCall_one TCall_piece TCall_c0 TCall_c1 TCall_c2 TCall_c3 TCall_c4 TCall_c5 TCall_c6 TCall_c7 TCall_c8 TCall_c9 TCall_c10 TCall_c11 TCall_c12 TCall_c13 TCall_p_deed TCall_put_deed TCall_p_deps TCall_put_deps TCall_set_seq TCall_ld TCall_st TCall_f_deed TCall_f_deps TCall_f_seq TCall_bd TCall_fl TCall_fl_deed TCall_fl_deps TCall_fl_seq
attribute [local go_sem high] TCall_eql TCall_neq
attribute [local go_sem ↓] TItem_ld0 TItem_st0 TItem_fd0 TItem_bd0
attribute [local go_sem] TItem_size TItem_one TItem_piece TItem_c0 TItem_c1 TItem_set_rep TItem_set_num TItem_ld TItem_st TItem_f_rep TItem_f_num TItem_bd TItem_fl TItem_fl_rep TItem_fl_num
attribute [local go_sem high] TItem_eql TItem_neq
attribute [local go_sem ↓] TBallot_ld0 TBallot_st0 TBallot_fd0 TBallot_bd0
attribute [local go_sem] TBallot_size TBallot_one TBallot_piece TBallot_c0 TBallot_c1 TBallot_set_round TBallot_set_rep TBallot_ld TBallot_st TBallot_f_round TBallot_f_rep TBallot_bd TBallot_fl TBallot_fl_round TBallot_fl_rep
attribute [local go_sem high] TBallot_eql TBallot_neq
attribute [local go_sem ↓] TInst_ld0 TInst_st0 TInst_fd0 TInst_bd0
attribute [local go_sem] TInst_size TInst_one TInst_piece TInst_c0 TInst_c1 TInst_c2 TInst_c3 TInst_c4 TInst_c5 TInst_c6 TInst_c7 TInst_c8 TInst_c9 TInst_c10 TInst_c11 TInst_c12 TInst_c13 TInst_c14 TInst_c15 TInst_c16 TInst_c17 TInst_c18 TInst_c19 TInst_p_prom TInst_put_prom TInst_p_vote TInst_put_vote TInst_set_status TInst_p_call TInst_put_call TInst_set_same TInst_ld TInst_st TInst_f_prom TInst_f_vote TInst_f_status TInst_f_call TInst_f_same TInst_bd TInst_fl TInst_fl_prom TInst_fl_vote TInst_fl_status TInst_fl_call TInst_fl_same
attribute [local go_sem high] TInst_eql TInst_neq
/-- What is read of a space's places, in every world that leaves them. -/
structure NearP (s bk bs c1 c2 : Nat) (I : Idx) (d : Deed) (Al As : Option Addr) (cl cs : Nat) (W : World) : Prop where
 c1 : W.cell? ⟨c1, 0, none⟩ = some (.pointer (some ⟨s, 0, none⟩))
 c2 : row? W c2 = some (EV d)
 keys : W.cell? ⟨s, 1, none⟩ = some (.map (some bk))
 lists : W.cell? ⟨s, 2, none⟩ = some (.slice Al I.lists.length cl)
 ses : W.cell? ⟨s, 3, none⟩ = some (.map (some bs))
 lookS : (Instr.lookup 90 (.map (some bs)) (.int .i64 d.ses) false).run Tryz.prog W = .ok (.slice As (I.ses d.ses).length cs) W
 rowsL : RowsIn W Al 2 IV I.lists
 rowsS : RowsIn W As 2 IV (I.ses d.ses)
theorem nearP_facts (s lg bk bs c1 c2 : Nat) (I : Idx) (hI : IdxOk I) (d : Deed) (hs : intKOk d.ses) (W0 : World) (H : Nat → Prop) (hS : Sat W0 (nearL s lg bk bs c1 c2 I d) H) :
  (∃ Al As cl cs, ∀ w F W R, Sts w F W (pinR H W0 :: R) → NearP s bk bs c1 c2 I d Al As cl cs W) ∧ ∃ n D, KRead Tryz.prog 9 2 IV strK strKOk H W0 bk I.N I.keys n D := by
 have T := Sts.start hS
 unfold nearL at T
 obtain ⟨v, T⟩ := (T.ord [2, 0, 1]).idxOpen
 have T1 := T.ord [3, 0, 1, 2, 4, 5]
 constructor
 ·obtain ⟨u, n, g, O, hn, hv, T2, -, -⟩ := T1.kmapPick d.ses hs
  obtain ⟨Al, cl, rfl⟩ := vec_shape2 (T2.ord [4, 0, 1, 2, 3, 5, 6, 7])
  obtain ⟨As, cs, rfl⟩ := vec_shape2 T2.drop
  obtain ⟨G, hG1, hG2⟩ := Sts.among hS T2
  refine ⟨Al, As, cl, cs, fun w F W R TP => ?_⟩
  have T5 := Sts.start (TP.pinned hG1 hG2)
  clear T T1 T2
  have r1 := (T5.ord [6, 0, 1, 2, 3, 4, 5]).row
  have r2 := (T5.ord [7, 0, 1, 2, 3, 4, 5, 6]).row
  have r3 := (T5.ord [3, 0, 1, 2]).row
  have lS := (T5.map).look0 intOk Tryz.underlying90 zeroItems d.ses hs hv
  have hN := hI.N; have h1 := hI.lists; have h2 := hI.ses d.ses
  obtain ⟨A1, q1, e1, R1, -, -⟩ := vec_rows (V := IV) (fun _ => rfl) (T5.ord [4, 0, 1, 2, 3]) (by omega) (by omega)
  obtain ⟨A2, q2, e2, R2, -, -⟩ := vec_rows (V := IV) (fun _ => rfl) T5.drop (by omega) (by omega)
  injection e1 with e1; subst e1
  injection e2 with e2; subst e2
  exact ⟨row_cell r1 0, r2, row_cell r3 1, row_cell r3 2, row_cell r3 3, lS, R1, R2⟩
 ·have T2 := T.ord [2, 0, 1, 3, 4, 5]
  obtain ⟨G, hG1, hG2⟩ := Sts.among hS T2
  have hN := hI.N
  exact kmapRead strOk (fun _ => rfl) (by omega) (fun x => by have := hI.keys x; omega) hG1 hG2
/-- A row of items that is read through this slice, in every world that leaves the pinned things. -/
def rowIs (H : Nat → Prop) (W0 : World) (q : Value × List Item) : Prop := ∃ A c, q.1 = .slice A q.2.length c ∧ ∀ w F W R, Sts w F W (pinR H W0 :: R) → RowsIn W A 2 IV q.2
/-- What the rows gathered so far bear. -/
structure Gath (H : Nat → Prop) (W0 : World) (I : Idx) (d : Deed) (left : Lit → Bool) (rs : List (Value × List Item)) : Prop where
 rows : ∀ q ∈ rs, rowIs H W0 q
 mem : ∀ x, (∃ q ∈ rs, x ∈ q.2) ↔ x ∈ I.lists ∨ x ∈ I.ses d.ses ∨ ∃ k, strKOk k ∧ preB k d.key = true ∧ left (.string k.data.toList) = false ∧ x ∈ I.keys k
theorem str_lit {a b : ByteArray} : (Lit.string a.data.toList).sameKey (.string b.data.toList) = true ↔ a = b := by
 constructor
 ·intro h
  have := WideAt.sameKey_eq h
  injection this with h
  exact ByteArray.ext (Array.ext' h)
 ·rintro rfl
  exact WideAt.sameKey_self trivial
theorem Gath.skip {H : Nat → Prop} {W0 : World} {I : Idx} {d : Deed} {left : Lit → Bool} {rs : List (Value × List Item)} (h : Gath H W0 I d left rs) {k : ByteArray} (hp : preB k d.key = false) : Gath H W0 I d (fun x => left x && !x.sameKey (.string k.data.toList)) rs := by
 refine ⟨h.rows, fun x => ?_⟩
 rw [h.mem]
 constructor
 ·rintro (h1 | h1 | ⟨k', a, b, c, e⟩)
  ·exact .inl h1
  ·exact .inr (.inl h1)
  ·exact .inr (.inr ⟨k', a, b, by simp [c], e⟩)
 ·rintro (h1 | h1 | ⟨k', a, b, c, e⟩)
  ·exact .inl h1
  ·exact .inr (.inl h1)
  ·refine .inr (.inr ⟨k', a, b, ?_, e⟩)
   cases hl : left (.string k'.data.toList) with
   | false => rfl
   | true =>
    rw [hl] at c
    have c2 : (Lit.string k'.data.toList).sameKey (.string k.data.toList) = true := by simpa using c
    have := str_lit.1 c2
    subst this
    rw [hp] at b; cases b
theorem Gath.take {H : Nat → Prop} {W0 : World} {I : Idx} {d : Deed} {left : Lit → Bool} {rs : List (Value × List Item)} (h : Gath H W0 I d left rs) {k : ByteArray} {v : Value} (hk : strKOk k) (hp : preB k d.key = true) (hr : rowIs H W0 (v, I.keys k)) : Gath H W0 I d (fun x => left x && !x.sameKey (.string k.data.toList)) (rs ++ [(v, I.keys k)]) := by
 refine ⟨fun q hq => ?_, fun x => ?_⟩
 ·rcases List.mem_append.1 hq with h1 | h1
  ·exact h.rows q h1
  ·simp at h1; subst h1; exact hr
 ·have e1 : (∃ q ∈ rs ++ [(v, I.keys k)], x ∈ q.2) ↔ (∃ q ∈ rs, x ∈ q.2) ∨ x ∈ I.keys k := by
   constructor
   ·rintro ⟨q, hq, hx⟩
    rcases List.mem_append.1 hq with h1 | h1
    ·exact .inl ⟨q, h1, hx⟩
    ·simp at h1; subst h1; exact .inr hx
   ·rintro (⟨q, hq, hx⟩ | hx)
    ·exact ⟨q, by simp [hq], hx⟩
    ·exact ⟨(v, I.keys k), by simp, hx⟩
  rw [e1, h.mem]
  constructor
  ·rintro ((h1 | h1 | ⟨k', a, b, c, e⟩) | h1)
   ·exact .inl h1
   ·exact .inr (.inl h1)
   ·exact .inr (.inr ⟨k', a, b, by simp [c], e⟩)
   ·exact .inr (.inr ⟨k, hk, hp, by rw [str_lit.2 rfl]; simp, h1⟩)
  ·rintro (h1 | h1 | ⟨k', a, b, c, e⟩)
   ·exact .inl (.inl h1)
   ·exact .inl (.inr (.inl h1))
   ·cases hl : left (.string k'.data.toList) with
    | false => exact .inl (.inr (.inr ⟨k', a, b, hl, e⟩))
    | true =>
     rw [hl] at c
     have c2 : (Lit.string k'.data.toList).sameKey (.string k.data.toList) = true := by simpa using c
     have := str_lit.1 c2
     subst this
     exact .inr e
/-- All keys have come: what is gathered. -/
theorem Gath.all {H : Nat → Prop} {W0 : World} {I : Idx} {d : Deed} {left : Lit → Bool} {rs : List (Value × List Item)} (h : Gath H W0 I d left rs) (h5 : d.kind = 5) (hl : ∀ kl, left kl = false) (hz : ∀ k, ¬ strKOk k → I.keys k = []) : nearO I d (rs.map (·.2)).flatten := fun x => by
 have e : x ∈ (rs.map (·.2)).flatten ↔ ∃ q ∈ rs, x ∈ q.2 := by
  rw [List.mem_flatten]
  constructor
  ·rintro ⟨l, hl, hx⟩
   obtain ⟨q, hq, rfl⟩ := List.mem_map.1 hl
   exact ⟨q, hq, hx⟩
  ·rintro ⟨q, hq, hx⟩
   exact ⟨q.2, List.mem_map.2 ⟨q, hq, rfl⟩, hx⟩
 rw [e, h.mem]
 have e2 : ∀ k, aboutB d k = preB k d.key := fun k => if_pos h5
 constructor
 ·rintro (h1 | h1 | ⟨k', a, b, c, e⟩)
  ·exact .inl h1
  ·exact .inr (.inl h1)
  ·exact .inr (.inr ⟨k', by rw [e2]; exact b, e⟩)
 ·rintro (h1 | h1 | ⟨k', b, e⟩)
  ·exact .inl h1
  ·exact .inr (.inl h1)
  ·rw [e2] at b
   by_cases hk : strKOk k'
   ·exact .inr (.inr ⟨k', hk, b, hl _, e⟩)
   ·rw [hz k' hk] at e; simp at e
theorem vl_one : ∀ l : List Value, vl (fun v : Value => #[v]) l = l
 | [] => rfl
 | a :: l => by
  show (#[a] ++ flatV (fun v : Value => #[v]) l).toList = a :: l
  rw [Array.toList_append]
  show [a] ++ vl (fun v : Value => #[v]) l = a :: l
  rw [vl_one l]; rfl
theorem vec_some {e : TypeId} {size n : Nat} {v : Value} {xs : List Value} {w W : World} {F : Nat → Prop} {R : List Res} (T : Sts w F W (vecR e size v n xs :: R)) (h : 0 < n) : ∃ g c, v = .slice (some ⟨g, 0, none⟩) n c := by
 rcases T.vec.2 with ⟨rfl, hn⟩ | ⟨g, cap, cur, rfl, _⟩
 ·omega
 ·exact ⟨g, cap, rfl⟩
set_option maxHeartbeats 8000000 in
theorem nearG5 (s lg bk bs c1 c2 : Nat) (I : Idx) (hI : IdxOk I) (d : Deed) (h5 : d.kind = 5) (hk : d.key.size ≤ maxLen) (hs : intKOk d.ses) (W0 : World) (H : Nat → Prop) (hS : Sat W0 (nearL s lg bk bs c1 c2 I d) H) :
  GivesD Tryz.prog 86 #[.pointer (some ⟨c1, 0, none⟩), .pointer (some ⟨c2, 0, none⟩)] (fun x : Item => #[.agg (IV x)]) [pinR H W0] (nearO I d) := by
 obtain ⟨⟨Al, As, cl, cs, hF⟩, nk, D, hK⟩ := nearP_facts s lg bk bs c1 c2 I hI d hs W0 H hS
 have HF := Lib.hid hF; have HK := Lib.hid hK; have HI := Lib.hid hI; have HKS := Lib.hid hk
 clear hF hS hK hI hk
 intro l own ownX hY w F W R T
 have HY := Lib.hid hY; clear hY
 have T : Sts w F W (pinR H W0 :: (own [] ++ R)) := T.perm perm_one
 have HT := Lib.hid T; clear T
 refine callsIn_of_wp Tryz.func86 rfl trivial ?_ rfl
 simp only [Tryz.ntmps86, List.size_toArray, List.length_cons, List.length_nil, Nat.reduceAdd, Nat.reduceSub, Array.replicate_succ, Array.replicate_zero, List.push_toArray, List.append_toArray, List.nil_append, List.cons_append]
 gi_wp2_with fail
 have FS : ∀ W' R', Sts w F W' (pinR H W0 :: R') → (W'.cell? ⟨c1, 0, none⟩ = some (.pointer (some ⟨s, 0, none⟩)) ∧ W'.cell? ⟨c2, 4, none⟩ = some (.int .i64 d.ses) ∧ W'.cell? ⟨s, 2, none⟩ = some (.slice Al I.lists.length cl) ∧ W'.cell? ⟨s, 3, none⟩ = some (.map (some bs)) ∧ (Instr.lookup 90 (.map (some bs)) (.int .i64 d.ses) false).run Tryz.prog W' = .ok (.slice As (I.ses d.ses).length cs) W') := fun W' R' T => by
  have f := HF.out _ _ _ _ T
  exact ⟨f.c1, row_cell f.c2 4, f.lists, f.ses, f.lookS⟩
 have S0 := FS _ _ HT.out.drew
 have HFS := Lib.hid FS; clear FS
 refine wpIn_wide.2 ?_
 refine wp_region_held_drew (S := fun W' => (W'.cell? ⟨c1, 0, none⟩ = some (.pointer (some ⟨s, 0, none⟩)) ∧ W'.cell? ⟨c2, 4, none⟩ = some (.int .i64 d.ses) ∧ W'.cell? ⟨s, 2, none⟩ = some (.slice Al I.lists.length cl) ∧ W'.cell? ⟨s, 3, none⟩ = some (.map (some bs)) ∧ (Instr.lookup 90 (.map (some bs)) (.int .i64 d.ses) false).run Tryz.prog W' = .ok (.slice As (I.ses d.ses).length cs) W')) (by kernel_rfl) S0 (fun hHeld => ?_)
 clear S0
 refine tkH 0 rfl ?_
 simp only [Act.put, List.setIfInBounds_toArray, List.set_cons_zero, List.set_cons_succ]
 refine tkH 1 rfl ?_
 go_frame
 refine tkH 2 rfl ?_
 go_frame
 refine tkH 3 rfl ?_
 go_frame
 refine tkH 4 rfl ?_
 go_frame
 refine tkH 5 rfl ?_
 go_frame
 refine tkH 6 rfl ?_
 go_frame
 refine tkH 7 rfl ?_
 go_frame
 refine tkH 8 rfl ?_
 go_frame
 refine tkH 9 rfl ?_
 go_frame
 refine tkH 10 rfl ?_
 go_frame
 refine wpAnyH_ready (rs := [11]) (by kernel_rfl) (by simp) ?_
 refine AllReadyH.cons (o := _) rfl (fun K hK => ?_) AllReadyH.nil
 have Ta := (HT.out.vecNew #[.slice Al I.lists.length cl, .slice As (I.ses d.ses).length cs] 89 1 2 rfl (by unfold maxLen; omega)).drew
 have HTa := Lib.hid (Ta.ord [1, 0]); clear Ta HT
 go_simp
 refine hK.out _ _ (HFS.out _ _ HTa.out) (fun hHeld => ?_)
 clear hK K HFS
 refine tkH 12 rfl ?_
 simp only [Act.put, List.setIfInBounds_toArray, List.set_cons_zero, List.set_cons_succ]
 refine wpAnyH_done (by kernel_rfl) ?_ _
 simp only [Exit.then]
 generalize hw1 : (W.alloc _).drew = w1 at *
 generalize W.heap.size = g0 at *
 clear hw1
 have r2 := (HF.out _ _ _ _ HTa.out).c2; have l2 := row_lt r2; have c20 := row_cell r2 0
 have q1 := (HF.out _ _ _ _ HTa.out).c1; have q2 := (HF.out _ _ _ _ HTa.out).keys
 have h5b : (d.kind == 5) = true := by simpa using h5
 obtain ⟨w2, hrun, T2, -⟩ := HTa.out.rangeNew HK.out.blk (HK.out.own _ _ _ _ HTa.out) strOk.keyed Tryz.underlying88
 generalize w1.heap.size = gr at *
 have HT := Lib.hid T2; clear T2 HTa
 gi_wp2_with fail
 clear r2 l2 c20 q1 q2 hrun h5b
 have hg0 : Gath H W0 I d (Maps.has D) [(.slice Al I.lists.length cl, I.lists), (.slice As (I.ses d.ses).length cs, I.ses d.ses)] := by
  refine ⟨fun q hq => ?_, fun x => ?_⟩
  ·rcases List.mem_cons.1 hq with rfl | hq
   ·exact ⟨Al, cl, rfl, fun _ _ _ _ T => (HF.out _ _ _ _ T).rowsL⟩
   ·simp at hq; subst hq
    exact ⟨As, cs, rfl, fun _ _ _ _ T => (HF.out _ _ _ _ T).rowsS⟩
  ·constructor
   ·rintro ⟨q, hq, hx⟩
    rcases List.mem_cons.1 hq with rfl | hq
    ·exact .inl hx
    ·simp at hq; subst hq; exact .inr (.inl hx)
   ·rintro (h | h | ⟨k, a, b, c, e⟩)
    ·exact ⟨(.slice Al I.lists.length cl, I.lists), by simp, h⟩
    ·exact ⟨(.slice As (I.ses d.ses).length cs, I.ses d.ses), by simp, h⟩
    ·rw [HK.out.none k _ a (WideMaps.keyOf_string_mk Tryz.underlying9 a) c] at e; simp at e
 have HG0 := Lib.hid hg0; clear hg0
 gi_loopw [4] (fun v wr => ∃ (left : Lit → Bool) (cnt : Nat) (rs : List (Value × List Item)) (gv cap : Nat), v = .slice (some ⟨gv, 0, none⟩) rs.length cap ∧ rs.length + cnt ≤ nk + 2 ∧ Gath H W0 I d left rs ∧ (∀ kl, left kl = true → Maps.has D kl = true) ∧ Sts w F wr (iterR W0 Tryz.prog 9 bk gr nk D left cnt :: pinR H W0 :: vecR 89 1 v rs.length (rs.map (·.1)) :: (own [] ++ R))) (fun _ w' => w'.rangeLeft bk gr)
 case atStart =>
  refine ⟨Maps.has D, Maps.size D, [(.slice Al I.lists.length cl, I.lists), (.slice As (I.ses d.ses).length cs, I.ses d.ses)], g0, 2, rfl, ?_, HG0.out, fun _ h => h, HT.out⟩
  have := HK.out.cnt
  simp; omega
 case round =>
  clear HT HG0
  obtain ⟨left, cnt, rs, gv, cap, rfl, hcnt, hG, hlD, T⟩ := hrel
  have hleft := (T.ranges HK.out.blk).left_eq
  have HLE := Lib.hid hleft; have HCNT := Lib.hid hcnt; have HLD := Lib.hid hlD; have HG := Lib.hid hG
  clear hleft hcnt hlD hG
  rcases T.rangeNext HK.out.blk strOk.keyed 0 with ⟨hc0, hl0, hrun⟩ | ⟨key, v, kl, w3, cnt3, hkey, hlk, hat, hrun, T3, hlt, hen⟩
  ·have hno := HG.out.all h5 hl0 HK.out.bad
   obtain ⟨tot, htot⟩ : ∃ tot, tot = (rs.map (·.2)).flatten := ⟨_, rfl⟩
   rw [← htot] at hno
   obtain ⟨sm, hsm⟩ : ∃ sm : Nat → List Item, sm = fun i => ((rs.map (·.2)).take i).flatten := ⟨_, rfl⟩
   have hsm0 : sm 0 = [] := by rw [hsm]; rfl
   have hsmN : sm rs.length = tot := by rw [hsm, htot]; dsimp only; rw [List.take_of_length_le (by simp)]
   have hrow : ∀ (w : World) (F : Nat → Prop) (W : World) (R : List Res) (i : Nat), i < rs.length → Sts w F W (pinR H W0 :: vecR 89 1 (.slice (some ⟨gv, 0, none⟩) rs.length cap) rs.length (rs.map (·.1)) :: R) →
     ∃ A c li rest, W.cell? ⟨gv, i, none⟩ = some (.slice A (List.length li) c) ∧ (∀ w F W R, Sts w F W (pinR H W0 :: R) → RowsIn W A 2 IV li) ∧ sm (i + 1) = sm i ++ li ∧ tot = sm i ++ li ++ rest := fun w F W R i hi T => by
    have T9 := T.drop
    have e9 : rs.map (·.1) = vl (fun v : Value => #[v]) (rs.map (·.1)) := (vl_one _).symm
    rw [e9, show vecR 89 1 (.slice (some ⟨gv, 0, none⟩) rs.length cap) rs.length (vl (fun v : Value => #[v]) (rs.map (·.1))) = vecR 89 1 (.slice (some ⟨gv, 0, none⟩) rs.length cap) (rs.map (·.1)).length (vl (fun v : Value => #[v]) (rs.map (·.1))) by rw [List.length_map]] at T9
    have hb := HCNT.out; have hb2 := HK.out.le; have hb3 := HI.out.N
    have hv := vec_rows (V := fun v : Value => #[v]) (l := rs.map (·.1)) (fun _ => rfl) (e := 89) (size := 1) T9 (by omega) (by rw [List.length_map]; omega)
    obtain ⟨A', c', e1, hR, -, -⟩ := hv
    injection e1 with e1; subst e1
    obtain ⟨A, c, hq1, hq2⟩ := HG.out.rows rs[i] (List.getElem_mem hi)
    have h2 := hR.one (Below.refl _ _) (j := i) (by rw [List.length_map]; exact hi) 0 rs[i].1 (by rw [List.getElem_map]; rfl)
    rw [Nat.mul_one, Nat.add_zero, hq1] at h2
    refine ⟨A, c, rs[i].2, ((rs.map (·.2)).drop (i + 1)).flatten, h2, hq2, ?_, ?_⟩
    ·rw [hsm]; dsimp only
     rw [List.take_succ_eq_append_getElem (by simpa using hi), List.flatten_append]; simp
    ·rw [htot, hsm]; dsimp only
     have h3 : (rs.map (·.2)).take i ++ [rs[i].2] ++ (rs.map (·.2)).drop (i + 1) = rs.map (·.2) := by
      have h4 := List.take_append_drop (i + 1) (rs.map (·.2))
      rw [List.take_succ_eq_append_getElem (by simpa using hi)] at h4
      simpa using h4
     have h5 := congrArg List.flatten h3
     rw [List.flatten_append, List.flatten_append] at h5
     simpa using h5.symm
   have HROW := Lib.hid hrow
   have HT2 : Sts w F wr (pinR H W0 :: vecR 89 1 (.slice (some ⟨gv, 0, none⟩) rs.length cap) rs.length (rs.map (·.1)) :: (own (sm 0) ++ R)) := by rw [hsm0]; exact T.drop
   have HT := Lib.hid HT2; have HNO := Lib.hid hno
   have HSMN := Lib.hid hsmN
   have hrl : (rs.length : Int) ≤ 9223372036854775807 := by have := HCNT.out; have := HK.out.le; have := HI.out.N; omega
   clear hrow HT2 hsm hsm0 hsmN htot hno T hl0 hc0 HCNT HLE HLD HG
   gi_wp2_with fail
   clear hrun
   gi_loopw [56] (fun i wr => ∃ r : Nat, r ≤ rs.length ∧ i = .int .i64 r ∧ Sts w F wr (pinR H W0 :: vecR 89 1 (.slice (some ⟨gv, 0, none⟩) rs.length cap) rs.length (rs.map (·.1)) :: (own (sm r) ++ R))) (fun i _ => rs.length - (intOf i).toNat)
   case atStart => exact ⟨0, by omega, rfl, HT.out⟩
   case round =>
    clear HT
    obtain ⟨r, hr3, rfl, T⟩ := hrel
    by_cases hlt : r < rs.length
    ·skip
     have hlt' : (0 : Int) ≤ (r : Int) ∧ (r : Int) < (rs.length : Int) := by omega
     obtain ⟨A, c, li, rest, hcell, hrows, hsr, htr⟩ := HROW.out _ _ _ _ r hlt T
     have HRW := Lib.hid hrows; have HSR := Lib.hid hsr; have HTR := Lib.hid htr; have HT := Lib.hid T
     have hll := (hrows _ _ _ _ T).len
     clear hrows hsr htr T
     gi_wp2_with fail
     clear hcell
     gi_loopw [62] (fun j wr => ∃ k : Nat, k ≤ li.length ∧ j = .int .i64 k ∧ Sts w F wr (pinR H W0 :: vecR 89 1 (.slice (some ⟨gv, 0, none⟩) rs.length cap) rs.length (rs.map (·.1)) :: (own (sm r ++ li.take k) ++ R))) (fun j _ => li.length - (intOf j).toNat)
     case atStart => exact ⟨0, Nat.zero_le _, rfl, by rw [List.take_zero, List.append_nil]; exact HT.out⟩
     case round =>
      clear HT
      obtain ⟨k, hk, rfl, T⟩ := hrel
      by_cases hkl : k < li.length
      ·have hR := HRW.out _ _ _ _ T
       cases A with
       | none => have := hR.nil rfl; subst this; simp at hkl
       | some a =>
        have hld := hR.load (P := Tryz.prog) (T := 33) (fun _ => rfl) TItem_und rfl (by kernel_rfl) (Below.refl _ _) rfl hkl
        have hpost : ∃ post, sm r ++ li.take k ++ li[k] :: post = tot := by
         refine ⟨li.drop (k + 1) ++ rest, ?_⟩
         rw [HTR.out]
         have h1 : li.take k ++ li[k] :: li.drop (k + 1) = li := by rw [List.getElem_cons_drop, List.take_append_drop]
         have h2 : sm r ++ li ++ rest = sm r ++ (li.take k ++ li[k] :: li.drop (k + 1)) ++ rest := by rw [h1]
         rw [h2]
         simp only [List.append_assoc, List.cons_append]
        have htk : sm r ++ li.take (k + 1) = sm r ++ li.take k ++ [li[k]] := by rw [List.take_succ_eq_append_getElem hkl, List.append_assoc]
        have hk3 : (k : Int) < (li.length : Int) := by omega
        have hk0 : (0 : Int) ≤ (k : Int) := by omega
        generalize li[k] = x at *
        have T2 := T.new (IV x) 33
        have T3 := T2.ord [1, 0, 2]
        have hY := HY.out (sm r ++ li.take k) x w F _ _ (let ⟨p, hp⟩ := hpost; ⟨p, by rw [hp]; exact HNO.out⟩) (T3.perm (perm_pre (M := [_, _, _])))
        have HTK := Lib.hid htk
        have r1 := T2.row; have l1 := row_lt r1
        clear hR hpost T T2 T3 htk
        obtain ⟨fn, tmps, assign, body, hy, hRR⟩ := hY
        gi_wp2_with fail
        refine hRR.mono ?_
        clear hy hRR r1 l1 hld
        rintro e W3 (⟨rfl, T⟩ | ⟨rfl, T⟩)
        ·have T5 := (T.perm (perm_pre (M := [_, _, _])).symm).ord [1, 0, 2]
         have HT := Lib.hid T5.drop; clear T T5
         gi_wp2
         go_roundw
         case rel => exact ⟨k + 1, by omega, by go_num, by rw [HTK.out]; exact HT.out⟩
         case measure => simp [intOf]; omega
        ·have T5 := (T.perm (perm_pre (M := [_, _, _])).symm).ord [1, 2, 0]
         have T6 := T5.drop.drop
         have HT := Lib.hid (T6.perm (perm_pre (M := [_]))); clear T T5 T6
         gi_wp2
         refine bodyPost_ret (results_none rfl _ _ _) rfl ?_
         exact ⟨⟨_, rfl⟩, .inr ⟨_, HT.out⟩⟩
      ·obtain rfl : k = li.length := by omega
       rw [List.take_length, ← HSR.out] at T
       have HT := Lib.hid T; clear T
       gi_wp2
       go_roundw
       case rel => exact ⟨r + 1, by omega, by go_num, HT.out⟩
       case measure => simp [intOf]; omega
    ·obtain rfl : r = rs.length := by omega
     rw [HSMN.out] at T
     have T6 := (T.ord [1, 0]).drop
     have HT := Lib.hid (T6.perm (perm_pre (M := [_]))); clear T T6
     gi_wp2
     go_end0
     exact ⟨⟨_, rfl⟩, .inl ⟨tot, HNO.out, HT.out⟩⟩
  ·obtain ⟨k, rfl, hks, rfl⟩ := keyOf_string_inv Tryz.underlying9 hkey
   obtain ⟨A, c, rfl, hrow⟩ := HK.out.rows k _ _ hks hkey (HLD.out _ hlk) hat
   have hri : rowIs H W0 (.slice A (I.keys k).length c, I.keys k) := ⟨A, c, rfl, hrow⟩
   have hkn : (I.keys k).length ≤ I.N := HI.out.keys k
   have HRI := Lib.hid hri; have HLT := Lib.hid hlt; have HKN := Lib.hid hkn
   clear hri hlt hkn hrow hkey hlk hat T
   have r2 := (HF.out _ _ _ _ (T3.ord [1, 0, 2])).c2; have l2 := row_lt r2; have c21 := row_cell r2 1
   have hpre := pre_any k d.key hks HKS.out
   have HPRE := Lib.hid hpre; have HT := Lib.hid T3
   clear hpre T3
   gi_wp2_with fail
   refine ⟨trivial, (callsIn_wide.2 (Ans.at HPRE.out HT.out)).mono ?_⟩
   clear HT HPRE r2 l2 c21 hrun hen
   rintro e w4 ⟨rfl, T⟩
   cases hp : preB k d.key
   case false =>
    have hg := HG.out.skip hp
    have HG2 := Lib.hid hg; have HT := Lib.hid T
    clear hg T
    gi_wp2
    go_roundw
    case rel => exact ⟨_, cnt3, rs, gv, cap, rfl, by have := HCNT.out; have := HLT.out; omega, HG2.out, fun kl h => HLD.out kl (by simp at h; exact h.1), HT.out⟩
    case measure =>
     rw [(HT.out.ranges HK.out.blk).left_eq, HLE.out]
     exact HLT.out
   case true =>
    have hg := HG.out.take hks hp HRI.out
    have HG2 := Lib.hid hg
    clear hg
    have T5 := T.new #[.slice A (I.keys k).length c] 89
    have HT5 := Lib.hid (T5.ord [3, 0, 1, 2]); clear T T5
    obtain ⟨i0, hi, hz0, hz1, hz2⟩ := items_i
    have hnk : rs.length + 1 ≤ 1000002 := by have := HCNT.out; have := HLT.out; have := HK.out.le; have := HI.out.N; omega
    have HNK := Lib.hid hnk; clear hnk
    have hnw := Lib.hid (news_row HT5.out.row1)
    gi_wp2_with (gi_at_builtin; refine wpListIn_append_vec rfl _ _ 190 rfl 89 i0 _ 1 24 Tryz.underlying190 hi hz0 hz1 hz2 rfl (by omega) _ _ _ rfl HT5.out _ 1 1 _ rfl rfl hnw.out (by simp [Value.oneCell']) ?c3 ?c4 ?_)
    case c3 => have := HNK.out; unfold maxLen; omega
    case c4 => have := HNK.out; omega
    intro v' w5 T6
    obtain ⟨gv', cap', rfl⟩ := vec_some T6 (by omega)
    have T7 : Sts w F w5 (iterR W0 Tryz.prog 9 bk gr nk D (fun x => left x && !x.sameKey (.string k.data.toList)) cnt3 :: pinR H W0 :: vecR 89 1 (.slice (some ⟨gv', 0, none⟩) (rs.length + 1) cap') (rs.length + 1) ((rs ++ [((Value.slice A (I.keys k).length c, I.keys k) : Value × List Item)]).map (·.1)) :: (own [] ++ R)) := by
     have T8 := T6.ord [1, 2, 3, 0]
     rw [List.map_append]
     exact T8.drop
    have HT := Lib.hid T7
    clear HT5 T6 T7
    gi_wp2
    go_roundw
    case rel => exact ⟨_, cnt3, rs ++ [(.slice A (I.keys k).length c, I.keys k)], gv', cap', by simp, by have := HCNT.out; have := HLT.out; simp; omega, HG2.out, fun kl h => HLD.out kl (by simp at h; exact h.1), by rw [List.length_append]; exact HT.out⟩
    case measure =>
     rw [(HT.out.ranges HK.out.blk).left_eq, HLE.out]
     exact HLT.out
end Go.Proofs.YtomlilkobhkoiaaGreatDoor
/- Layer 12: up to which items a deed waits (Space.Way), of every deed. -/
namespace Go.Proofs.YtomlilkobhkoiaaGreatDoor
open Go.RowKit Go.Shelf
set_option linter.unusedVariables false
theorem GivesD.mono {α : Type} {P : Program} {gf : Nat} {lb : Array Value} {enc : α → Array Value} {L : List Res} {O O' : List α → Prop} (h : GivesD P gf lb enc L O) (ho : ∀ xs, O xs → O' xs) : GivesD P gf lb enc L O' :=
 fun l own ownX hY w F W R T => (h l own ownX (fun pre x w F W1 R ⟨post, hp⟩ T => hY pre x w F W1 R ⟨post, ho _ hp⟩ T) w F W R T).mono fun e W' ⟨he, hq⟩ => ⟨he, hq.imp (fun ⟨xs, hx, hS⟩ => ⟨xs, ho _ hx, hS⟩) id⟩
theorem near_any {s lg bk bs : Nat} {I : Idx} (hI : IdxOk I) (d : Deed) (hk : d.key.size ≤ maxLen) (hs : intKOk d.ses) (c1 c2 : Nat) (W0 : World) (H : Nat → Prop) (hS : Sat W0 (nearL s lg bk bs c1 c2 I d) H) :
  GivesD Tryz.prog 86 #[.pointer (some ⟨c1, 0, none⟩), .pointer (some ⟨c2, 0, none⟩)] (fun x : Item => #[.agg (IV x)]) [pinR H W0] (nearO I d) := by
 by_cases h5 : d.kind = 5
 ·exact nearG5 s lg bk bs c1 c2 I hI d h5 hk hs W0 H hS
 ·exact (nearG s lg bk bs c1 c2 I hI d h5 hk hs W0 H hS).mono fun xs h => h ▸ nearO_key h5
/-- What stands in a deed's way, by what is known. -/
noncomputable def wayK (m : RowsM) (d : Deed) (but : Item) : WayR := wayG (getM m) d but ((ents m).map Prod.fst)
theorem seq_good {m : RowsM} (hg : RowsGood m) {x : Item} {i : Inst} (h : getM m x = some i) : 0 ≤ i.call.seq ∧ i.call.seq ≤ 1099511627776 := by
 have h1 := hg _ _ h
 unfold goodN goodC at h1
 simp only [Bool.and_eq_true, decide_eq_true_eq] at h1
 exact ⟨h1.1.2.1.2, h1.1.2.2⟩
theorem wayM_K {I : Idx} {m : RowsM} (hm : RowsOk m) (hg : RowsGood m) (h : IdxCov I m) {d : Deed} {but : Item} {xs : List Item} (hO : nearO I d xs) : wayM m d but xs = wayK m d but :=
 way_all h hm.n.2 (fun x i hi => (seq_good hg hi).1) hO fun x i hi => List.mem_map.2 ⟨_, ents_has hm hi, rfl⟩
section
variable {w W : World} {F : Nat → Prop} {R : List Res} {s lg p g bk bs : Nat} {I : Idx} {D : List UInt8} {safe : Nat} {m : RowsM}
theorem spWay (hm : RowsOk m) (hg : RowsGood m) (hI : IdxOk I) (h : IdxCov I m) (d : Deed) (but : Item) (hk : d.key.size ≤ maxLen) (hs : intKOk d.ses) (T : Sts w F W (spL s lg p g bk bs I D safe m ++ R)) :
  Calls Tryz.prog 22 #[.pointer (some ⟨s, 0, none⟩), .agg (EV d), .agg (IV but)] W fun e W' => e = .returned (.tuple #[.agg (DV (wayK m d but).out), .int .i64 (wayK m d but).seq]) ∧ Sts w F W' (spL s lg p g bk bs I D safe m ++ R) :=
 (spWayT hm hg d but (nearO I d) (fun c1 c2 W0 H hS => near_any hI d hk hs c1 c2 W0 H hS) hk T).mono fun e W' ⟨xs, hO, he, hT⟩ => ⟨by rw [he, wayM_K hm hg h hO], hT⟩
end
end Go.Proofs.YtomlilkobhkoiaaGreatDoor
/- Layer 12, plain: a space that goes well. No walk stands here. -/
namespace Go.Proofs.YtomlilkobhkoiaaGreatDoor
open Go.RowKit
set_option linter.unusedVariables false
attribute [local instance 10] Classical.propDecidable
theorem add_len {D : List UInt8} {safe : Nat} {m : RowsM} (x : Item) (i : Inst) (h : D.length ≤ 65536) : (addM D safe m x i).1.length ≤ 65536 := by
 have ht : ∀ k, (tightP D safe m k).1.length ≤ 65536 := fun k => by
  unfold tightP tidyP
  split
  ·split
   ·assumption
   ·exact h
  ·exact h
 unfold addM
 split
 ·split
  ·split
   ·rw [List.length_append]; assumption
   ·exact ht _
  ·exact ht _
 ·exact h
theorem add_rows {D : List UInt8} {safe : Nat} {m : RowsM} (x : Item) (i : Inst) : ((addM D safe m x i).2.2.2 = 0 ∧ (addM D safe m x i).2.2.1 = setM m x i) ∨ ((addM D safe m x i).2.2.2 ≠ 0 ∧ (addM D safe m x i).2.2.1 = m) := by
 unfold addM
 split
 ·split
  ·split
   ·exact .inl ⟨rfl, rfl⟩
   ·exact .inr ⟨by simp, rfl⟩
  ·rename_i h
   exact .inr ⟨h, rfl⟩
 ·exact .inr ⟨by simp, rfl⟩
/-- A row's last place holds something. -/
def Topped (m : RowsM) : Prop := ∀ r k, (m.f r).length = k + 1 → ∃ t, (m.f r)[k]? = some (some t)
theorem Topped.new (n : Int) : Topped ⟨n, fun _ => []⟩ := fun r k h => by simp at h
theorem putL_top {l : List (Option Inst)} {i k : Nat} {t : Inst} (hl : ∀ k, l.length = k + 1 → ∃ t, l[k]? = some (some t)) (h : (putL l i t).length = k + 1) : ∃ u, (putL l i t)[k]? = some (some u) := by
 have hlen := putL_len l i t
 unfold putL at h ⊢
 rw [List.getElem?_set]
 by_cases e : i = k
 ·subst e
  rw [if_pos rfl, if_pos (by rw [List.length_set] at h; omega)]
  exact ⟨t, rfl⟩
 ·rw [if_neg e]
  have hk : l.length = k + 1 := by
   unfold putL at hlen
   omega
  obtain ⟨u, hu⟩ := hl k hk
  rw [List.getElem?_append_left (by omega)]
  exact ⟨u, hu⟩
theorem Topped.set {m : RowsM} (h : Topped m) (x : Item) (t : Inst) : Topped (setM m x t) := fun r k hk => by
 unfold setM at hk ⊢
 split at hk
 ·rename_i hg
  rw [if_pos hg]
  dsimp only at hk ⊢
  by_cases e : r = x.rep.toNat
  ·subst e
   rw [updF_same] at hk ⊢
   exact putL_top (h _) hk
  ·rw [updF_other _ _ e] at hk ⊢
   exact h r k hk
 ·rename_i hg
  rw [if_neg hg]
  exact h r k hk
theorem mK_topped (n : Int) : ∀ (ts : List (Nat × List UInt8)) (m : RowsM), Topped m → Topped (ts.foldl (fun m t => setM m (readS ⟨t.2, false⟩).1 (readS ⟨t.2, false⟩).2.1) m)
 | [], m, h => h
 | t :: ts, m, h => mK_topped n ts _ (h.set _ _)
/-- A space that goes well: its places, its plate's bytes, its rows. -/
structure SpI (n : Int) (k : Nat) (I : Idx) (D : List UInt8) (m : RowsM) : Prop where
 mn : m.n = n
 ok : RowsOk m
 good : RowsGood m
 len : D.length ≤ 65536
 idx : IdxOk I
 N : I.N ≤ 1000 + k
 cov : IdxCov I m
 tp : Topped m
theorem SpI.know {n : Int} {k : Nat} {I : Idx} {D : List UInt8} {m : RowsM} (h : SpI n k I D m) (hk : k ≤ 1000) (safe : Nat) (x : Item) (i : Inst) : SpI n (k + 1) (knowI I D safe m x i) (addM D safe m x i).1 (addM D safe m x i).2.2.1 := by
 have hl := add_len (safe := safe) (m := m) x i h.len
 have hN := h.N
 rcases add_rows (D := D) (safe := safe) (m := m) x i with ⟨h0, hm⟩ | ⟨h0, hm⟩
 ·obtain ⟨hgi, hgn⟩ := addM_good h0
  have e : knowI I D safe m x i = if eqA (EV (wasM m x)) (EV i.call.deed) = false then findM I x i.call.deed else I := by
   unfold knowI
   by_cases hd : eqA (EV (wasM m x)) (EV i.call.deed) = false
   ·rw [if_pos ⟨h0, hd⟩, if_pos hd]
   ·rw [if_neg (fun h => hd h.2), if_neg hd]
  rw [hm, e]
  by_cases hd : eqA (EV (wasM m x)) (EV i.call.deed) = false
  ·rw [if_pos hd]
   obtain ⟨h1, h2⟩ := h.idx.find (x := x) (d := i.call.deed) (by omega)
   exact ⟨by rw [setM_n]; exact h.mn, h.ok.set _ _, h.good.set hgi hgn, hl, h1, by omega, h.cov.find i hgi, h.tp.set _ _⟩
  ·rw [if_neg hd]
   have hde : wasM m x = i.call.deed := EV_inj (eqA_iff.1 (by simpa using hd))
   exact ⟨by rw [setM_n]; exact h.mn, h.ok.set _ _, h.good.set hgi hgn, hl, h.idx, by omega, h.cov.same i hgi hde, h.tp.set _ _⟩
 ·have e : knowI I D safe m x i = I := by unfold knowI; rw [if_neg (fun h => h0 h.1)]
  rw [hm, e]
  exact ⟨h.mn, h.ok, h.good, hl, h.idx, by omega, h.cov, h.tp⟩
theorem openD_len {n : Int} {D : List UInt8} (h : D.length ≤ 65536) : (openD n D).length ≤ 65536 := by
 unfold openD
 split
 ·rw [List.length_take]; omega
 ·exact h
theorem SpI.open {n : Int} (hn : 0 ≤ n ∧ n ≤ 7) {D : List UInt8} (h : D.length ≤ 65536) (k : Nat) : SpI n k (idxF (ents (mK n (goT n D)))) (openD n D) (mK n (goT n D)) := by
 have hr := mK_rows hn D
 have hl := ents_len hr.1
 obtain ⟨h1, h2⟩ := idxF_ok _ (ents (mK n (goT n D))) rfl (by omega)
 exact ⟨mK_n _ _, hr.1, hr.2, openD_len h, h1, by omega, IdxCov.ents hr.1, mK_topped n _ _ (Topped.new n)⟩
theorem SpI.mono {n : Int} {k j : Nat} {I : Idx} {D : List UInt8} {m : RowsM} (h : SpI n k I D m) (hk : k ≤ j) : SpI n j I D m := ⟨h.mn, h.ok, h.good, h.len, h.idx, by have := h.N; omega, h.cov, h.tp⟩
end Go.Proofs.YtomlilkobhkoiaaGreatDoor
/- Layer 5: rows of numbers in a slice. -/
namespace Go.Proofs.YtomlilkobhkoiaaGreatDoor
open Go.RowKit
/-! rows, one behind the other -/
def LV : List (Nat → Int) → Array Value
 | [] => #[]
 | d :: l => DV d ++ LV l
theorem LV_size (l : List (Nat → Int)) : (LV l).size = l.length * 7 := by
 induction l with
 | nil => rfl
 | cons d l ih => rw [LV, Array.size_append, ih, DV_size, List.length_cons]; omega
theorem LV_extract : ∀ (l : List (Nat → Int)) (i : Nat) (h : i < l.length), (LV l).extract (i * 7) (i * 7 + 7) = DV l[i]
 | d :: l, 0, _ => by
  apply append_of_gets
  ·rw [Array.size_extract, LV_size, DV_size, List.length_cons]; omega
  ·intro k hk
   rw [DV_size] at hk
   rw [LV, Array.getElem?_extract, if_pos (by rw [Array.size_append, LV_size, DV_size]; omega), Array.getElem?_append, DV_size, if_pos (by omega)]
   simp
 | d :: l, i + 1, h => by
  have h' : i < l.length := by simpa using h
  have ih := LV_extract l i h'
  rw [List.getElem_cons_succ, ← ih]
  apply append_of_gets
  ·rw [Array.size_extract, Array.size_extract, LV_size, LV_size, List.length_cons]; omega
  ·intro k hk
   rw [Array.size_extract, LV_size] at hk
   rw [LV, Array.getElem?_extract, Array.getElem?_extract, if_pos (by rw [Array.size_append, LV_size, DV_size]; omega), if_pos (by rw [LV_size]; omega), Array.getElem?_append, DV_size, if_neg (by omega)]
   congr 1; omega
theorem LV_piece (l : List (Nat → Int)) (i : Nat) (h : i < l.length) : piece (LV l) (i * 7) 7 = DV l[i] := LV_extract l i h
theorem LV_two (a b : Nat → Int) : DV a ++ DV b = LV [a, b] := by simp [LV]
theorem LV_three (a b c : Nat → Int) : DV a ++ DV b ++ DV c = LV [a, b, c] := by simp [LV]
theorem deps_info : (Tryz.prog.info? 66).map (fun i => (i.zero, i.size)) = some (some (.agg (DV fun _ => 0)), 7) := by kernel_rfl
theorem slice_deps0 (len : Nat) (parts : Array (Nat × Value)) : Instr.buildSlice 344 len parts = buildSem 344 len parts := rfl
theorem slice_deps2 (w : World) (a b : Nat → Int) : (buildSem 344 2 #[(0, .agg (DV a)), (1, .agg (DV b))]).run Tryz.prog w = .ok (.slice (some ⟨w.heap.size, 0, none⟩) 2 2) (w.alloc (.cells (LV [a, b]) 66)) := by
 rw [← LV_two]; exact build_slice2 Tryz.underlying344 deps_info (by omega) w (DV_size a) (DV_size b) (by omega)
theorem slice_deps3 (w : World) (a b c : Nat → Int) : (buildSem 344 3 #[(0, .agg (DV a)), (1, .agg (DV b)), (2, .agg (DV c))]).run Tryz.prog w = .ok (.slice (some ⟨w.heap.size, 0, none⟩) 3 3) (w.alloc (.cells (LV [a, b, c]) 66)) := by
 rw [← LV_three]; exact build_slice3 Tryz.underlying344 deps_info (by omega) w (DV_size a) (DV_size b) (DV_size c) (by omega)
end Go.Proofs.YtomlilkobhkoiaaGreatDoor
