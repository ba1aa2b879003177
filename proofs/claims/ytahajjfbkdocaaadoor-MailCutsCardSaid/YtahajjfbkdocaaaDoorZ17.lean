/- Several texts in one. -/
import Derived.Test.YtahajjfbkdocaaaDoorZ1
import Derived.LaidLaws
import Derived.ChangeArms
import Derived.OpenShut
import Derived.ChangeSame
import Derived.Test.YtahajjfbkdocaaaDoorZ14
/- A listed table of pairs of bools, opened. Nothing of the program stands here. -/
namespace Go.Proofs.YtahajjfbkdocaaaDoor
open Go.RowKit Go.ChangeShapes
theorem pairs_of {H : Type} {enc : TypeId × Value → H} {P : Program} {w : World} {base : Nat} {sp : Nat → Bool} {held : Bool} {fuel : Nat} {t e tb : TypeId} {n : Nat} {f0 f1 : Field} {cs : List Value} {zs : List (Bool × Bool)} {p : List MemPlace}
    (ht : P.underlying t = some (.array n e)) (he : P.underlying e = some (.struct #[f0, f1])) (hb : P.underlying tb = some .bool) (h0 : f0.type = tb) (h1 : f1.type = tb) (o0 : f0.offset = 0) (o1 : f1.offset = 1) (cb : P.cellsOf tb = 1) (ce : P.cellsOf e = 2) (ct : P.cellsOf t = 2 * n)
    (h : DataW.trod enc P w base sp held fuel t cs = some (.agg (zs.map fun z => .agg [.lit (.bool z.1), .lit (.bool z.2)]), p)) : cs = zs.flatMap fun z => [.bool z.1, .bool z.2] := by
  obtain ⟨xs, m, -, hx, hlen, hn, hel⟩ := DataW.trod_array ht h
  have hxs : xs.map (·.1) = zs.map fun z => (DataW.agg [.lit (.bool z.1), .lit (.bool z.2)] : DataW H) := by
    have := congrArg Prod.fst hx
    simpa using this.symm
  have hzl : zs.length = n := by
    have := congrArg List.length hxs
    simp at this; omega
  rw [ct] at hlen
  have step : ∀ i, i < n → ∃ z, zs[i]? = some z ∧ (cs.drop (2 * i)).take 2 = [.bool z.1, .bool z.2] := by
    intro i hi
    have hz : i < zs.length := by omega
    have hi2 : i < xs.length := by omega
    have h2 := hel i hi
    rw [List.getElem?_eq_getElem hi2, ce, Nat.mul_comm] at h2
    obtain ⟨y0, y1, k, hy, hl2, hy0, hy1⟩ := trod_struct2 he h2
    rw [h0, o0, cb] at hy0
    rw [h1, o1, cb] at hy1
    obtain ⟨b0, e0, rfl⟩ := DataW.trod_bool hb hy0
    obtain ⟨b1, e1, rfl⟩ := DataW.trod_bool hb hy1
    refine ⟨zs[i], List.getElem?_eq_getElem hz, ?_⟩
    have h3 : (xs[i]).1 = DataW.agg [.lit (.bool zs[i].1), .lit (.bool zs[i].2)] := by
      have := congrArg (·[i]?) hxs
      simpa [List.getElem?_map, List.getElem?_eq_getElem hi2, List.getElem?_eq_getElem hz] using this
    rw [hy] at h3
    simp at h3
    rw [← h3.1, ← h3.2]
    rw [ce] at hl2
    match hc : (cs.drop (2 * i)).take 2, hl2 with
    | [a, b], _ =>
      rw [hc] at e0 e1
      simp at e0 e1
      rw [e0, e1]
  have all : ∀ i, i ≤ n → cs.take (2 * i) = (zs.take i).flatMap fun z => [.bool z.1, .bool z.2] := by
    intro i
    induction i with
    | zero => simp
    | succ i ih =>
      intro hi
      obtain ⟨z, hz, hd⟩ := step i (by omega)
      rw [Nat.mul_succ, List.take_add, ih (by omega), hd]
      rw [show zs.take (i + 1) = zs.take i ++ [z] by rw [List.take_add_one, hz]; rfl]
      simp
  have := all n (Nat.le_refl n)
  rwa [List.take_of_length_le (by omega), List.take_of_length_le (by omega)] at this
/-- The listed table stands first on the list. -/
theorem pairs_var {P : Program} {W : World} {name : String} {zs : List (Bool × Bool)} {rest : List (String × DataW Unit)} {g : Nat} {t e tb : TypeId} {n : Nat} {f0 f1 : Field}
    (hg : P.globalNamed name = some g) (hty : (P.globals[g]?).map (·.type) = some t) (ht : P.underlying t = some (.array n e)) (he : P.underlying e = some (.struct #[f0, f1])) (hb : P.underlying tb = some .bool) (h0 : f0.type = tb) (h1 : f1.type = tb) (o0 : f0.offset = 0) (o1 : f1.offset = 1) (cb : P.cellsOf tb = 1) (ce : P.cellsOf e = 2) (ct : P.cellsOf t = 2 * n)
    (h : laidMet P ((name, .agg (zs.map fun z => .agg [.lit (.bool z.1), .lit (.bool z.2)])) :: rest) W) : W.var? P name = some (zs.flatMap fun z => [Value.bool z.1, .bool z.2]).toArray := by
  obtain ⟨ps, ⟨g', t', cs, fuel, p, q, hg', ht', hvar, hd, _, _⟩, _⟩ := h
  obtain rfl := Option.some.inj (hg.symm.trans hg')
  obtain rfl := Option.some.inj (hty.symm.trans ht')
  rw [hvar, ← pairs_of ht he hb h0 h1 o0 o1 cb ce ct hd]
end Go.Proofs.YtahajjfbkdocaaaDoor
/- Layer 7: the block that holds the kinds, as a thing that stays. -/
namespace Go.Proofs.YtahajjfbkdocaaaDoor
open Go.RowKit
set_option linter.unusedVariables false
/-- The kinds, in block 0, whole. -/
def kndR (t : TypeId) : Res where
  sat F W := (∀ k, F k ↔ k = 0) ∧ W.heap[0]? = some (.cells KV t (0, 0))
  stay h hs := ⟨hs.1, by rw [h 0 ((hs.1 0).2 rfl)]; exact hs.2⟩
  lt hs k hk := by rw [(hs.1 k).1 hk]; exact (Array.getElem?_eq_some_iff.1 hs.2).1
theorem row_knd {W : World} {t : TypeId} (h : W.heap[0]? = some (.cells KV t (0, 0))) : row? W 0 = some KV := by
  unfold row?; rw [h]; rfl
section
variable {w W : World} {F : Nat → Prop} {R : List Res} {r s u : Res} {t : TypeId}
theorem Sts.knd (h : Sts w F W (kndR t :: R)) : row? W 0 = some KV := let ⟨_, ha⟩ := h.at0; row_knd ha.2
theorem Sts.knd1 (h : Sts w F W (r :: kndR t :: R)) : row? W 0 = some KV := h.drop.knd
theorem Sts.knd2 (h : Sts w F W (r :: s :: kndR t :: R)) : row? W 0 = some KV := h.drop.drop.knd
theorem Sts.knd3 (h : Sts w F W (r :: s :: u :: kndR t :: R)) : row? W 0 = some KV := h.drop.drop.drop.knd
end
theorem Sts.startK {W : World} {t : TypeId} (h : W.heap[0]? = some (.cells KV t (0, 0))) : Sts W (fun k => k = 0) W [kndR t] := Sts.start (Sat.one ⟨fun _ => Iff.rfl, h⟩)
theorem Sts.belowK {W W' : World} {t : TypeId} (h0 : W.heap[0]? = some (.cells KV t (0, 0))) (h : Sts W (fun k => k = 0) W' [kndR t]) : Below W.heap.size W W' := by
  obtain ⟨_, ha⟩ := h.at0
  have m := h.mod
  refine ⟨m.os, m.tape, m.output, m.size, fun k hk => ?_⟩
  by_cases h : k = 0
  · subst h; rw [ha.2, h0]
  · exact m.block k hk h
end Go.Proofs.YtahajjfbkdocaaaDoor
/- Layer 7: a message got from a source. -/
namespace Go.Proofs.YtahajjfbkdocaaaDoor
open Go.RowKit
set_option linter.unusedVariables false
attribute [local go_sem] row_alloc row_drew row_drewN row_ext row_setCell row_setRow size_ext setRow_alloc setRow_drew loadOf storeOf piece_lit loadVal_at storeVal_at allOne_lit buildOf buildRes_some
attribute [local go_sem high] cell_alloc frozen_alloc setCell_alloc cell_ext frozen_ext cell_setRow frozen_setRow
attribute [local go_sem ↓] TDeed_ld0 TDeed_st0 TDeed_fd0 TDeed_bd0
attribute [local go_sem] TDeed_size TDeed_one TDeed_piece TDeed_c0 TDeed_c1 TDeed_c2 TDeed_c3 TDeed_c4 TDeed_c5 TDeed_set_kind TDeed_set_key TDeed_set_val TDeed_set_ver TDeed_set_ses TDeed_set_num TDeed_ld TDeed_st TDeed_f_kind TDeed_f_key TDeed_f_val TDeed_f_ver TDeed_f_ses TDeed_f_num TDeed_bd TDeed_fl TDeed_fl_kind TDeed_fl_key TDeed_fl_val TDeed_fl_ver TDeed_fl_ses TDeed_fl_num
attribute [local go_sem high] TDeed_eql TDeed_neq
attribute [local go_sem ↓] index_deps0 load_deps0 store_deps0
attribute [local go_sem] DV_piece DV_size DV_one index_deps load_deps store_deps
attribute [local go_sem high] TDeps_eql TDeps_neq
attribute [local go_sem ↓] TCall_ld0 TCall_st0 TCall_fd0 TCall_bd0
attribute [local go_sem] TCall_size TCall_one TCall_piece TCall_c0 TCall_c1 TCall_c2 TCall_c3 TCall_c4 TCall_c5 TCall_c6 TCall_c7 TCall_c8 TCall_c9 TCall_c10 TCall_c11 TCall_c12 TCall_c13 TCall_p_deed TCall_put_deed TCall_p_deps TCall_put_deps TCall_set_seq TCall_ld TCall_st TCall_f_deed TCall_f_deps TCall_f_seq TCall_bd TCall_fl TCall_fl_deed TCall_fl_deps TCall_fl_seq
attribute [local go_sem high] TCall_eql TCall_neq
attribute [local go_sem ↓] TItem_ld0 TItem_st0 TItem_fd0 TItem_bd0
attribute [local go_sem] TItem_size TItem_one TItem_piece TItem_c0 TItem_c1 TItem_set_rep TItem_set_num TItem_ld TItem_st TItem_f_rep TItem_f_num TItem_bd TItem_fl TItem_fl_rep TItem_fl_num
attribute [local go_sem high] TItem_eql TItem_neq
attribute [local go_sem ↓] TBallot_ld0 TBallot_st0 TBallot_fd0 TBallot_bd0
attribute [local go_sem] TBallot_size TBallot_one TBallot_piece TBallot_c0 TBallot_c1 TBallot_set_round TBallot_set_rep TBallot_ld TBallot_st TBallot_f_round TBallot_f_rep TBallot_bd TBallot_fl TBallot_fl_round TBallot_fl_rep
attribute [local go_sem high] TBallot_eql TBallot_neq
attribute [local go_sem ↓] TMsg_ld0 TMsg_st0 TMsg_fd0 TMsg_bd0
attribute [local go_sem] TMsg_size TMsg_one TMsg_piece TMsg_c0 TMsg_c1 TMsg_c2 TMsg_c3 TMsg_c4 TMsg_c5 TMsg_c6 TMsg_c7 TMsg_c8 TMsg_c9 TMsg_c10 TMsg_c11 TMsg_c12 TMsg_c13 TMsg_c14 TMsg_c15 TMsg_c16 TMsg_c17 TMsg_c18 TMsg_c19 TMsg_c20 TMsg_c21 TMsg_c22 TMsg_c23 TMsg_c24 TMsg_set_kind TMsg_set_frm TMsg_set_to TMsg_p_item TMsg_put_item TMsg_p_bal TMsg_put_bal TMsg_p_vote TMsg_put_vote TMsg_set_status TMsg_set_same TMsg_p_call TMsg_put_call TMsg_ld TMsg_st TMsg_f_kind TMsg_f_frm TMsg_f_to TMsg_f_item TMsg_f_bal TMsg_f_vote TMsg_f_status TMsg_f_same TMsg_f_call TMsg_bd TMsg_fl TMsg_fl_kind TMsg_fl_frm TMsg_fl_to TMsg_fl_item TMsg_fl_bal TMsg_fl_vote TMsg_fl_status TMsg_fl_same TMsg_fl_call
attribute [local go_sem high] TMsg_eql TMsg_neq
attribute [local go_sem ↓] TCarries_ld0 TCarries_st0 TCarries_fd0 TCarries_bd0
attribute [local go_sem] TCarries_size TCarries_one TCarries_piece TCarries_c0 TCarries_c1 TCarries_set_call TCarries_set_known TCarries_ld TCarries_st TCarries_f_call TCarries_f_known TCarries_bd TCarries_fl TCarries_fl_call TCarries_fl_known
attribute [local go_sem high] TCarries_eql TCarries_neq
attribute [local go_sem] KV_size
theorem cellSet_row {w : World} {n i : Nat} {X : Array Value} (h : (row? w n).isSome = true) : cellSet w n i X = X[i]? := by
  obtain ⟨Y, hY⟩ := Option.isSome_iff_exists.1 h
  exact row_cell (row_setRow_same w n Y X hY) i
theorem frozenSet_row {w : World} {n i : Nat} {X : Array Value} (h : (row? w n).isSome = true) : frozenSet w n i X = false := by
  obtain ⟨Y, hY⟩ := Option.isSome_iff_exists.1 h
  exact row_frozen (row_setRow_same w n Y X hY) i
attribute [local go_sem] cellSet_row frozenSet_row
def headM (s : Src) : (Nat × Nat × Nat × Item × Ballot) × Src :=
  let k := natS s 8
  let f := natS k.2 6
  let t := natS f.2 6
  let i := getI t.2
  let b := getBal i.2
  ((k.1, f.1, t.1, i.1, b.1), b.2)
def getM (s : Src) : Msg × Src :=
  let h := headM s
  let m : Msg := ⟨h.1.1, h.1.2.1, h.1.2.2.1, h.1.2.2.2.1, h.1.2.2.2.2, noBallot, 0, false, noCall⟩
  if knownB h.1.1 = true then
    let v := getBal h.2
    let st := natS v.2 3
    let sm := natS st.2 1
    let c := getC sm.2
    ({ m with vote := v.1, status := st.1, same := sm.1 == 1, call := c.1 }, c.2)
  else if ((h.1.1 : Int) == 2) = true then
    let sm := natS h.2 1
    let c := getC sm.2
    ({ m with same := sm.1 == 1, call := c.1 }, c.2)
  else if callsB h.1.1 = true then
    let c := getC h.2
    ({ m with call := c.1 }, c.2)
  else (m, h.2)
set_option maxHeartbeats 8000000 in
set_option maxRecDepth 10000 in
theorem mailGetD (t : TypeId) (g : Nat) (s : Src) : Does Tryd.prog 27 #[.pointer (some ⟨g, 0, none⟩)] [srcR g s, kndR t] (.agg (MV (getM s).1)) [srcR g (getM s).2, kndR t] := by
  intro W G h
  have T := ((Sts.start h).new (MV noMsg) 33).swap
  clear h
  go_enter Tryd.func27, Tryd.ntmps27
  go_wp2_with fail
  refine (Does.at1 (natD g s 8 (by omega)) T).mono ?_; clear T; rintro e w1 ⟨rfl, T⟩
  go_wp2_with fail
  refine (Does.at1 (natD g _ 6 (by omega)) T).mono ?_; clear T; rintro e w2 ⟨rfl, T⟩
  go_wp2_with fail
  refine (Does.at1 (natD g _ 6 (by omega)) T).mono ?_; clear T; rintro e w3 ⟨rfl, T⟩
  go_wp2_with fail
  refine (Does.at1 (itemGetD g _) T).mono ?_; clear T; rintro e w4 ⟨rfl, T⟩
  go_wp2_with fail
  refine (Does.at1 (balGetD g _) T).mono ?_; clear T; rintro e w5 ⟨rfl, T⟩
  have hk8 := natS_le s 8
  have hh : headM s = (((natS s 8).1, (natS (natS s 8).2 6).1, (natS (natS (natS s 8).2 6).2 6).1, (getI (natS (natS (natS s 8).2 6).2 6).2).1, (getBal (getI (natS (natS (natS s 8).2 6).2 6).2).2).1), (getBal (getI (natS (natS (natS s 8).2 6).2 6).2).2).2) := rfl
  have hgm : getM s = (let h := headM s
    let m : Msg := ⟨h.1.1, h.1.2.1, h.1.2.2.1, h.1.2.2.2.1, h.1.2.2.2.2, noBallot, 0, false, noCall⟩
    if knownB h.1.1 = true then
      let v := getBal h.2
      let st := natS v.2 3
      let sm := natS st.2 1
      let c := getC sm.2
      ({ m with vote := v.1, status := st.1, same := sm.1 == 1, call := c.1 }, c.2)
    else if ((h.1.1 : Int) == 2) = true then
      let sm := natS h.2 1
      let c := getC sm.2
      ({ m with same := sm.1 == 1, call := c.1 }, c.2)
    else if callsB h.1.1 = true then
      let c := getC h.2
      ({ m with call := c.1 }, c.2)
    else (m, h.2)) := rfl
  simp only [hh] at hgm
  clear hh
  generalize getBal (getI (natS (natS (natS s 8).2 6).2 6).2).2 = b0 at *
  generalize (getI (natS (natS (natS s 8).2 6).2 6).2).1 = i0 at *
  generalize (natS (natS (natS s 8).2 6).2 6).1 = t0 at *
  generalize (natS (natS s 8).2 6).1 = f0 at *
  generalize (natS s 8).1 = k0 at *
  have hp := KV_piece k0 hk8
  have hs : k0 * 2 + 2 ≤ 18 := by omega
  have HGM := Lib.hid hgm; clear hgm
  have hrk := T.knd2
  have hlk := row_lt hrk
  have hrs := T.row1
  have hls := row_lt hrs
  have T5 := T
  have T := T.new (MV ⟨k0, f0, t0, i0, b0.1, noBallot, 0, false, noCall⟩) 33
  -- rows: message, source, result, kinds
  cases hkb : knownB k0
  all_goals cases hcb : callsB k0
  case false.false =>
    rw [hkb, hcb] at hp
    have hk2 : ((k0 : Int) == 2) = false := by
      rw [beq_eq_false_iff_ne]; intro e; rw [e] at hcb; simp [callsB] at hcb
    have hg2 := HGM.out
    rw [hkb, hcb, hk2] at hg2
    simp only [Bool.false_eq_true, if_false] at hg2
    have HG := Lib.hid hg2; clear hg2 HGM hkb hcb
    have T := (((T5.swap.setRow (MV ⟨k0, f0, t0, i0, b0.1, noBallot, 0, false, noCall⟩)).keep (.cells (MV ⟨k0, f0, t0, i0, b0.1, noBallot, 0, false, noCall⟩) 33)).keep (.cells (KRV ⟨false, false⟩) 60))
    have HT := Lib.hid T; clear T T5
    go_wp2
    exact TMsg_ret _ rfl rfl rfl (HT.out.row) ⟨by rw [HG.out], by rw [HG.out]; exact HT.out.drop⟩
  case true.false =>
    exfalso
    simp [knownB] at hkb
    simp [callsB, hkb] at hcb
  case false.true =>
    clear T5
    rw [hkb, hcb] at hp
    have hg2 := HGM.out
    rw [hkb, hcb] at hg2
    cases hk2 : ((k0 : Int) == 2)
    · rw [hk2] at hg2
      simp only [Bool.false_eq_true, if_false, if_true] at hg2
      have HG := Lib.hid hg2; clear hg2 HGM hkb hcb
      have T := (T.keep (.cells (KRV ⟨true, false⟩) 60))
      go_wp2_with fail
      refine (Does.at1 (callGetD g _) T.swap).mono ?_; clear T hrk hlk hrs hls; rintro e w6 ⟨rfl, T⟩
      generalize getC b0.2 = c0 at *
      have hrm := T.row1
      have hlm := row_lt hrm
      have hfm := row_frozen hrm
      have hrr := T.row2
      have hlr := row_lt hrr
      have hne : w5.heap.size ≠ W.heap.size := T.drop.ne
      have T := T.swap.setRow (MV ⟨k0, f0, t0, i0, b0.1, noBallot, 0, false, c0.1⟩)
      have T := T.rot2.setRow (MV ⟨k0, f0, t0, i0, b0.1, noBallot, 0, false, c0.1⟩)
      have HT := Lib.hid T; clear T
      go_wp2
      exact TMsg_ret _ rfl rfl rfl (HT.out.row) ⟨by rw [HG.out], by rw [HG.out]; exact HT.out.drop.drop⟩
    · rw [hk2] at hg2
      simp only [Bool.false_eq_true, if_false, if_true] at hg2
      have HG := Lib.hid hg2; clear hg2 HGM hkb hcb
      have T := (T.new (KRV ⟨true, false⟩) 60)
      go_wp2_with fail
      refine (Does.at1 (bitD g _) T.rot2).mono ?_; clear T hrk hlk hrs hls; rintro e w6 ⟨rfl, T⟩
      generalize natS b0.2 1 = sm at *
      have hrc := row_cell T.row1
      have hrm := T.row2
      have hcm := row_cell hrm
      have hfm := row_frozen hrm
      have hlm := row_lt hrm
      have T := T.rot2.setCell 10 (.bool (sm.1 == 1))
      rw [TMsg_set_same] at T
      generalize (sm.1 == 1) = bb at *
      have hrk2 := T.row2
      try simp only [World.alloc, Array.size_push] at hrk2
      have hck2 := row_cell hrk2
      have hlk2 := row_lt hrk2
      go_wp2_with fail
      refine (Does.at1 (callGetD g _) T.swap).mono ?_; clear T hrc hrm hcm hfm hlm hrk2 hck2 hlk2; rintro e w7 ⟨rfl, T⟩
      generalize getC sm.2 = c0 at *
      have hrm := T.row1
      have hlm := row_lt hrm
      have hfm := row_frozen hrm
      have hrr := T.row3
      have hlr := row_lt hrr
      have hne : w5.heap.size ≠ W.heap.size := T.drop.swap2.ne
      have T := T.swap.setRow (MV ⟨k0, f0, t0, i0, b0.1, noBallot, 0, bb, c0.1⟩)
      have T := T.rot3.setRow (MV ⟨k0, f0, t0, i0, b0.1, noBallot, 0, bb, c0.1⟩)
      have HT := Lib.hid T; clear T
      go_wp2
      exact TMsg_ret _ rfl rfl rfl (HT.out.row) ⟨by rw [HG.out], by rw [HG.out]; exact HT.out.drop.drop.swap.drop⟩
  case true.true =>
    clear T5
    rw [hkb, hcb] at hp
    have hg2 := HGM.out
    rw [hkb, hcb] at hg2
    simp only [if_true] at hg2
    have HG := Lib.hid hg2; clear hg2 HGM hkb hcb
    have T := (T.new (KRV ⟨true, true⟩) 60)
    go_wp2_with fail
    refine (Does.at1 (balGetD g _) T.rot2).mono ?_; clear T hrk hlk hrs hls; rintro e w6 ⟨rfl, T⟩
    generalize getBal b0.2 = v0 at *
    go_wp2_with fail
    refine (Does.at1 (natD g _ 3 (by omega)) T).mono ?_; clear T; rintro e w7 ⟨rfl, T⟩
    generalize natS v0.2 3 = st at *
    have hrc := row_cell T.row1
    have hrm := T.row2
    have hlm := row_lt hrm
    have hrc1 := T.row1
    have hlc := row_lt hrc1
    have hnc : w5.heap.size + 1 ≠ w5.heap.size := by omega
    have T := T.rot2.setRow (MV ⟨k0, f0, t0, i0, b0.1, v0.1, 0, false, noCall⟩)
    have T := T.setCell 9 (.int .i64 st.1)
    rw [TMsg_set_status] at T
    have hrk2 := T.row2
    try simp only [World.alloc, Array.size_push] at hrk2
    have hck2 := row_cell hrk2
    have hlk2 := row_lt hrk2
    go_wp2_with fail
    refine (Does.at1 (bitD g _) T.swap).mono ?_; clear T hrc hrm hlm hrc1 hlc hrk2 hck2 hlk2; rintro e w8 ⟨rfl, T⟩
    generalize natS st.2 1 = sm at *
    have hrm := T.row1
    have hcm := row_cell hrm
    have hfm := row_frozen hrm
    have hlm := row_lt hrm
    have hrc := row_cell T.row2
    have T := T.swap.setCell 10 (.bool (sm.1 == 1))
    rw [TMsg_set_same] at T
    generalize (sm.1 == 1) = bb at *
    have hrk3 := T.row2
    try simp only [World.alloc, Array.size_push] at hrk3
    have hck3 := row_cell hrk3
    have hlk3 := row_lt hrk3
    go_wp2_with fail
    refine (Does.at1 (callGetD g _) T.swap).mono ?_; clear T hrc hrm hcm hfm hlm hrk3 hck3 hlk3; rintro e w9 ⟨rfl, T⟩
    generalize getC sm.2 = c0 at *
    have hrm := T.row1
    have hlm := row_lt hrm
    have hfm := row_frozen hrm
    have hrr := T.row3
    have hlr := row_lt hrr
    have hne : w5.heap.size ≠ W.heap.size := T.drop.swap2.ne
    have T := T.swap.setRow (MV ⟨k0, f0, t0, i0, b0.1, v0.1, st.1, bb, c0.1⟩)
    have T := T.rot3.setRow (MV ⟨k0, f0, t0, i0, b0.1, v0.1, st.1, bb, c0.1⟩)
    have HT := Lib.hid T; clear T
    go_wp2
    exact TMsg_ret _ rfl rfl rfl (HT.out.row) ⟨by rw [HG.out], by rw [HG.out]; exact HT.out.drop.drop.swap.drop⟩
end Go.Proofs.YtahajjfbkdocaaaDoor
