/- Several texts in one. -/
import Derived.Test.YtfgacjglfdehbaaDoorZ22
import Derived.Test.YtfgacjglfdehbaaDoorZ6
import Derived.Test.YtfgacjglfdehbaaDoorZ7
import Derived.Test.YtfgacjglfdehbaaDoorZ21
import Derived.Test.YtfgacjglfdehbaaDoorZ11
/- Layer 9: do two books know the same? The walk. -/
namespace Go.Proofs.YtfgacjglfdehbaaDoor
open Go.RowKit Go.Shelf
set_option linter.unusedVariables false
set_option maxRecDepth 20000
attribute [local go_sem] row_alloc row_drew row_drewN row_ext row_setCell row_setRow size_ext setRow_alloc setRow_drew loadOf storeOf piece_lit loadVal_at storeVal_at allOne_lit buildOf buildRes_some
attribute [local go_sem high] cell_alloc frozen_alloc setCell_alloc cell_ext frozen_ext cell_setRow frozen_setRow
attribute [local go_sem ↓] TDeed_ld0 TDeed_st0 TDeed_fd0 TDeed_bd0
attribute [local go_sem] TDeed_size TDeed_one TDeed_piece TDeed_c0 TDeed_c1 TDeed_c2 TDeed_c3 TDeed_c4 TDeed_c5 TDeed_set_kind TDeed_set_key TDeed_set_val TDeed_set_ver TDeed_set_ses TDeed_set_num TDeed_ld TDeed_st TDeed_f_kind TDeed_f_key TDeed_f_val TDeed_f_ver TDeed_f_ses TDeed_f_num TDeed_bd TDeed_fl TDeed_fl_kind TDeed_fl_key TDeed_fl_val TDeed_fl_ver TDeed_fl_ses TDeed_fl_num
attribute [local go_sem high] TDeed_eql TDeed_neq
attribute [local go_sem ↓] index_deps0 load_deps0 store_deps0
attribute [local go_sem] DV_piece DV_size DV_one index_deps load_deps store_deps
attribute [local go_sem high] TDeps_eql TDeps_neq
attribute [local go_sem ↓] TCall_ld0 TCall_st0 TCall_fd0 TCall_bd0
attribute [local go_sem] TCall_size TCall_one TCall_piece TCall_c0 TCall_c1 TCall_c2 TCall_c3 TCall_c4 TCall_c5 TCall_c6 TCall_c7 TCall_c8 TCall_c9 TCall_c10 TCall_c11 TCall_c12 TCall_c13 TCall_p_deed TCall_put_deed TCall_p_deps TCall_put_deps TCall_set_seq TCall_ld TCall_st TCall_f_deed TCall_f_deps TCall_f_seq TCall_bd TCall_fl TCall_fl_deed TCall_fl_deps TCall_fl_seq
attribute [local go_sem high] TCall_eql TCall_neq
attribute [local go_sem ↓] TItem_ld0 TItem_st0 TItem_fd0 TItem_bd0
attribute [local go_sem] TItem_size TItem_one TItem_piece TItem_c0 TItem_c1 TItem_set_rep TItem_set_num TItem_ld TItem_st TItem_f_rep TItem_f_num TItem_bd TItem_fl TItem_fl_rep TItem_fl_num
attribute [local go_sem high] TItem_eql TItem_neq
attribute [local go_sem ↓] TBallot_ld0 TBallot_st0 TBallot_fd0 TBallot_bd0
attribute [local go_sem] TBallot_size TBallot_one TBallot_piece TBallot_c0 TBallot_c1 TBallot_set_round TBallot_set_rep TBallot_ld TBallot_st TBallot_f_round TBallot_f_rep TBallot_bd TBallot_fl TBallot_fl_round TBallot_fl_rep
attribute [local go_sem high] TBallot_eql TBallot_neq
attribute [local go_sem ↓] TInst_ld0 TInst_st0 TInst_fd0 TInst_bd0
attribute [local go_sem] TInst_size TInst_one TInst_piece TInst_c0 TInst_c1 TInst_c2 TInst_c3 TInst_c4 TInst_c5 TInst_c6 TInst_c7 TInst_c8 TInst_c9 TInst_c10 TInst_c11 TInst_c12 TInst_c13 TInst_c14 TInst_c15 TInst_c16 TInst_c17 TInst_c18 TInst_c19 TInst_p_prom TInst_put_prom TInst_p_vote TInst_put_vote TInst_set_status TInst_p_call TInst_put_call TInst_set_same TInst_ld TInst_st TInst_f_prom TInst_f_vote TInst_f_status TInst_f_call TInst_f_same TInst_bd TInst_fl TInst_fl_prom TInst_fl_vote TInst_fl_status TInst_fl_call TInst_fl_same
attribute [local go_sem high] TInst_eql TInst_neq
/-- The block of such a slice, and what lies there. -/
theorem vec_piece {α : Type} {V : α → Array Value} {size : Nat} (hV : ∀ x, (V x).size = size) {e : TypeId} {v : Value} {l : List α} {w W : World} {F : Nat → Prop} {R : List Res} (T : Sts w F W (vecR e size v l.length (vl V l) :: R)) (h0 : 0 < size) (hl : 0 < l.length) :
    ∃ g c cur, v = .slice (some ⟨g, 0, none⟩) l.length c ∧ row? W g = some cur ∧ g < W.heap.size ∧ ∀ j (hj : j < l.length), j * size + size ≤ cur.size ∧ piece cur (j * size) size = V l[j] := by
  obtain ⟨g, c, cur, rfl, hr, _, _⟩ := vec_at hV T h0 hl
  refine ⟨g, c, cur, rfl, hr, row_lt hr, fun j hj => ?_⟩
  obtain ⟨_, _, cur', hv, hr', hs, _⟩ := vec_at hV T h0 hj
  injection hv with hv _ _
  injection hv with hv
  injection hv with hv
  subst hv
  rw [hr] at hr'
  injection hr' with hr'
  subst hr'
  obtain ⟨_, _, hv, _, hc⟩ := vec_cell hV T h0 hj
  injection hv with hv _ _
  injection hv with hv
  injection hv with hv
  subst hv
  refine ⟨hs, ?_⟩
  apply Array.ext
  · unfold piece; rw [Array.size_extract, hV]; omega
  · intro i h1 h2
    have := hc i _ (Array.getElem?_eq_getElem h2)
    rw [row_cell hr] at this
    have h3 := (Array.getElem?_eq_some_iff.1 this).2
    simp only [piece, Array.getElem_extract]
    exact h3
noncomputable def oneB (e f : Ent) : Bool := eqA (IV e.1) (IV f.1) && eqA (NV e.2) (NV f.2)
theorem any_take {α : Type} (p : α → Bool) {l : List α} {k : Nat} (hk : k < l.length) : (l.take (k + 1)).any p = ((l.take k).any p || p l[k]) := by
  rw [List.take_succ_eq_append_getElem hk, List.any_append]; simp
theorem all_take {α : Type} (p : α → Bool) {l : List α} {k : Nat} (hk : k < l.length) : (l.take (k + 1)).all p = ((l.take k).all p && p l[k]) := by
  rw [List.take_succ_eq_append_getElem hk, List.all_append]; simp
theorem all_of_take {α : Type} (p : α → Bool) {l : List α} {k : Nat} (hk : k < l.length) (h : p l[k] = false) : l.all p = false := by
  cases ha : l.all p with
  | false => rfl
  | true => rw [List.all_eq_true] at ha; rw [ha _ (List.getElem_mem hk)] at h; cases h
set_option maxHeartbeats 8000000 in
theorem sameR (a b : Nat) (K L : List Ent) (hK : K.length ≤ 1000000) (hL : L.length ≤ 1000000) : Reads Tryd.prog 18 #[.pointer (some ⟨a, 0, none⟩), .pointer (some ⟨b, 0, none⟩)] [bookR a K, bookR b L] (.bool (sameB K L)) := by
  intro W G hS
  obtain ⟨A, c, B, d, T0⟩ := (Sts.start hS).bookOpen
  obtain ⟨A', c', B', d', T⟩ := (T0.ord [3, 0, 1, 2]).bookOpen
  obtain ⟨_, _, hv, hA', -, hAa'⟩ := vec_rows KV_size T.drop (by omega) (by omega)
  obtain ⟨rfl, -, rfl⟩ := Value.slice.inj hv; clear hv
  obtain ⟨_, _, hv, hA, -, hAa⟩ := vec_rows KV_size T.drop.drop.drop.drop (by omega) (by omega)
  obtain ⟨rfl, -, rfl⟩ := Value.slice.inj hv; clear hv
  have hpk : 0 < K.length → ∃ gb cs, B = some ⟨gb, 0, none⟩ ∧ gb < W.heap.size ∧ (∀ W', Below W.heap.size W W' → row? W' gb = some cs) ∧ ∀ j (hj : j < K.length), j * 20 + 20 ≤ cs.size ∧ piece cs (j * 20) 20 = NV K[j].2 := fun h => by
    obtain ⟨gb, c1, cs, hv, hr, hlt, hp⟩ := vec_piece WV_size T.drop.drop.drop.drop.drop (by omega) h
    injection hv with hv
    exact ⟨gb, cs, hv, hlt, fun W' hb => (row_below hb hlt).trans hr, hp⟩
  have hpl : 0 < L.length → ∃ gb cs, B' = some ⟨gb, 0, none⟩ ∧ gb < W.heap.size ∧ (∀ W', Below W.heap.size W W' → row? W' gb = some cs) ∧ ∀ j (hj : j < L.length), j * 20 + 20 ≤ cs.size ∧ piece cs (j * 20) 20 = NV L[j].2 := fun h => by
    obtain ⟨gb, c1, cs, hv, hr, hlt, hp⟩ := vec_piece WV_size T.drop.drop (by omega) h
    injection hv with hv
    exact ⟨gb, cs, hv, hlt, fun W' hb => (row_below hb hlt).trans hr, hp⟩
  have HPK := Lib.hid hpk; have HPL := Lib.hid hpl; clear hpk hpl
  have rb := T.row
  have ra := T.drop.drop.drop.row
  have hra : ∀ W', Below W.heap.size W W' → (W'.cell? ⟨a, 0, none⟩ = some (.slice A K.length c) ∧ W'.cell? ⟨a, 1, none⟩ = some (.slice B K.length d) ∧ a < W'.heap.size) := fun W' hb => by
    have r := (row_below hb (row_lt ra)).trans ra
    exact ⟨row_cell r 0, row_cell r 1, row_lt r⟩
  have hrb : ∀ W', Below W.heap.size W W' → (W'.cell? ⟨b, 0, none⟩ = some (.slice A' L.length c') ∧ W'.cell? ⟨b, 1, none⟩ = some (.slice B' L.length d') ∧ b < W'.heap.size) := fun W' hb => by
    have r := (row_below hb (row_lt rb)).trans rb
    exact ⟨row_cell r 0, row_cell r 1, row_lt r⟩
  have HRA := Lib.hid hra; have HRB := Lib.hid hrb
  clear hra hrb ra rb T T0 hS
  have T := Sts.start0 W
  obtain ⟨ha0, ha1, la⟩ := HRA.out W T.below
  obtain ⟨hb0, hb1, lb⟩ := HRB.out W T.below
  have hkl : ((K.length : Int) != (L.length : Int)) = !decide (K.length = L.length) := by
    by_cases h : K.length = L.length
    · rw [h]; simp
    · simp only [decide_eq_false h, Bool.not_false, bne_iff_ne, ne_eq]; omega
  cases hd : decide (K.length = L.length)
  case false =>
    rw [hd] at hkl
    have HV := Lib.hid (show sameB K L = false by unfold sameB; rw [hd]; rfl)
    have hn : ¬ K.length = L.length := by simpa using hd
    clear hA hA' hAa hAa' T hd
    go_enter Tryd.func18, Tryd.ntmps18
    go_wp2_with fail
    go_quiet (fail)
    go_wp2
    go_ret
    exact ⟨by rw [HV.out]; rfl, below_drewN (Below.refl _ _) _⟩
  case true =>
    rw [hd] at hkl
    have HD := Lib.hid (of_decide_eq_true hd); clear hd
    go_enter Tryd.func18, Tryd.ntmps18
    go_wp2_with fail
    go_quiet (fail)
    go_wp2_with fail
    have HT := Lib.hid T; clear T
    clear ha0 ha1 la hb0 hb1 lb hkl
    go_loopw [26] (fun s wr => ∃ k : Nat, k ≤ K.length ∧ s = .int .i64 k ∧ (K.take k).all (fun e => L.any (oneB e)) = true ∧ Sts W (fun _ => False) wr []) (fun s _ => K.length - (intOf s).toNat)
    case atStart => exact ⟨0, Nat.zero_le _, rfl, rfl, HT.out.drewN _⟩
    case round =>
      clear HT
      obtain ⟨k, hk, rfl, hall, T⟩ := hrel
      have HALL := Lib.hid hall; clear hall
      by_cases hk2 : k < K.length
      · cases A with
        | none => rw [hA.nil rfl] at hk2; simp at hk2
        | some a1 =>
          obtain ⟨ga, rfl⟩ := hAa a1 rfl
          · obtain ⟨gb, csb, rfl, lgb, hrow, hpc⟩ := HPK.out (by omega)
            obtain ⟨hpc1, hpc2⟩ := hpc k hk2
            clear hpc HPK
            have hld := hA.load (P := Tryd.prog) (T := 24) KV_size TItem_und rfl (by kernel_rfl) T.below rfl hk2
            rw [add_none, Nat.zero_add] at hld
            replace hld : loadVal Tryd.prog 24 2 wr (.pointer (some ⟨ga, k * 2, none⟩)) = .ok (.agg (IV K[k].1)) wr := hld
            have HLN := Lib.hid hrow; clear hrow
            have HP1 := Lib.hid hpc1; have HP2 := Lib.hid hpc2; clear hpc1 hpc2
            have hk3 : (k : Int) < (K.length : Int) := by omega
            have hk0 : (0 : Int) ≤ (k : Int) := by omega
            have T2 := T.new (IV K[k].1) 24
            obtain ⟨hb0, hb1, lb⟩ := HRB.out _ T2.below
            have HT2 := Lib.hid T2; clear T T2
            go_wp2_with fail
            clear hld
            generalize wr.alloc _ = w2 at *
            generalize wr.heap.size = g6 at *
            have hone : ∀ j (hj : j < L.length), oneB K[k] L[j] = (eqA (IV K[k].1) (IV L[j].1) && eqA (NV K[k].2) (NV L[j].2)) := fun _ _ => rfl
            have HA1 := Lib.hid (all_take (fun e => L.any (oneB e)) hk2)
            have HA2 := Lib.hid (fun h => all_of_take (fun e => L.any (oneB e)) hk2 h)
            generalize K[k] = e at *
            go_loopw [7, 36] (fun f s wr => ∃ j : Nat, j ≤ L.length ∧ s = .int .i64 j ∧ f = .bool ((L.take j).any (oneB e)) ∧ Sts W (fun _ => False) wr [rowR g6 (IV e.1)]) (fun _ s _ => L.length - (intOf s).toNat)
            case atStart => exact ⟨0, Nat.zero_le _, rfl, rfl, HT2.out⟩
            case round =>
              clear HT2 hb0 hb1 lb
              obtain ⟨j, hj, rfl, rfl, T⟩ := hrel
              by_cases hj2 : j < L.length
              · cases A' with
                | none => rw [hA'.nil rfl] at hj2; simp at hj2
                | some a1 =>
                  obtain ⟨ga', rfl⟩ := hAa' a1 rfl
                  · obtain ⟨gb', csb', rfl, lgb', hrow', hpc'⟩ := HPL.out (by omega)
                    obtain ⟨hq1, hq2⟩ := hpc' j hj2
                    clear hpc' HPL
                    have hld := hA'.load (P := Tryd.prog) (T := 24) KV_size TItem_und rfl (by kernel_rfl) T.below rfl hj2
                    rw [add_none, Nat.zero_add] at hld
                    replace hld : loadVal Tryd.prog 24 2 wr (.pointer (some ⟨ga', j * 2, none⟩)) = .ok (.agg (IV L[j].1)) wr := hld
                    have T2 := T.new (IV L[j].1) 24
                    have hldM := hrow' _ T2.below
                    have hp1 := HP1.out; have hp2 := HP2.out
                    clear hrow'
                    have hldN := HLN.out _ T2.below
                    have hj3 : (j : Int) < (L.length : Int) := by omega
                    have hj0 : (0 : Int) ≤ (j : Int) := by omega
                    obtain ⟨hb0, hb1, lb⟩ := HRB.out _ T2.below
                    obtain ⟨ha0, ha1, la⟩ := HRA.out _ T2.below
                    have r6 := T2.row; have l6 := row_lt r6; have r7 := T2.row1; have l7 := row_lt r7
                    have HS := Lib.hid (any_take (oneB e) hj2)
                    have HO := Lib.hid (hone j hj2)
                    have HT2 := Lib.hid T2.drop; clear T T2 hone
                    go_wp2_with fail
                    clear hld
                    generalize wr.alloc _ = w3 at *
                    generalize wr.heap.size = g9 at *
                    generalize (L.take j).any (oneB e) = fd at *
                    have hk3 : (k : Int) < (K.length : Int) := by omega
                    have HSS := HS; clear HS
                    cases fd
                    case true =>
                      go_quiet (fail)
                      go_wp2
                      go_roundw
                      case rel => exact ⟨j + 1, by omega, by go_num, by rw [HSS.out]; rfl, HT2.out.drewN _⟩
                      case measure => simp [intOf]; omega
                    case false =>
                      cases he1 : eqA (IV e.1) (IV L[j].1)
                      case false =>
                        go_quiet (fail)
                        go_wp2
                        go_roundw
                        case rel => exact ⟨j + 1, by omega, by go_num, by rw [HSS.out, HO.out, he1]; rfl, HT2.out.drewN _⟩
                        case measure => simp [intOf]; omega
                      case true =>
                        have he2 : eqA (NV e.2) (NV L[j].2) = oneB e L[j] := by rw [HO.out, he1]; rfl
                        have HE2 := Lib.hid he2; clear he2
                        cases he3 : eqA (NV e.2) (NV L[j].2)
                        case false =>
                          go_quiet (fail)
                          go_wp2
                          go_roundw
                          case rel => exact ⟨j + 1, by omega, by go_num, by rw [HSS.out, ← HE2.out, he3]; rfl, HT2.out.drewN _⟩
                          case measure => simp [intOf]; omega
                        case true =>
                          go_quiet (fail)
                          go_wp2
                          go_roundw
                          case rel => exact ⟨j + 1, by omega, by go_num, by rw [HSS.out, ← HE2.out, he3]; rfl, HT2.out.drewN _⟩
                          case measure => simp [intOf]; omega
              · obtain rfl : j = L.length := by omega
                have T := T.nil
                have HT2 := Lib.hid T; clear T hone
                rw [List.take_length]
                cases hf : L.any (oneB e)
                case false =>
                  have hs : sameB K L = false := by
                    have h := HA2.out hf
                    unfold sameB
                    rw [show (fun e => L.any fun f => eqA (IV e.1) (IV f.1) && eqA (NV e.2) (NV f.2)) = fun e => L.any (oneB e) from rfl, h, Bool.and_false]
                  have HV := Lib.hid hs; clear hs
                  go_wp2
                  go_ret
                  exact ⟨by rw [HV.out]; rfl, HT2.out.below⟩
                case true =>
                  go_wp2
                  go_roundw
                  case rel => exact ⟨k + 1, by omega, by go_num, by rw [HA1.out, HALL.out, hf]; rfl, HT2.out⟩
                  case measure => simp [intOf]; omega
      · obtain rfl : k = K.length := by omega
        have HT := Lib.hid T; clear T
        have hs : sameB K L = true := by
          have h := HALL.out
          rw [List.take_length] at h
          unfold sameB
          rw [show (fun e => L.any fun f => eqA (IV e.1) (IV f.1) && eqA (NV e.2) (NV f.2)) = fun e => L.any (oneB e) from rfl, h, decide_eq_true HD.out]; rfl
        have HV := Lib.hid hs; clear hs
        go_wp2
        go_ret
        exact ⟨by rw [HV.out]; rfl, HT.out.below⟩
end Go.Proofs.YtfgacjglfdehbaaDoor
/- LedgerSynced: what was synced is known behind any loss of power. -/
namespace Go.Proofs.YtfgacjglfdehbaaDoor
open Go.RowKit
set_option linter.unusedVariables false
set_option maxRecDepth 20000
theorem sizeB_n {n : Int} (h : sizeB n = true) : 0 ≤ n ∧ n ≤ 7 := by
  unfold sizeB at h; simp at h; omega
theorem openT2 {w W : World} {F : Nat → Prop} {R : List Res} {p safe : Nat} {D : List UInt8} (T : Sts w F W (plR p D safe :: R)) (hD : D.length ≤ 65536) (n : Int) (hn : sizeB n = true) :
    Calls Tryd.prog 19 #[.pointer (some ⟨p, 0, none⟩), .int .i64 n] W fun e W' => ∃ l g, e = .returned (.tuple #[.pointer (some ⟨l, 0, none⟩), .int .i64 0]) ∧ Sts w F W' (ledL l p g (openD n D) (openF n D safe) (mK n (goT n D)) ++ R) := openT T hD n hn
end Go.Proofs.YtfgacjglfdehbaaDoor
/- Layer 12: what stands on a plate (space.Open). -/
namespace Go.Proofs.YtfgacjglfdehbaaDoor
open Go.RowKit Go.Shelf
set_option linter.unusedVariables false
set_option maxRecDepth 20000
attribute [local go_sem] Oper.semAt_some
attribute [local go_sem] row_alloc row_drew row_drewN row_ext row_setCell row_setRow size_ext setRow_alloc setRow_drew loadOf storeOf piece_lit loadVal_at storeVal_at allOne_lit buildOf buildRes_some
attribute [local go_sem high] cell_alloc frozen_alloc setCell_alloc cell_ext frozen_ext cell_setRow frozen_setRow
attribute [local go_sem ↓] TDeed_ld0 TDeed_st0 TDeed_fd0 TDeed_bd0
attribute [local go_sem] TDeed_size TDeed_one TDeed_piece TDeed_c0 TDeed_c1 TDeed_c2 TDeed_c3 TDeed_c4 TDeed_c5 TDeed_set_kind TDeed_set_key TDeed_set_val TDeed_set_ver TDeed_set_ses TDeed_set_num TDeed_ld TDeed_st TDeed_f_kind TDeed_f_key TDeed_f_val TDeed_f_ver TDeed_f_ses TDeed_f_num TDeed_bd TDeed_fl TDeed_fl_kind TDeed_fl_key TDeed_fl_val TDeed_fl_ver TDeed_fl_ses TDeed_fl_num
attribute [local go_sem high] TDeed_eql TDeed_neq
attribute [local go_sem ↓] index_deps0 load_deps0 store_deps0
attribute [local go_sem] DV_piece DV_size DV_one index_deps load_deps store_deps
attribute [local go_sem high] TDeps_eql TDeps_neq
attribute [local go_sem ↓] TCall_ld0 TCall_st0 TCall_fd0 TCall_bd0
attribute [local go_sem] TCall_size TCall_one TCall_piece TCall_c0 TCall_c1 TCall_c2 TCall_c3 TCall_c4 TCall_c5 TCall_c6 TCall_c7 TCall_c8 TCall_c9 TCall_c10 TCall_c11 TCall_c12 TCall_c13 TCall_p_deed TCall_put_deed TCall_p_deps TCall_put_deps TCall_set_seq TCall_ld TCall_st TCall_f_deed TCall_f_deps TCall_f_seq TCall_bd TCall_fl TCall_fl_deed TCall_fl_deps TCall_fl_seq
attribute [local go_sem high] TCall_eql TCall_neq
attribute [local go_sem ↓] TItem_ld0 TItem_st0 TItem_fd0 TItem_bd0
attribute [local go_sem] TItem_size TItem_one TItem_piece TItem_c0 TItem_c1 TItem_set_rep TItem_set_num TItem_ld TItem_st TItem_f_rep TItem_f_num TItem_bd TItem_fl TItem_fl_rep TItem_fl_num
attribute [local go_sem high] TItem_eql TItem_neq
attribute [local go_sem ↓] TBallot_ld0 TBallot_st0 TBallot_fd0 TBallot_bd0
attribute [local go_sem] TBallot_size TBallot_one TBallot_piece TBallot_c0 TBallot_c1 TBallot_set_round TBallot_set_rep TBallot_ld TBallot_st TBallot_f_round TBallot_f_rep TBallot_bd TBallot_fl TBallot_fl_round TBallot_fl_rep
attribute [local go_sem high] TBallot_eql TBallot_neq
attribute [local go_sem ↓] TInst_ld0 TInst_st0 TInst_fd0 TInst_bd0
attribute [local go_sem] TInst_size TInst_one TInst_piece TInst_c0 TInst_c1 TInst_c2 TInst_c3 TInst_c4 TInst_c5 TInst_c6 TInst_c7 TInst_c8 TInst_c9 TInst_c10 TInst_c11 TInst_c12 TInst_c13 TInst_c14 TInst_c15 TInst_c16 TInst_c17 TInst_c18 TInst_c19 TInst_p_prom TInst_put_prom TInst_p_vote TInst_put_vote TInst_set_status TInst_p_call TInst_put_call TInst_set_same TInst_ld TInst_st TInst_f_prom TInst_f_vote TInst_f_status TInst_f_call TInst_f_same TInst_bd TInst_fl TInst_fl_prom TInst_fl_vote TInst_fl_status TInst_fl_call TInst_fl_same
attribute [local go_sem high] TInst_eql TInst_neq
theorem mapR_calm {α β : Type} (P : Program) (k : TypeId) (kv : α → Value) (ev : β → Value) (ok : α → Prop) {B b : Nat} (h : b < B) (n : Nat) (f : α → Option β) : (mapR P k kv ev ok b n f).calm B := fun hs j hj => .inl (by rw [(hs.1 j).1 hj]; exact h)
theorem kmapR_calm {α β : Type} (P : Program) (kt e : TypeId) (size : Nat) (V : β → Array Value) (kv : α → Value) (ok : α → Prop) {B b : Nat} (h : b < B) (N : Nat) (f : α → List β) : (kmapR P kt e size V kv ok b N f).calm B :=
  exR_calm fun q => packR_calm (calmL_cons (mapR_calm _ _ _ _ _ h _ _) (calmL_cons (packR_calm fun r hr => by
    obtain ⟨x, _, rfl⟩ := List.mem_map.1 hr
    exact vecR_calm _ _ _ _ _ _) (calmL_nil _)))
theorem idxR_calm {B s lg bk bs : Nat} (h1 : bk < B) (h2 : bs < B) (I : Idx) : (idxR s lg bk bs I).calm B :=
  exR_calm fun q => packR_calm (calmL_cons (rowR_calm _ _ _) (calmL_cons (vecR_calm _ _ _ _ _ _) (calmL_cons (kmapR_calm _ _ _ _ _ _ _ h1 _ _) (calmL_cons (kmapR_calm _ _ _ _ _ _ _ h2 _ _) (calmL_nil _)))))
theorem mkMapS (t : TypeId) (w : World) : (Instr.makeMap t none).run Tryd.prog w = .ok (.map (some w.heap.size)) (w.alloc (.map #[] 0)) := rfl
attribute [local go_sem] mkMapS
theorem findS_len {I : Idx} {x : Item} {d : Deed} (h : IdxJ I) (hl : I.lists.length ≤ I.N + 1) (hN : I.N + 1 ≤ 1000000) : IdxOk (findS I x d) ∧ (findS I x d).N = I.N + 1 := by
  unfold findS
  split
  · exact ⟨⟨hN, h.keys, hl, fun k => Nat.le_succ_of_le (h.ses k)⟩, rfl⟩
  · refine ⟨⟨hN, h.keys, hl, fun k => ?_⟩, rfl⟩
    show (updK I.ses d.ses _ k).length ≤ I.N + 1
    by_cases e : k = d.ses
    · subst e; rw [updK_same, List.length_append]; have := h.ses d.ses; simp; omega
    · rw [updK_other _ _ e]; have := h.ses k; omega
theorem IdxOk.find {I : Idx} {x : Item} {d : Deed} (h : IdxOk I) (hN : I.N + 1 ≤ 1000000) : IdxOk (findM I x d) ∧ (findM I x d).N ≤ I.N + 1 := by
  unfold findM
  split
  · exact ⟨h, Nat.le_succ _⟩
  · split
    · obtain ⟨h1, h2⟩ := findS_len (I := { I with lists := I.lists ++ [x] }) (x := x) (d := d) ⟨h.N, fun k => Nat.le_succ_of_le (h.keys k), h.ses⟩ (by have := h.lists; simp; omega) hN
      exact ⟨h1, Nat.le_of_eq h2⟩
    · obtain ⟨h1, h2⟩ := findS_len (I := { I with keys := updK I.keys d.key (I.keys d.key ++ [x]) }) (x := x) (d := d) ⟨h.N, fun k => by
          show (updK I.keys d.key _ k).length ≤ I.N + 1
          by_cases e : k = d.key
          · subst e; rw [updK_same, List.length_append]; have := h.keys d.key; simp; omega
          · rw [updK_other _ _ e]; have := h.keys k; omega, h.ses⟩ (by have := h.lists; show I.lists.length ≤ I.N + 1; omega) hN
      exact ⟨h1, Nat.le_of_eq h2⟩
def idx0 : Idx := ⟨0, fun _ => [], [], fun _ => []⟩
theorem idx0_ok : IdxOk idx0 := ⟨by decide, fun _ => Nat.le_refl _, Nat.le_refl _, fun _ => Nat.le_refl _⟩
noncomputable def idxF (L : List Ent) : Idx := L.foldl (fun I e => findM I e.1 e.2.call.deed) idx0
theorem idxF_snoc (L : List Ent) (e : Ent) : idxF (L ++ [e]) = findM (idxF L) e.1 e.2.call.deed := by unfold idxF; rw [List.foldl_append]; rfl
theorem idxF_ok : ∀ (n : Nat) (L : List Ent), L.length = n → n ≤ 999999 → IdxOk (idxF L) ∧ (idxF L).N ≤ n
  | 0, L, h, _ => by
    have : L = [] := List.eq_nil_of_length_eq_zero h
    subst this
    exact ⟨idx0_ok, Nat.le_refl _⟩
  | n + 1, L, h, hn => by
    have hne : L ≠ [] := by rintro rfl; simp at h
    rw [← List.dropLast_concat_getLast hne, idxF_snoc]
    obtain ⟨h1, h2⟩ := idxF_ok n L.dropLast (by simp; omega) (by omega)
    obtain ⟨h3, h4⟩ := h1.find (x := (L.getLast hne).1) (d := (L.getLast hne).2.call.deed) (by omega)
    exact ⟨h3, by omega⟩
section
variable {w W : World} {F : Nat → Prop} {R : List Res} {l p g : Nat} {D : List UInt8} {safe : Nat} {m : RowsM}
def SpPost (w : World) (F : Nat → Prop) (R : List Res) (p : Nat) (D : List UInt8) (safe : Nat) (n : Int) (e : Ending) (W' : World) : Prop :=
  ∃ s lg g bk bs, e = .returned (.tuple #[.pointer (some ⟨s, 0, none⟩), .int .i64 0]) ∧ Sts w F W' (idxR s lg bk bs (idxF (ents (mK n (goT n D)))) :: (ledL lg p g (openD n D) (openF n D safe) (mK n (goT n D)) ++ R))
set_option maxHeartbeats 4000000 in
theorem spOpenT (T : Sts w F W (plR p D safe :: R)) (hD : D.length ≤ 65536) (n : Int) (hn : sizeB n = true) :
    Calls Tryd.prog 9 #[.pointer (some ⟨p, 0, none⟩), .int .i64 n] W (SpPost w F R p D safe n) := by
  have hnn := sizeB_n hn
  have hrows := mK_rows hnn D
  have HB := Lib.hid (openT2 T hD n hn); clear T
  unfold SpPost
  generalize mK n (goT n D) = m at *
  generalize openD n D = D1 at *
  generalize openF n D safe = f1 at *
  have HR := Lib.hid hrows; clear hrows
  refine (callsIn_wide (n := 4)).1 ?_
  refine callsIn_of_wp_marks Tryd.func9 rfl trivial ?_ rfl
  simp only [Tryd.ntmps9, List.size_toArray, List.length_cons, List.length_nil, Nat.reduceAdd, Nat.reduceSub, Array.replicate_succ, Array.replicate_zero, List.push_toArray, List.append_toArray, List.nil_append, List.cons_append]
  refine wpIn_wide.2 ?_
  go_wp2_with fail
  refine HB.out.mono ?_
  clear HB
  rintro e w1 ⟨lg, g, rfl, T⟩
  have T1 := ((((T.kmapNew (P := Tryd.prog) (kt := 9) (e := 24) (size := 2) (V := IV) (kv := strK) (ok := strKOk)).kmapNew (P := Tryd.prog) (kt := 3) (e := 24) (size := 2) (V := IV) (kv := intK) (ok := intKOk)).vecNil 24 2).new (spCells lg w1.heap.size (.slice none 0 0) (w1.heap.size + 1)) 66).new #[.pointer (some ⟨w1.heap.size + 1 + 1, 0, none⟩)] 37
  simp only [World.size_alloc] at T1
  have T1 : Sts w F _ (rowR (w1.heap.size + 1 + 1 + 1) #[.pointer (some ⟨w1.heap.size + 1 + 1, 0, none⟩)] :: rowR (w1.heap.size + 1 + 1) (spCells lg w1.heap.size (.slice none 0 0) (w1.heap.size + 1)) :: vecR 24 2 (.slice none 0 0) 0 [] :: sesR (w1.heap.size + 1) 0 (fun _ => []) :: keysR w1.heap.size 0 (fun _ => []) :: rowR lg (ledCells p g m.n) :: plR p D1 f1 :: rowsIR g m :: R) := T1
  have T1 := T1.ord [5, 0, 1, 2, 3, 4, 6, 7]
  have HT1 := Lib.hid T1
  clear T T1
  go_wp2_with fail
  refine (ledAllT HT1.out).mono ?_
  clear HT1
  rintro e w2 ⟨rfl, T⟩
  have HT := Lib.hid T; clear T
  go_wp2_with fail
  have T := HT.out; clear HT
  have lc := row_lt T.row
  simp only [World.size_alloc] at T lc ⊢
  generalize hc : w1.heap.size + 1 + 1 + 1 + 1 = c at *
  generalize hb : w1.heap.size + 1 + 1 + 1 = b at *
  generalize hs : w1.heap.size + 1 + 1 = s at *
  generalize hbs : w1.heap.size + 1 = bs at *
  generalize hbk : w1.heap.size = bk at *
  have h1 : bk < w2.heap.size + 2 := by omega
  have h2 : bs < w2.heap.size + 2 := by omega
  have HC := Lib.hid (And.intro h1 h2)
  clear hc hb hs hbs hbk lc h1 h2
  have T0 : Sts w F w2 ([idxR s lg bk bs (idxF ((ents m).take 0))] ++ (iterIR c g m ++ rowR b #[.pointer (some ⟨s, 0, none⟩)] :: rowR lg (ledCells p g m.n) :: plR p D1 f1 :: R)) := by
    have T3 := T.ord [3, 4, 6, 5, 0, 8, 2, 1, 7]
    exact Sts.idxShut (I := idx0) T3
  clear T
  refine (wpIn_wide (n := 4)).1 ?_
  refine wp_rangeSts (gf := 71) (lb := #[.pointer (some ⟨c, 0, none⟩)]) (enc := fun x : Item × Inst => #[.agg (IV x.1), .agg (NV x.2)]) (xs := ents m)
    (fun k => [idxR s lg bk bs (idxF ((ents m).take k))]) (fun _ _ => [noR]) (iterIR c g m ++ rowR b #[.pointer (some ⟨s, 0, none⟩)] :: rowR lg (ledCells p g m.n) :: plR p D1 f1 :: R)
    (fun k x a' own' => ∃ b1 b2, own' = [rowR b2 (NV x.2), rowR b1 (IV x.1), idxR s lg bk bs (idxF ((ents m).take k))] ∧ a' = { tmps := #[.pointer (some ⟨p, 0, none⟩), .int .i64 n, undef, undef, .pointer none, .int .i64 0, .pointer (some ⟨lg, 0, none⟩), .int .i64 0, .pointer (some ⟨b, 0, none⟩), .pointer (some ⟨b1, 0, none⟩), .pointer (some ⟨b2, 0, none⟩), .tuple #[.pointer (some ⟨lg, 0, none⟩), .int .i64 0], .pointer (some ⟨p, 0, none⟩), .int .i64 n, .tuple #[.pointer (some ⟨lg, 0, none⟩), .int .i64 0], .pointer (some ⟨lg, 0, none⟩), .int .i64 0, .int .i64 0, .bool false, undef, .pointer (some ⟨lg, 0, none⟩), .map (some bk), .map (some bs), .agg #[.pointer (some ⟨lg, 0, none⟩), .map (some bk), .slice none 0 0, .map (some bs)], .pointer (some ⟨s, 0, none⟩), .pointer (some ⟨lg, 0, none⟩), .func (.func 71) #[] #[.pointer (some ⟨c, 0, none⟩)], .agg (IV x.1), .agg (NV x.2), undef, undef, undef, undef, undef, undef, undef], defers := [] })
    rfl (enters_of Tryd.func71 (by kernel_rfl) rfl) (fun _ => rfl) (Gives.part fun H hS => irAllG c g m HR.out.1 _ H hS) T0 ?calm ?calmX ?assign ?body ?done ?stop
  case calm => exact fun k => calmL_cons (idxR_calm HC.out.1 HC.out.2 _) (calmL_nil _)
  case calmX => exact fun _ _ => calmL_cons (noR_calm _) (calmL_nil _)
  case assign =>
    intro lr k x W1 G1 K hx T1 hK
    have T2 := ((T1.new (IV x.1) 24).new (NV x.2) 46)
    rw [World.size_alloc] at T2
    have HT2 := Lib.hid T2
    clear T0 T1 T2
    gi_wp2
    exact hK _ _ _ ⟨_, _, rfl, rfl⟩ HT2.out
  case body =>
    rintro lr k x _ _ W1 G1 hx ⟨b1, b2, rfl, rfl⟩ T1 hread
    clear T0
    obtain ⟨F', w', TL⟩ := hread T1
    have TL : Sts w' F' W1 (rowR b2 (NV x.2) :: rowR b1 (IV x.1) :: idxR s lg bk bs (idxF ((ents m).take k)) :: rowR c #[.pointer (some ⟨g, 0, none⟩)] :: rowsIR g m :: rowR b #[.pointer (some ⟨s, 0, none⟩)] :: rowR lg (ledCells p g m.n) :: plR p D1 f1 :: R) := TL
    have rb := (TL.ord [5, 0, 1, 2, 3, 4]).row
    have lb := row_lt rb
    have cb : W1.cell? ⟨b, 0, none⟩ = some (.pointer (some ⟨s, 0, none⟩)) := row_cell rb 0
    have r1 := T1.row; have r2 := T1.row1; have l1 := row_lt r1; have l2 := row_lt r2
    have hmem : x ∈ ents m := List.mem_of_getElem? hx
    have hlen := ents_len HR.out.1
    have hlk : ((ents m).take k).length ≤ (ents m).length := List.length_take_le' _ _
    have hix := idxF_ok _ ((ents m).take k) rfl (by omega)
    have hge := HR.out.2.ents HR.out.1 x hmem
    have hfd := findD s lg bk bs (idxF ((ents m).take k)) hix.1 x.1 x.2.call.deed (by have := hge.2.2.call.deed.txt; unfold maxLen; omega) (by have := hge.2.2.call.deed.ses; unfold intKOk; omega)
    have hnx : findM (idxF ((ents m).take k)) x.1 x.2.call.deed = idxF ((ents m).take (k + 1)) := by
      rw [List.take_add_one, hx, ← idxF_snoc]; rfl
    rw [hnx] at hfd
    have HFD := Lib.hid hfd; have HT := Lib.hid T1
    clear hfd hnx hlen hlk hix hge hmem TL hread T1 rb
    gi_wp2_with fail
    refine ⟨trivial, ?_⟩
    refine (CallsIn.inRound lr (callsIn_wide.2 (Does.at (R := [rowR b2 (NV x.2), rowR b1 (IV x.1)]) HFD.out (HT.out.ord [2, 0, 1])))).mono ?_
    rintro e w2 ⟨rfl, T⟩
    have T6 := (T.ord [1, 2, 0]).drop.drop
    have H6 := Lib.hid T6; clear T T6 HT HFD cb r1 r2
    gi_wp2
    exact H6.out
  case done =>
    intro D2 W1 T1
    clear T0
    rw [List.take_length] at T1
    have T1 : Sts w F W1 (objR D2 (.deferred (some [])) :: idxR s lg bk bs (idxF (ents m)) :: rowR c #[.pointer (some ⟨g, 0, none⟩)] :: rowsIR g m :: rowR b #[.pointer (some ⟨s, 0, none⟩)] :: rowR lg (ledCells p g m.n) :: plR p D1 f1 :: R) := T1
    have T2 := (T1.ord [2, 4, 0, 1, 5, 6, 3])
    have rb := T2.row1
    have lb := row_lt rb
    have cb : W1.cell? ⟨b, 0, none⟩ = some (.pointer (some ⟨s, 0, none⟩)) := row_cell rb 0
    have T3 := (T2.drop.ord [1, 0])
    have hD := T3.obj
    have T6 : Sts w F (W1.putObj D2 (.deferred none)) (idxR s lg bk bs (idxF (ents m)) :: (ledL lg p g D1 f1 m ++ R)) := (T3.putObj (.deferred none)).drop.drop
    have HT := Lib.hid T6; have HD := Lib.hid hD; clear T1 T2 T3 T6 hD
    go_wp2
    exact retM1 HD.out (results_tmp2 rfl _ _ _) ⟨s, lg, g, bk, bs, rfl, HT.out⟩ rfl
  case stop =>
    intro D2 c1 k W1 _ _ T1
    exact (Sts.no T1.drop).elim
end
end Go.Proofs.YtfgacjglfdehbaaDoor
