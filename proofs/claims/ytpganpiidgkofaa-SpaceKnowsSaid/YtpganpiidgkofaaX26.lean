/- Several texts in one. -/
import Derived.Test.YtpganpiidgkofaaX25
import Derived.Test.YtpganpiidgkofaaX6
import Derived.Test.YtpganpiidgkofaaX7
import Derived.Test.YtpganpiidgkofaaX23
/- Layer 9: do two books know the same? The walk. -/
namespace Go.Proofs.Ytpganpiidgkofaa
open Go.RowKit Go.Shelf
set_option linter.unusedVariables false
set_option maxRecDepth 20000
attribute [local go_sem] row_alloc row_drew row_drewN row_ext row_setCell row_setRow size_ext setRow_alloc setRow_drew loadOf storeOf piece_lit loadVal_at storeVal_at allOne_lit buildOf buildRes_some
attribute [local go_sem high] cell_alloc frozen_alloc setCell_alloc cell_ext frozen_ext cell_setRow frozen_setRow
attribute [local go_sem ↓] TDeed_ld0 TDeed_st0 TDeed_fd0 TDeed_bd0
attribute [local go_sem] TDeed_size TDeed_one TDeed_piece TDeed_c0 TDeed_c1 TDeed_c2 TDeed_c3 TDeed_c4 TDeed_c5 TDeed_set_kind TDeed_set_key TDeed_set_val TDeed_set_ver TDeed_set_ses TDeed_set_num TDeed_ld TDeed_st TDeed_f_kind TDeed_f_key TDeed_f_val TDeed_f_ver TDeed_f_ses TDeed_f_num TDeed_bd TDeed_fl TDeed_fl_kind TDeed_fl_key TDeed_fl_val TDeed_fl_ver TDeed_fl_ses TDeed_fl_num
attribute [local go_sem high] TDeed_eql TDeed_neq
attribute [local go_sem ↓] index_deps0 load_deps0 store_deps0
attribute [local go_sem] DV_piece DV_size DV_one index_deps load_deps store_deps
attribute [local go_sem high] TDeps_eql TDeps_neq
attribute [local go_sem ↓] TCall_ld0 TCall_st0 TCall_fd0 TCall_bd0
attribute [local go_sem] TCall_size TCall_one TCall_piece TCall_c0 TCall_c1 TCall_c2 TCall_c3 TCall_c4 TCall_c5 TCall_c6 TCall_c7 TCall_c8 TCall_c9 TCall_c10 TCall_c11 TCall_c12 TCall_c13 TCall_p_deed TCall_put_deed TCall_p_deps TCall_put_deps TCall_set_seq TCall_ld TCall_st TCall_f_deed TCall_f_deps TCall_f_seq TCall_bd TCall_fl TCall_fl_deed TCall_fl_deps TCall_fl_seq
attribute [local go_sem high] TCall_eql TCall_neq
attribute [local go_sem ↓] TItem_ld0 TItem_st0 TItem_fd0 TItem_bd0
attribute [local go_sem] TItem_size TItem_one TItem_piece TItem_c0 TItem_c1 TItem_set_rep TItem_set_num TItem_ld TItem_st TItem_f_rep TItem_f_num TItem_bd TItem_fl TItem_fl_rep TItem_fl_num
attribute [local go_sem high] TItem_eql TItem_neq
attribute [local go_sem ↓] TBallot_ld0 TBallot_st0 TBallot_fd0 TBallot_bd0
attribute [local go_sem] TBallot_size TBallot_one TBallot_piece TBallot_c0 TBallot_c1 TBallot_set_round TBallot_set_rep TBallot_ld TBallot_st TBallot_f_round TBallot_f_rep TBallot_bd TBallot_fl TBallot_fl_round TBallot_fl_rep
attribute [local go_sem high] TBallot_eql TBallot_neq
attribute [local go_sem ↓] TInst_ld0 TInst_st0 TInst_fd0 TInst_bd0
attribute [local go_sem] TInst_size TInst_one TInst_piece TInst_c0 TInst_c1 TInst_c2 TInst_c3 TInst_c4 TInst_c5 TInst_c6 TInst_c7 TInst_c8 TInst_c9 TInst_c10 TInst_c11 TInst_c12 TInst_c13 TInst_c14 TInst_c15 TInst_c16 TInst_c17 TInst_c18 TInst_c19 TInst_p_prom TInst_put_prom TInst_p_vote TInst_put_vote TInst_set_status TInst_p_call TInst_put_call TInst_set_same TInst_ld TInst_st TInst_f_prom TInst_f_vote TInst_f_status TInst_f_call TInst_f_same TInst_bd TInst_fl TInst_fl_prom TInst_fl_vote TInst_fl_status TInst_fl_call TInst_fl_same
attribute [local go_sem high] TInst_eql TInst_neq
/-- The block of such a slice, and what lies there. -/
theorem vec_piece {α : Type} {V : α → Array Value} {size : Nat} (hV : ∀ x, (V x).size = size) {e : TypeId} {v : Value} {l : List α} {w W : World} {F : Nat → Prop} {R : List Res} (T : Sts w F W (vecR e size v l.length (vl V l) :: R)) (h0 : 0 < size) (hl : 0 < l.length) :
    ∃ g c cur, v = .slice (some ⟨g, 0, none⟩) l.length c ∧ row? W g = some cur ∧ g < W.heap.size ∧ ∀ j (hj : j < l.length), j * size + size ≤ cur.size ∧ piece cur (j * size) size = V l[j] := by
  obtain ⟨g, c, cur, rfl, hr, _, _⟩ := vec_at hV T h0 hl
  refine ⟨g, c, cur, rfl, hr, row_lt hr, fun j hj => ?_⟩
  obtain ⟨_, _, cur', hv, hr', hs, _⟩ := vec_at hV T h0 hj
  injection hv with hv _ _
  injection hv with hv
  injection hv with hv
  subst hv
  rw [hr] at hr'
  injection hr' with hr'
  subst hr'
  obtain ⟨_, _, hv, _, hc⟩ := vec_cell hV T h0 hj
  injection hv with hv _ _
  injection hv with hv
  injection hv with hv
  subst hv
  refine ⟨hs, ?_⟩
  apply Array.ext
  · unfold piece; rw [Array.size_extract, hV]; omega
  · intro i h1 h2
    have := hc i _ (Array.getElem?_eq_getElem h2)
    rw [row_cell hr] at this
    have h3 := (Array.getElem?_eq_some_iff.1 this).2
    simp only [piece, Array.getElem_extract]
    exact h3
noncomputable def oneB (e f : Ent) : Bool := eqA (IV e.1) (IV f.1) && eqA (NV e.2) (NV f.2)
theorem any_take {α : Type} (p : α → Bool) {l : List α} {k : Nat} (hk : k < l.length) : (l.take (k + 1)).any p = ((l.take k).any p || p l[k]) := by
  rw [List.take_succ_eq_append_getElem hk, List.any_append]; simp
theorem all_take {α : Type} (p : α → Bool) {l : List α} {k : Nat} (hk : k < l.length) : (l.take (k + 1)).all p = ((l.take k).all p && p l[k]) := by
  rw [List.take_succ_eq_append_getElem hk, List.all_append]; simp
theorem all_of_take {α : Type} (p : α → Bool) {l : List α} {k : Nat} (hk : k < l.length) (h : p l[k] = false) : l.all p = false := by
  cases ha : l.all p with
  | false => rfl
  | true => rw [List.all_eq_true] at ha; rw [ha _ (List.getElem_mem hk)] at h; cases h
set_option maxHeartbeats 8000000 in
theorem sameR (a b : Nat) (K L : List Ent) (hK : K.length ≤ 1000000) (hL : L.length ≤ 1000000) : Reads Try.prog 24 #[.pointer (some ⟨a, 0, none⟩), .pointer (some ⟨b, 0, none⟩)] [bookR a K, bookR b L] (.bool (sameB K L)) := by
  intro W G hS
  obtain ⟨A, c, B, d, T0⟩ := (Sts.start hS).bookOpen
  obtain ⟨A', c', B', d', T⟩ := (T0.ord [3, 0, 1, 2]).bookOpen
  obtain ⟨_, _, hv, hA', -, hAa'⟩ := vec_rows KV_size T.drop (by omega) (by omega)
  obtain ⟨rfl, -, rfl⟩ := Value.slice.inj hv; clear hv
  obtain ⟨_, _, hv, hA, -, hAa⟩ := vec_rows KV_size T.drop.drop.drop.drop (by omega) (by omega)
  obtain ⟨rfl, -, rfl⟩ := Value.slice.inj hv; clear hv
  have hpk : 0 < K.length → ∃ gb cs, B = some ⟨gb, 0, none⟩ ∧ gb < W.heap.size ∧ (∀ W', Below W.heap.size W W' → row? W' gb = some cs) ∧ ∀ j (hj : j < K.length), j * 20 + 20 ≤ cs.size ∧ piece cs (j * 20) 20 = NV K[j].2 := fun h => by
    obtain ⟨gb, c1, cs, hv, hr, hlt, hp⟩ := vec_piece WV_size T.drop.drop.drop.drop.drop (by omega) h
    injection hv with hv
    exact ⟨gb, cs, hv, hlt, fun W' hb => (row_below hb hlt).trans hr, hp⟩
  have hpl : 0 < L.length → ∃ gb cs, B' = some ⟨gb, 0, none⟩ ∧ gb < W.heap.size ∧ (∀ W', Below W.heap.size W W' → row? W' gb = some cs) ∧ ∀ j (hj : j < L.length), j * 20 + 20 ≤ cs.size ∧ piece cs (j * 20) 20 = NV L[j].2 := fun h => by
    obtain ⟨gb, c1, cs, hv, hr, hlt, hp⟩ := vec_piece WV_size T.drop.drop (by omega) h
    injection hv with hv
    exact ⟨gb, cs, hv, hlt, fun W' hb => (row_below hb hlt).trans hr, hp⟩
  have HPK := Lib.hid hpk; have HPL := Lib.hid hpl; clear hpk hpl
  have rb := T.row
  have ra := T.drop.drop.drop.row
  have hra : ∀ W', Below W.heap.size W W' → (W'.cell? ⟨a, 0, none⟩ = some (.slice A K.length c) ∧ W'.cell? ⟨a, 1, none⟩ = some (.slice B K.length d) ∧ a < W'.heap.size) := fun W' hb => by
    have r := (row_below hb (row_lt ra)).trans ra
    exact ⟨row_cell r 0, row_cell r 1, row_lt r⟩
  have hrb : ∀ W', Below W.heap.size W W' → (W'.cell? ⟨b, 0, none⟩ = some (.slice A' L.length c') ∧ W'.cell? ⟨b, 1, none⟩ = some (.slice B' L.length d') ∧ b < W'.heap.size) := fun W' hb => by
    have r := (row_below hb (row_lt rb)).trans rb
    exact ⟨row_cell r 0, row_cell r 1, row_lt r⟩
  have HRA := Lib.hid hra; have HRB := Lib.hid hrb
  clear hra hrb ra rb T T0 hS
  have T := Sts.start0 W
  obtain ⟨ha0, ha1, la⟩ := HRA.out W T.below
  obtain ⟨hb0, hb1, lb⟩ := HRB.out W T.below
  have hkl : ((K.length : Int) != (L.length : Int)) = !decide (K.length = L.length) := by
    by_cases h : K.length = L.length
    · rw [h]; simp
    · simp only [decide_eq_false h, Bool.not_false, bne_iff_ne, ne_eq]; omega
  cases hd : decide (K.length = L.length)
  case false =>
    rw [hd] at hkl
    have HV := Lib.hid (show sameB K L = false by unfold sameB; rw [hd]; rfl)
    have hn : ¬ K.length = L.length := by simpa using hd
    clear hA hA' hAa hAa' T hd
    go_enter Try.func24, Try.ntmps24
    go_wp2_with fail
    go_quiet (fail)
    go_wp2
    go_ret
    exact ⟨by rw [HV.out]; rfl, below_drewN (Below.refl _ _) _⟩
  case true =>
    rw [hd] at hkl
    have HD := Lib.hid (of_decide_eq_true hd); clear hd
    go_enter Try.func24, Try.ntmps24
    go_wp2_with fail
    go_quiet (fail)
    go_wp2_with fail
    have HT := Lib.hid T; clear T
    clear ha0 ha1 la hb0 hb1 lb hkl
    go_loopw [26] (fun s wr => ∃ k : Nat, k ≤ K.length ∧ s = .int .i64 k ∧ (K.take k).all (fun e => L.any (oneB e)) = true ∧ Sts W (fun _ => False) wr []) (fun s _ => K.length - (intOf s).toNat)
    case atStart => exact ⟨0, Nat.zero_le _, rfl, rfl, HT.out.drewN _⟩
    case round =>
      clear HT
      obtain ⟨k, hk, rfl, hall, T⟩ := hrel
      have HALL := Lib.hid hall; clear hall
      by_cases hk2 : k < K.length
      · cases A with
        | none => rw [hA.nil rfl] at hk2; simp at hk2
        | some a1 =>
          obtain ⟨ga, rfl⟩ := hAa a1 rfl
          · obtain ⟨gb, csb, rfl, lgb, hrow, hpc⟩ := HPK.out (by omega)
            obtain ⟨hpc1, hpc2⟩ := hpc k hk2
            clear hpc HPK
            have hld := hA.load (P := Try.prog) (T := 42) KV_size TItem_und rfl (by kernel_rfl) T.below rfl hk2
            rw [add_none, Nat.zero_add] at hld
            replace hld : loadVal Try.prog 42 2 wr (.pointer (some ⟨ga, k * 2, none⟩)) = .ok (.agg (IV K[k].1)) wr := hld
            have HLN := Lib.hid hrow; clear hrow
            have HP1 := Lib.hid hpc1; have HP2 := Lib.hid hpc2; clear hpc1 hpc2
            have hk3 : (k : Int) < (K.length : Int) := by omega
            have hk0 : (0 : Int) ≤ (k : Int) := by omega
            have T2 := T.new (IV K[k].1) 42
            obtain ⟨hb0, hb1, lb⟩ := HRB.out _ T2.below
            have HT2 := Lib.hid T2; clear T T2
            go_wp2_with fail
            clear hld
            generalize wr.alloc _ = w2 at *
            generalize wr.heap.size = g6 at *
            have hone : ∀ j (hj : j < L.length), oneB K[k] L[j] = (eqA (IV K[k].1) (IV L[j].1) && eqA (NV K[k].2) (NV L[j].2)) := fun _ _ => rfl
            have HA1 := Lib.hid (all_take (fun e => L.any (oneB e)) hk2)
            have HA2 := Lib.hid (fun h => all_of_take (fun e => L.any (oneB e)) hk2 h)
            generalize K[k] = e at *
            go_loopw [7, 36] (fun f s wr => ∃ j : Nat, j ≤ L.length ∧ s = .int .i64 j ∧ f = .bool ((L.take j).any (oneB e)) ∧ Sts W (fun _ => False) wr [rowR g6 (IV e.1)]) (fun _ s _ => L.length - (intOf s).toNat)
            case atStart => exact ⟨0, Nat.zero_le _, rfl, rfl, HT2.out⟩
            case round =>
              clear HT2 hb0 hb1 lb
              obtain ⟨j, hj, rfl, rfl, T⟩ := hrel
              by_cases hj2 : j < L.length
              · cases A' with
                | none => rw [hA'.nil rfl] at hj2; simp at hj2
                | some a1 =>
                  obtain ⟨ga', rfl⟩ := hAa' a1 rfl
                  · obtain ⟨gb', csb', rfl, lgb', hrow', hpc'⟩ := HPL.out (by omega)
                    obtain ⟨hq1, hq2⟩ := hpc' j hj2
                    clear hpc' HPL
                    have hld := hA'.load (P := Try.prog) (T := 42) KV_size TItem_und rfl (by kernel_rfl) T.below rfl hj2
                    rw [add_none, Nat.zero_add] at hld
                    replace hld : loadVal Try.prog 42 2 wr (.pointer (some ⟨ga', j * 2, none⟩)) = .ok (.agg (IV L[j].1)) wr := hld
                    have T2 := T.new (IV L[j].1) 42
                    have hldM := hrow' _ T2.below
                    have hp1 := HP1.out; have hp2 := HP2.out
                    clear hrow'
                    have hldN := HLN.out _ T2.below
                    have hj3 : (j : Int) < (L.length : Int) := by omega
                    have hj0 : (0 : Int) ≤ (j : Int) := by omega
                    obtain ⟨hb0, hb1, lb⟩ := HRB.out _ T2.below
                    obtain ⟨ha0, ha1, la⟩ := HRA.out _ T2.below
                    have r6 := T2.row; have l6 := row_lt r6; have r7 := T2.row1; have l7 := row_lt r7
                    have HS := Lib.hid (any_take (oneB e) hj2)
                    have HO := Lib.hid (hone j hj2)
                    have HT2 := Lib.hid T2.drop; clear T T2 hone
                    go_wp2_with fail
                    clear hld
                    generalize wr.alloc _ = w3 at *
                    generalize wr.heap.size = g9 at *
                    generalize (L.take j).any (oneB e) = fd at *
                    have hk3 : (k : Int) < (K.length : Int) := by omega
                    have HSS := HS; clear HS
                    cases fd
                    case true =>
                      go_quiet (fail)
                      go_wp2
                      go_roundw
                      case rel => exact ⟨j + 1, by omega, by go_num, by rw [HSS.out]; rfl, HT2.out.drewN _⟩
                      case measure => simp [intOf]; omega
                    case false =>
                      cases he1 : eqA (IV e.1) (IV L[j].1)
                      case false =>
                        go_quiet (fail)
                        go_wp2
                        go_roundw
                        case rel => exact ⟨j + 1, by omega, by go_num, by rw [HSS.out, HO.out, he1]; rfl, HT2.out.drewN _⟩
                        case measure => simp [intOf]; omega
                      case true =>
                        have he2 : eqA (NV e.2) (NV L[j].2) = oneB e L[j] := by rw [HO.out, he1]; rfl
                        have HE2 := Lib.hid he2; clear he2
                        cases he3 : eqA (NV e.2) (NV L[j].2)
                        case false =>
                          go_quiet (fail)
                          go_wp2
                          go_roundw
                          case rel => exact ⟨j + 1, by omega, by go_num, by rw [HSS.out, ← HE2.out, he3]; rfl, HT2.out.drewN _⟩
                          case measure => simp [intOf]; omega
                        case true =>
                          go_quiet (fail)
                          go_wp2
                          go_roundw
                          case rel => exact ⟨j + 1, by omega, by go_num, by rw [HSS.out, ← HE2.out, he3]; rfl, HT2.out.drewN _⟩
                          case measure => simp [intOf]; omega
              · obtain rfl : j = L.length := by omega
                have T := T.nil
                have HT2 := Lib.hid T; clear T hone
                rw [List.take_length]
                cases hf : L.any (oneB e)
                case false =>
                  have hs : sameB K L = false := by
                    have h := HA2.out hf
                    unfold sameB
                    rw [show (fun e => L.any fun f => eqA (IV e.1) (IV f.1) && eqA (NV e.2) (NV f.2)) = fun e => L.any (oneB e) from rfl, h, Bool.and_false]
                  have HV := Lib.hid hs; clear hs
                  go_wp2
                  go_ret
                  exact ⟨by rw [HV.out]; rfl, HT2.out.below⟩
                case true =>
                  go_wp2
                  go_roundw
                  case rel => exact ⟨k + 1, by omega, by go_num, by rw [HA1.out, HALL.out, hf]; rfl, HT2.out⟩
                  case measure => simp [intOf]; omega
      · obtain rfl : k = K.length := by omega
        have HT := Lib.hid T; clear T
        have hs : sameB K L = true := by
          have h := HALL.out
          rw [List.take_length] at h
          unfold sameB
          rw [show (fun e => L.any fun f => eqA (IV e.1) (IV f.1) && eqA (NV e.2) (NV f.2)) = fun e => L.any (oneB e) from rfl, h, decide_eq_true HD.out]; rfl
        have HV := Lib.hid hs; clear hs
        go_wp2
        go_ret
        exact ⟨by rw [HV.out]; rfl, HT.out.below⟩
end Go.Proofs.Ytpganpiidgkofaa
/- LedgerSynced: what was synced is known behind any loss of power. -/
namespace Go.Proofs.Ytpganpiidgkofaa
open Go.RowKit
set_option linter.unusedVariables false
set_option maxRecDepth 20000
attribute [local go_sem] row_alloc row_drew row_drewN row_ext row_setCell row_setRow size_ext setRow_alloc setRow_drew loadOf storeOf piece_lit loadVal_at storeVal_at allOne_lit buildOf buildRes_some
attribute [local go_sem high] cell_alloc frozen_alloc setCell_alloc cell_ext frozen_ext cell_setRow frozen_setRow
attribute [local go_sem ↓] TDeed_ld0 TDeed_st0 TDeed_fd0 TDeed_bd0
attribute [local go_sem] TDeed_size TDeed_one TDeed_piece TDeed_c0 TDeed_c1 TDeed_c2 TDeed_c3 TDeed_c4 TDeed_c5 TDeed_set_kind TDeed_set_key TDeed_set_val TDeed_set_ver TDeed_set_ses TDeed_set_num TDeed_ld TDeed_st TDeed_f_kind TDeed_f_key TDeed_f_val TDeed_f_ver TDeed_f_ses TDeed_f_num TDeed_bd TDeed_fl TDeed_fl_kind TDeed_fl_key TDeed_fl_val TDeed_fl_ver TDeed_fl_ses TDeed_fl_num
attribute [local go_sem high] TDeed_eql TDeed_neq
attribute [local go_sem ↓] index_deps0 load_deps0 store_deps0
attribute [local go_sem] DV_piece DV_size DV_one index_deps load_deps store_deps
attribute [local go_sem high] TDeps_eql TDeps_neq
attribute [local go_sem ↓] TCall_ld0 TCall_st0 TCall_fd0 TCall_bd0
attribute [local go_sem] TCall_size TCall_one TCall_piece TCall_c0 TCall_c1 TCall_c2 TCall_c3 TCall_c4 TCall_c5 TCall_c6 TCall_c7 TCall_c8 TCall_c9 TCall_c10 TCall_c11 TCall_c12 TCall_c13 TCall_p_deed TCall_put_deed TCall_p_deps TCall_put_deps TCall_set_seq TCall_ld TCall_st TCall_f_deed TCall_f_deps TCall_f_seq TCall_bd TCall_fl TCall_fl_deed TCall_fl_deps TCall_fl_seq
attribute [local go_sem high] TCall_eql TCall_neq
attribute [local go_sem ↓] TItem_ld0 TItem_st0 TItem_fd0 TItem_bd0
attribute [local go_sem] TItem_size TItem_one TItem_piece TItem_c0 TItem_c1 TItem_set_rep TItem_set_num TItem_ld TItem_st TItem_f_rep TItem_f_num TItem_bd TItem_fl TItem_fl_rep TItem_fl_num
attribute [local go_sem high] TItem_eql TItem_neq
attribute [local go_sem ↓] TBallot_ld0 TBallot_st0 TBallot_fd0 TBallot_bd0
attribute [local go_sem] TBallot_size TBallot_one TBallot_piece TBallot_c0 TBallot_c1 TBallot_set_round TBallot_set_rep TBallot_ld TBallot_st TBallot_f_round TBallot_f_rep TBallot_bd TBallot_fl TBallot_fl_round TBallot_fl_rep
attribute [local go_sem high] TBallot_eql TBallot_neq
attribute [local go_sem ↓] TInst_ld0 TInst_st0 TInst_fd0 TInst_bd0
attribute [local go_sem] TInst_size TInst_one TInst_piece TInst_c0 TInst_c1 TInst_c2 TInst_c3 TInst_c4 TInst_c5 TInst_c6 TInst_c7 TInst_c8 TInst_c9 TInst_c10 TInst_c11 TInst_c12 TInst_c13 TInst_c14 TInst_c15 TInst_c16 TInst_c17 TInst_c18 TInst_c19 TInst_p_prom TInst_put_prom TInst_p_vote TInst_put_vote TInst_set_status TInst_p_call TInst_put_call TInst_set_same TInst_ld TInst_st TInst_f_prom TInst_f_vote TInst_f_status TInst_f_call TInst_f_same TInst_bd TInst_fl TInst_fl_prom TInst_fl_vote TInst_fl_status TInst_fl_call TInst_fl_same
attribute [local go_sem high] TInst_eql TInst_neq
attribute [local go_sem ↓] TLCall_ld0 TLCall_st0 TLCall_fd0 TLCall_bd0
attribute [local go_sem] TLCall_size TLCall_one TLCall_piece TLCall_c0 TLCall_c1 TLCall_c2 TLCall_c3 TLCall_c4 TLCall_c5 TLCall_c6 TLCall_c7 TLCall_c8 TLCall_c9 TLCall_c10 TLCall_c11 TLCall_c12 TLCall_c13 TLCall_c14 TLCall_c15 TLCall_c16 TLCall_c17 TLCall_c18 TLCall_c19 TLCall_c20 TLCall_c21 TLCall_c22 TLCall_c23 TLCall_c24 TLCall_set_kind TLCall_p_item TLCall_put_item TLCall_p_inst TLCall_put_inst TLCall_set_keep TLCall_set_spoil TLCall_ld TLCall_st TLCall_f_kind TLCall_f_item TLCall_f_inst TLCall_f_keep TLCall_f_spoil TLCall_bd TLCall_fl TLCall_fl_kind TLCall_fl_item TLCall_fl_inst TLCall_fl_keep TLCall_fl_spoil
attribute [local go_sem high] TLCall_eql TLCall_neq
theorem lost_le {D : List UInt8} {safe : Nat} (h : safe ≤ D.length) (keep : Int) (s : UInt8) : (lost D safe keep s).length ≤ D.length := by
  have hk := kept_le D.length safe keep h
  rw [lost_eq h, List.length_append]
  have e1 : ∀ (l : List UInt8), (spoilL l s).length = l.length := fun l => by unfold spoilL; split <;> simp_all
  rw [e1, List.length_take, List.length_take, List.length_drop]
  omega
theorem LedI.safe_le {n : Int} {D : List UInt8} {safe : Nat} {m : RowsM} {r1 r2 : List Ent} (h : LedI n D safe m r1 r2) : safe ≤ D.length := by
  rw [h.at', h.data, recsOf_app, List.length_append]; omega
theorem sizeB_n {n : Int} (h : sizeB n = true) : 0 ≤ n ∧ n ≤ 7 := by
  unfold sizeB at h; simp at h; omega
theorem openT2 {w W : World} {F : Nat → Prop} {R : List Res} {p safe : Nat} {D : List UInt8} (T : Sts w F W (plR p D safe :: R)) (hD : D.length ≤ 65536) (n : Int) (hn : sizeB n = true) :
    Calls Try.prog 15 #[.pointer (some ⟨p, 0, none⟩), .int .i64 n] W fun e W' => ∃ l g, e = .returned (.tuple #[.pointer (some ⟨l, 0, none⟩), .int .i64 0]) ∧ Sts w F W' (ledL l p g (openD n D) (openF n D safe) (mK n (goT n D)) ++ R) := openT T hD n hn
/-- What is opened first. -/
theorem LedI.open0 {n : Int} (h : sizeB n = true) : LedI n (openD n []) (openF n [] 0) (mK n (goT n [])) [] [] := LedI.new (sizeB_n h)
/-- However an Add ends, the ledger is one. -/
theorem LedI.addI {n : Int} {D : List UInt8} {safe : Nat} {m : RowsM} {r1 r2 : List Ent} (h : LedI n D safe m r1 r2) (x : Item) (i : Inst) :
    ∃ a b, LedI n (addM D safe m x i).1 (addM D safe m x i).2.1 (addM D safe m x i).2.2.1 a b := by
  rcases h.add x i with ⟨_, hm, h1 | h1⟩ | ⟨_, hm, h1 | h1⟩
  · exact ⟨_, _, by rw [hm]; exact h1⟩
  · exact ⟨_, _, by rw [hm]; exact h1⟩
  · exact ⟨_, _, by rw [hm]; exact h1⟩
  · exact ⟨_, _, by rw [hm]; exact h1⟩
theorem LedI.lost0 {n : Int} {D : List UInt8} {m : RowsM} {r1 : List Ent} (h : LedI n D D.length m r1 []) (keep : Int) (s : UInt8) :
    RowsOk (mK n (goT n (lost D D.length keep s))) ∧ (mK n (goT n (lost D D.length keep s))).n = n ∧ sameB (ents (mK n (goT n (lost D D.length keep s)))) (ents m) = true := by
  obtain ⟨j, _, h1⟩ := h.lose keep s
  refine ⟨h1.ok, h1.mn, sameB_shown ?_⟩
  refine RowsEq.shown ?_ h1.ok h.ok
  have h2 := h1.same
  rw [List.append_nil, List.take_nil, List.append_nil] at h2
  have h3 := h.same
  rw [List.append_nil] at h3
  exact h2.trans h3.symm
set_option maxHeartbeats 8000000 in
theorem law_synced (n : Int) (A : Option Addr) (c : Nat) (l : List LCall) (keep : Int) (spoil : UInt8) (W : World) (hl : RowsIn W A 25 LCV l) (hf : FitL l) (hkp : Fits keep) :
    Calls Try.prog 6 #[.int .i64 n, .slice A l.length c, .int .i64 keep, .int .u8 spoil.toNat] W fun e W' => e = .returned (.bool true) ∧ Below W.heap.size W W' := by
  have HT9 := alive9
  have hlen := hl.len
  unfold Fits at hkp
  go_enter Try.func6, Try.ntmps6
  go_wp2_with fail
  refine (HT9 W).mono ?_
  rintro e w1 ⟨rfl, hb⟩
  have T := (Sts.start0 W).pure hb
  clear hb HT9
  go_wp2_with fail
  refine (great9 A c l W w1 [] hl hf T).mono ?_
  clear T
  rintro e w2 ⟨rfl, T⟩
  cases hg : greatL l
  case true =>
    go_wp2
    go_ret
    exact ⟨rfl, T.below⟩
  case false =>
    go_wp2_with fail
    refine (newT T).mono ?_
    clear T
    rintro e w3 ⟨rfl, T⟩
    generalize w2.heap.size = p at *
    cases hs : sizeB n
    case false =>
      have HB := Lib.hid (Ans.at (openBad (p := p) n hs) T); clear T
      go_wp2_with fail
      refine HB.out.mono ?_
      rintro e w4 ⟨rfl, T⟩
      go_wp2
      go_ret
      exact ⟨rfl, T.below⟩
    case true =>
      have HB := Lib.hid (openT2 T (by simp) n hs); clear T
      go_wp2_with fail
      refine HB.out.mono ?_
      clear HB
      rintro e w4 ⟨lg, g, rfl, T⟩
      have HI := Lib.hid (LedI.open0 hs)
      have HT := Lib.hid T; clear T
      generalize openD n [] = D0 at *
      generalize openF n [] 0 = s0 at *
      generalize mK n (goT n []) = m0 at *
      have HL := Lib.hid hl; have HS := Lib.hid hs; clear hl hs hg hf
      go_wp2_with fail
      go_loopw [32] (fun s wr => ∃ (k : Nat) (D : List UInt8) (safe : Nat) (m : RowsM) (r1 r2 : List Ent), k ≤ l.length ∧ s = .int .i64 k ∧ LedI n D safe m r1 r2 ∧ Sts W (fun _ => False) wr (ledL lg p g D safe m)) (fun s _ => l.length - (intOf s).toNat)
      case atStart => exact ⟨0, D0, s0, m0, [], [], Nat.zero_le _, rfl, HI.out, HT.out⟩
      case round =>
        clear HT HI
        obtain ⟨k, D, safe, m, r1, r2, hk, rfl, hI, T⟩ := hrel
        by_cases hkl : k < l.length
        · cases A with
          | none => have := HL.out.nil rfl; subst this; simp at hkl
          | some a =>
            have hld := HL.out.load (P := Try.prog) (T := 62) TLCall_size TLCall_und rfl (by kernel_rfl) T.below rfl hkl
            have hk3 : (k : Int) < (l.length : Int) := by omega
            have hk0 : (0 : Int) ≤ (k : Int) := by omega
            generalize l[k] = x at *
            obtain ⟨a1, b1, hI1⟩ := hI.addI x.item x.inst
            have hadd := addD lg p g D safe m hI.ok hI.good hI.len x.item x.inst
            have T2 := T.new (LCV x) 62
            have r0 := T2.row; have l0 := row_lt r0
            have HT2 := Lib.hid T2; have HADD := Lib.hid hadd; have HI1 := Lib.hid hI1
            clear T T2 hadd hI1 hI
            generalize addM D safe m x.item x.inst = q at *
            obtain ⟨D1, s1, m1, e1⟩ := q
            dsimp only at HADD HI1
            go_wp2_with fail
            refine (Does.at (R := [rowR wr.heap.size (LCV x)]) HADD.out (HT2.out.ordr [1, 2, 3, 0])).mono ?_
            clear HADD HT2 hld
            rintro e w5 ⟨rfl, T⟩
            have T3 := Sts.nilTail (M := ledL lg p g D1 s1 m1) (T.ordr [0, 1, 2])
            have HT3 := Lib.hid T3; clear T T3
            go_wp2
            go_roundw
            case rel => exact ⟨k + 1, D1, s1, m1, a1, b1, by omega, by go_num, HI1.out, HT3.out⟩
            case measure => simp [intOf]; omega
        · obtain rfl : k = l.length := by omega
          have hsy := ledSyncT (R := []) T
          have HSY := Lib.hid hsy; have HI := Lib.hid hI.sync; clear T hsy hI hk
          go_wp2_with fail
          refine HSY.out.mono ?_
          clear HSY
          rintro e w5 ⟨rfl, T⟩
          have HB := Lib.hid (bookT HI.out.ok T); clear T
          go_wp2_with fail
          refine HB.out.mono ?_
          clear HB
          rintro e w6 ⟨b, rfl, T⟩
          have T : Sts W (fun _ => False) w6 (bookR b (ents m) :: rowR lg (ledCells p g m.n) :: plR p D D.length :: rowsIR g m :: []) := T
          have hlo := loseT (T.ord [2, 0, 1, 3]) HI.out.len keep hkp spoil
          have HLO := Lib.hid hlo; clear hlo T
          go_wp2_with fail
          refine HLO.out.mono ?_
          clear HLO
          rintro e w7 ⟨rfl, T⟩
          have hl7 : (lost D D.length keep spoil).length ≤ 65536 := Nat.le_trans (lost_le (Nat.le_refl _) keep spoil) HI.out.len
          have HB := Lib.hid (openT2 T hl7 n HS.out); clear T hl7
          have HZ := Lib.hid (HI.out.lost0 keep spoil)
          generalize lost D D.length keep spoil = D7 at *
          go_wp2_with fail
          refine HB.out.mono ?_
          clear HB
          rintro e w8 ⟨lg2, g2, rfl, T⟩
          obtain ⟨hok, hmn, hsm⟩ := HZ.out
          have hle1 := ents_len hok
          have hle2 := ents_len HI.out.ok
          generalize openD n D7 = D8 at *
          generalize openF n D7 D7.length = s8 at *
          generalize mK n (goT n D7) = m8 at *
          have HM := Lib.hid hmn; have HSM := Lib.hid hsm
          have HB := Lib.hid (bookT hok T); clear T hok hmn hsm HZ
          go_wp2_with fail
          refine HB.out.mono ?_
          clear HB
          rintro e w9 ⟨b2, rfl, T⟩
          have T : Sts W (fun _ => False) w9 (bookR b2 (ents m8) :: rowR lg2 (ledCells p g2 m8.n) :: plR p D8 s8 :: rowsIR g2 m8 :: bookR b (ents m) :: _) := T
          have T := T.ord [0, 4, 1, 2, 3]
          have hsr := Reads.at (L := [bookR b2 (ents m8), bookR b (ents m)]) (sameR b2 b (ents m8) (ents m) (by omega) (by omega)) T
          rw [HSM.out] at hsr
          have HSR := Lib.hid hsr; have HT := Lib.hid T; clear hsr T
          go_wp2_with fail
          refine HSR.out.mono ?_
          clear HSR
          rintro e w10 ⟨rfl, hb⟩
          have T := HT.out.pure hb
          clear HT hb
          have hsz := ledSizeT (T.ord [2, 0, 1])
          rw [HM.out] at hsz
          have HSZ := Lib.hid hsz; have HT := Lib.hid T.below; clear hsz T
          go_wp2_with fail
          refine HSZ.out.mono ?_
          clear HSZ
          rintro e w11 ⟨rfl, rfl⟩
          go_wp2
          go_ret
          exact ⟨rfl, HT.out⟩
end Go.Proofs.Ytpganpiidgkofaa
