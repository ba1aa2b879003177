/- Several texts in one. -/
import Derived.Test.YtpganpiidgkofaaX34
import Derived.Test.YtpganpiidgkofaaX26
import Derived.Test.YtpganpiidgkofaaX32
/- The document's layer 12: a deed's way, a replica's greatest number. -/
namespace Go.Proofs.Ytpganpiidgkofaa
open Go.RowKit Go.Shelf
set_option linter.unusedVariables false
set_option maxRecDepth 20000
attribute [local go_sem] row_alloc row_drew row_drewN row_ext row_setCell row_setRow size_ext setRow_alloc setRow_drew loadOf storeOf piece_lit loadVal_at storeVal_at allOne_lit buildOf buildRes_some
attribute [local go_sem high] cell_alloc frozen_alloc setCell_alloc cell_ext frozen_ext cell_setRow frozen_setRow
attribute [local go_sem ↓] TDeed_ld0 TDeed_st0 TDeed_fd0 TDeed_bd0
attribute [local go_sem] TDeed_size TDeed_one TDeed_piece TDeed_c0 TDeed_c1 TDeed_c2 TDeed_c3 TDeed_c4 TDeed_c5 TDeed_set_kind TDeed_set_key TDeed_set_val TDeed_set_ver TDeed_set_ses TDeed_set_num TDeed_ld TDeed_st TDeed_f_kind TDeed_f_key TDeed_f_val TDeed_f_ver TDeed_f_ses TDeed_f_num TDeed_bd TDeed_fl TDeed_fl_kind TDeed_fl_key TDeed_fl_val TDeed_fl_ver TDeed_fl_ses TDeed_fl_num
attribute [local go_sem high] TDeed_eql TDeed_neq
attribute [local go_sem ↓] index_deps0 load_deps0 store_deps0
attribute [local go_sem] DV_piece DV_size DV_one index_deps load_deps store_deps
attribute [local go_sem high] TDeps_eql TDeps_neq
attribute [local go_sem ↓] TCall_ld0 TCall_st0 TCall_fd0 TCall_bd0
attribute [local go_sem] TCall_size TCall_one TCall_piece TCall_c0 TCall_c1 TCall_c2 TCall_c3 TCall_c4 TCall_c5 TCall_c6 TCall_c7 TCall_c8 TCall_c9 TCall_c10 TCall_c11 TCall_c12 TCall_c13 TCall_p_deed TCall_put_deed TCall_p_deps TCall_put_deps TCall_set_seq TCall_ld TCall_st TCall_f_deed TCall_f_deps TCall_f_seq TCall_bd TCall_fl TCall_fl_deed TCall_fl_deps TCall_fl_seq
attribute [local go_sem high] TCall_eql TCall_neq
attribute [local go_sem ↓] TItem_ld0 TItem_st0 TItem_fd0 TItem_bd0
attribute [local go_sem] TItem_size TItem_one TItem_piece TItem_c0 TItem_c1 TItem_set_rep TItem_set_num TItem_ld TItem_st TItem_f_rep TItem_f_num TItem_bd TItem_fl TItem_fl_rep TItem_fl_num
attribute [local go_sem high] TItem_eql TItem_neq
attribute [local go_sem ↓] TBallot_ld0 TBallot_st0 TBallot_fd0 TBallot_bd0
attribute [local go_sem] TBallot_size TBallot_one TBallot_piece TBallot_c0 TBallot_c1 TBallot_set_round TBallot_set_rep TBallot_ld TBallot_st TBallot_f_round TBallot_f_rep TBallot_bd TBallot_fl TBallot_fl_round TBallot_fl_rep
attribute [local go_sem high] TBallot_eql TBallot_neq
attribute [local go_sem ↓] TInst_ld0 TInst_st0 TInst_fd0 TInst_bd0
attribute [local go_sem] TInst_size TInst_one TInst_piece TInst_c0 TInst_c1 TInst_c2 TInst_c3 TInst_c4 TInst_c5 TInst_c6 TInst_c7 TInst_c8 TInst_c9 TInst_c10 TInst_c11 TInst_c12 TInst_c13 TInst_c14 TInst_c15 TInst_c16 TInst_c17 TInst_c18 TInst_c19 TInst_p_prom TInst_put_prom TInst_p_vote TInst_put_vote TInst_set_status TInst_p_call TInst_put_call TInst_set_same TInst_ld TInst_st TInst_f_prom TInst_f_vote TInst_f_status TInst_f_call TInst_f_same TInst_bd TInst_fl TInst_fl_prom TInst_fl_vote TInst_fl_status TInst_fl_call TInst_fl_same
attribute [local go_sem high] TInst_eql TInst_neq
theorem piece_part (cs X : Array Value) (o n p m : Nat) (h : piece cs o n = X) (hm : p + m ≤ n) : piece cs (o + p) m = piece X p m := by
  subst h
  unfold piece
  rw [Array.extract_extract]
  congr 1 <;> omega
theorem nv_call (i : Inst) : piece (NV i) 5 14 = CV i.call := rfl
noncomputable def topB (L : List Ent) (rep : Int) : Int := L.foldl (fun n e => if e.1.rep = rep then maxI n e.1.num else n) 0
theorem topB_snoc (L : List Ent) (e : Ent) (rep : Int) : topB (L ++ [e]) rep = if e.1.rep = rep then maxI (topB L rep) e.1.num else topB L rep := by unfold topB; rw [List.foldl_append]; rfl
theorem take_snoc {α : Type} {l : List α} {k : Nat} (h : k < l.length) : l.take (k + 1) = l.take k ++ [l[k]] := List.take_succ_eq_append_getElem h
set_option maxHeartbeats 4000000 in
theorem rtopR (b : Nat) (L : List Ent) (hL : L.length ≤ 1000000) (rep : Int) : Reads Try.prog 46 #[.pointer (some ⟨b, 0, none⟩), .int .i64 rep] [bookR b L] (.int .i64 (topB L rep)) := by
  intro W G hS
  obtain ⟨A, c, B, d, T0⟩ := (Sts.start hS).bookOpen
  obtain ⟨_, _, hv, hA, -, hAa⟩ := vec_rows KV_size T0.drop (by omega) (by omega)
  obtain ⟨rfl, -, rfl⟩ := Value.slice.inj hv; clear hv
  have rb := T0.row; have lb := row_lt rb; have cb := row_cell rb 0
  clear T0 hS
  go_enter Try.func46, Try.ntmps46
  go_wp2_with fail
  go_loopw [13, 5] (fun s n wr => ∃ k : Nat, k ≤ L.length ∧ s = .int .i64 k ∧ n = .int .i64 (topB (L.take k) rep) ∧ Sts W (fun _ => False) wr []) (fun s _ _ => L.length - (intOf s).toNat)
  case atStart => exact ⟨0, Nat.zero_le _, rfl, rfl, Sts.start0 W⟩
  case round =>
    clear rb lb cb
    obtain ⟨k, hk, rfl, rfl, T⟩ := hrel
    by_cases hk2 : k < L.length
    · cases A with
      | none => rw [hA.nil rfl] at hk2; simp at hk2
      | some a1 =>
        obtain ⟨ga, rfl⟩ := hAa a1 rfl
        have hld := hA.load (P := Try.prog) (T := 42) KV_size TItem_und rfl (by kernel_rfl) T.below rfl hk2
        rw [add_none, Nat.zero_add] at hld
        replace hld : loadVal Try.prog 42 2 wr (.pointer (some ⟨ga, k * 2, none⟩)) = .ok (.agg (IV L[k].1)) wr := hld
        have hk3 : (k : Int) < (L.length : Int) := by omega
        have hk0 : (0 : Int) ≤ (k : Int) := by omega
        have hts := topB_snoc (L.take k) L[k] rep
        rw [← take_snoc hk2] at hts
        generalize topB (L.take k) rep = n at *
        have T2 := T.new (IV L[k].1) 42
        have HT2 := Lib.hid T2; have HTS := Lib.hid hts; clear T T2 hts
        cases hr : (L[k].1.rep == rep)
        case false =>
          go_wp2
          go_roundw
          case rel => exact ⟨k + 1, by omega, by go_num, by rw [HTS.out, if_neg (by simpa using hr)], HT2.out.drop⟩
          case measure => simp [intOf]; omega
        case true =>
          have e1 := HTS.out
          rw [if_pos (by simpa using hr)] at e1
          have E1 := Lib.hid e1; clear e1 HTS
          go_wp2
          go_roundw
          case rel => exact ⟨k + 1, by omega, by go_num, by rw [E1.out]; rfl, HT2.out.drop⟩
          case measure => simp [intOf]; omega
    · obtain rfl : k = L.length := by omega
      rw [List.take_length]
      go_wp2
      go_ret
      exact ⟨rfl, T.below⟩
structure RWayM where
  out : Nat → Int
  seq : Int
noncomputable def rwayStep (d : Deed) (but : Item) (q : RWayM) (e : Ent) : RWayM :=
  if eqA (IV e.1) (IV but) = false ∧ clashB e.2.call.deed d = true then ⟨if e.1.num > q.out e.1.rep.toNat then upd q.out e.1.rep.toNat e.1.num else q.out, if e.2.call.seq ≥ q.seq then e.2.call.seq + 1 else q.seq⟩ else q
noncomputable def rwayM (d : Deed) (but : Item) (L : List Ent) : RWayM := L.foldl (rwayStep d but) ⟨fun _ => 0, 0⟩
theorem rwayM_snoc (d : Deed) (but : Item) (L : List Ent) (e : Ent) : rwayM d but (L ++ [e]) = rwayStep d but (rwayM d but L) e := by unfold rwayM; rw [List.foldl_append]; rfl
/-- What is asked of a book's entries here. -/
def WayIn (L : List Ent) : Prop := ∀ e ∈ L, (0 ≤ e.1.rep ∧ e.1.rep < 7) ∧ (0 ≤ e.2.call.seq ∧ e.2.call.seq ≤ 1099511627776) ∧ e.2.call.deed.key.size ≤ maxLen
theorem rway_no {d : Deed} {but : Item} {q : RWayM} {e : Ent} (h : ¬ (eqA (IV e.1) (IV but) = false ∧ clashB e.2.call.deed d = true)) : rwayStep d but q e = q := if_neg h
theorem rway_yes {d : Deed} {but : Item} {q : RWayM} {e : Ent} (h : eqA (IV e.1) (IV but) = false) (h2 : clashB e.2.call.deed d = true) : rwayStep d but q e = ⟨if e.1.num > q.out e.1.rep.toNat then upd q.out e.1.rep.toNat e.1.num else q.out, if e.2.call.seq ≥ q.seq then e.2.call.seq + 1 else q.seq⟩ := if_pos ⟨h, h2⟩
set_option maxHeartbeats 8000000 in
theorem rwayR (b : Nat) (L : List Ent) (hL : L.length ≤ 1000000) (hin : WayIn L) (d : Deed) (but : Item) (hdk : d.key.size ≤ maxLen) : Reads Try.prog 40 #[.pointer (some ⟨b, 0, none⟩), .agg (EV d), .agg (IV but)] [bookR b L] (.tuple #[.agg (DV (rwayM d but L).out), .int .i64 (lowI (rwayM d but L).seq 1099511627776)]) := by
  intro W G hS
  obtain ⟨A, c, B, cd, T0⟩ := (Sts.start hS).bookOpen
  obtain ⟨_, _, hv, hA, -, hAa⟩ := vec_rows KV_size T0.drop (by omega) (by omega)
  obtain ⟨rfl, -, rfl⟩ := Value.slice.inj hv; clear hv
  have hpk : 0 < L.length → ∃ gb cs, B = some ⟨gb, 0, none⟩ ∧ (∀ W' R, Sts W (fun _ => False) W' R → row? W' gb = some cs ∧ gb < W'.heap.size) ∧ ∀ j (hj : j < L.length), j * 20 + 5 + 14 ≤ cs.size ∧ piece cs (j * 20 + 5) 14 = CV L[j].2.call := fun h => by
    obtain ⟨gb, c1, cs, hv, hr, hlt, hp⟩ := vec_piece WV_size T0.drop.drop (by omega) h
    injection hv with hv
    refine ⟨gb, cs, hv, fun W' R T => ?_, fun j hj => ?_⟩
    · have r := (row_below T.below hlt).trans hr
      exact ⟨r, row_lt r⟩
    · obtain ⟨h1, h2⟩ := hp j hj
      refine ⟨by omega, ?_⟩
      rw [piece_part cs _ (j * 20) 20 5 14 h2 (by omega)]
      exact nv_call _
  have HPK := Lib.hid hpk; clear hpk
  have rb := T0.row; have lb := row_lt rb; have cb := row_cell rb 0
  have hrb : ∀ W' R, Sts W (fun _ => False) W' R → (W'.cell? ⟨b, 1, none⟩ = some (.slice B L.length cd) ∧ b < W'.heap.size) := fun W' R hb => by
    have r := (row_below hb.below (row_lt rb)).trans rb
    exact ⟨row_cell r 1, row_lt r⟩
  have HRB := Lib.hid hrb; clear hrb
  have HIN := Lib.hid hin; clear hin
  have T := (((Sts.start0 W).new (EV d) 33).new (IV but) 42).new (DV fun _ => 0) 35
  have T := T.new (DV fun _ => 0) 35
  simp only [World.size_alloc] at T
  have HT := Lib.hid T
  clear T0 hS T
  go_enter Try.func40, Try.ntmps40
  go_wp2_with fail
  generalize W.heap.size + 1 + 1 + 1 = g8 at *
  generalize W.heap.size + 1 + 1 = g6 at *
  generalize W.heap.size + 1 = g5 at *
  generalize hg4 : W.heap.size = g4 at *
  go_loopw [18, 9] (fun s n wr => ∃ k : Nat, k ≤ L.length ∧ s = .int .i64 k ∧ n = .int .i64 (rwayM d but (L.take k)).seq ∧ Sts W (fun _ => False) wr [rowR g8 (DV (rwayM d but (L.take k)).out), rowR g6 (DV fun _ => 0), rowR g5 (IV but), rowR g4 (EV d)]) (fun s _ _ => L.length - (intOf s).toNat)
  case atStart => exact ⟨0, Nat.zero_le _, rfl, rfl, HT.out⟩
  case round =>
    clear rb lb cb HT
    obtain ⟨k, hk, rfl, rfl, T⟩ := hrel
    by_cases hk2 : k < L.length
    · cases A with
      | none => rw [hA.nil rfl] at hk2; simp at hk2
      | some a1 =>
          obtain ⟨ga, rfl⟩ := hAa a1 rfl
          obtain ⟨gb, cs, rfl, hrow, hpc⟩ := HPK.out (by omega)
          obtain ⟨p1, p2⟩ := hpc k hk2
          clear hpc
          have HROW := Lib.hid hrow; clear hrow
          have hld := hA.load (P := Try.prog) (T := 42) KV_size TItem_und rfl (by kernel_rfl) T.below rfl hk2
          rw [add_none, Nat.zero_add] at hld
          replace hld : loadVal Try.prog 42 2 wr (.pointer (some ⟨ga, k * 2, none⟩)) = .ok (.agg (IV L[k].1)) wr := hld
          have hk3 : (k : Int) < (L.length : Int) := by omega
          have hk0 : (0 : Int) ≤ (k : Int) := by omega
          have hts := rwayM_snoc d but (L.take k) L[k]
          rw [← take_snoc hk2] at hts
          generalize rwayM d but (L.take k) = q at *
          have hin := HIN.out L[k] (List.getElem_mem hk2)
          have T2 := (T.new (IV L[k].1) 42).new (CV L[k].2.call) 37
          rw [World.size_alloc] at T2
          have Tn := T.new (IV L[k].1) 42
          obtain ⟨q1, q2⟩ := HRB.out _ _ Tn
          obtain ⟨p3, p4⟩ := HROW.out _ _ Tn
          have hk20 : (0 : Int) ≤ (k : Int) * 20 := by omega
          have HTS := Lib.hid hts; have HT2 := Lib.hid T2; have HI := Lib.hid hin
          clear T T2 hts hin Tn
          go_upto_region 7 with fail
          clear q1 q2 hld p1 p2 p3 p4 hk20
          generalize (wr.alloc _).alloc _ = w2 at *
          generalize L[k] = e at *
          generalize wr.heap.size + 1 = gc at *
          generalize wr.heap.size = gx at *
          have r5 := HT2.out.row4; have l5 := row_lt r5
          have rx := HT2.out.row1; have lx := row_lt rx
          have rc := HT2.out.row; have lc := row_lt rc
          have r4 := (HT2.out.ord [5, 0, 1, 2, 3, 4]).row; have l4 := row_lt r4
          cases he : eqA (IV e.1) (IV but)
          case true =>
            have e1 := HTS.out
            rw [rway_no (by simp [he])] at e1
            have E1 := Lib.hid e1; clear e1 HTS
            go_wp2
            go_roundw
            case rel => exact ⟨k + 1, by omega, by go_num, by rw [E1.out], by rw [E1.out]; exact HT2.out.drop.drop⟩
            case measure => simp [intOf]; omega
          case false =>
            have hcl := rclash_any e.2.call.deed d HI.out.2.2 hdk
            have HCL := Lib.hid hcl; clear hcl
            go_wp2_with fail
            refine (Ans.at HCL.out HT2.out).mono ?_
            clear HT2 HCL r5 l5 rx lx rc lc r4 l4
            rintro en w3 ⟨rfl, T⟩
            have HT2 := Lib.hid T; clear T
            cases hc : clashB e.2.call.deed d
            case false =>
              have e1 := HTS.out
              rw [rway_no (by simp [hc])] at e1
              have E1 := Lib.hid e1; clear e1 HTS
              go_wp2
              go_roundw
              case rel => exact ⟨k + 1, by omega, by go_num, by rw [E1.out], by rw [E1.out]; exact HT2.out.drop.drop⟩
              case measure => simp [intOf]; omega
            case true =>
              have e1 := HTS.out
              rw [rway_yes he hc] at e1
              have E1 := Lib.hid e1; clear e1 HTS
              have hrep := HI.out.1; have hseq := HI.out.2.1
              have rx := HT2.out.row1; have lx := row_lt rx; have cx0 := row_cell rx 0; have cx1 := row_cell rx 1
              have r8 := HT2.out.row2; have l8 := row_lt r8; have c8 := row_cell r8 e.1.rep.toNat
              rw [DV_get _ _ (by omega)] at c8
              have rc := HT2.out.row; have lc := row_lt rc; have cc := row_cell rc 13
              go_upto_region 8 with fail
              go_region
              have hw : IntKind.i64.wrap (e.2.call.seq + 1) = e.2.call.seq + 1 := by rw [IntKind.wrap_i64]; omega
              cases hgt : decide (e.1.num > q.out e.1.rep.toNat)
              case false =>
                have hgt' : ¬ e.1.num > q.out e.1.rep.toNat := by simpa using hgt
                rw [if_neg hgt'] at E1
                cases hge : decide (e.2.call.seq ≥ q.seq)
                case false =>
                  have hge' : ¬ e.2.call.seq ≥ q.seq := by simpa using hge
                  rw [if_neg hge'] at E1
                  clear hgt' hge'
                  go_wp2
                  go_roundw
                  case rel => exact ⟨k + 1, by omega, by go_num, by rw [E1.out], by rw [E1.out]; exact HT2.out.drop.drop.drewN _⟩
                  case measure => simp [intOf]; omega
                case true =>
                  have hge' : e.2.call.seq ≥ q.seq := by simpa using hge
                  rw [if_pos hge'] at E1
                  clear hgt' hge'
                  go_wp2
                  go_roundw
                  case rel => exact ⟨k + 1, by omega, by go_num, by rw [E1.out], by rw [E1.out]; exact HT2.out.drop.drop.drewN _⟩
                  case measure => simp [intOf]; omega
              case true =>
                have hgt' : e.1.num > q.out e.1.rep.toNat := by simpa using hgt
                rw [if_pos hgt'] at E1
                clear hgt'
                have f8 := row_frozen r8 e.1.rep.toNat
                go_upto_region 10 with fail
                refine (fun (key : ∀ w5, Sts W (fun _ => False) w5 [rowR gc (CV e.2.call), rowR gx (IV e.1), rowR g8 (DV (upd q.out e.1.rep.toNat e.1.num)), rowR g6 (DV fun _ => 0), rowR g5 (IV but), rowR g4 (EV d)] → Code.wp _ _ _ _ w5) => key _ ?_) ?_
                · have T5 : ∀ n, Sts W (fun _ => False) ((w3.drewN n).setCell ⟨g8, e.1.rep.toNat, none⟩ (.int .i64 e.1.num)) [rowR gc (CV e.2.call), rowR gx (IV e.1), rowR g8 (DV (upd q.out e.1.rep.toNat e.1.num)), rowR g6 (DV fun _ => 0), rowR g5 (IV but), rowR g4 (EV d)] := fun n => by
                    have T5 := ((HT2.out.drewN n).ord [2, 0, 1, 3, 4, 5]).setCell e.1.rep.toNat (.int .i64 e.1.num)
                    rw [DV_set] at T5
                    exact T5.ord [1, 2, 0, 3, 4, 5]
                  exact T5 _
                clear HT2 rx lx cx0 cx1 r8 l8 c8 f8 rc lc cc
                intro w5 T5
                have HT5 := Lib.hid T5
                have rc := T5.row; have lc := row_lt rc; have cc := row_cell rc 13
                clear T5
                cases hge : decide (e.2.call.seq ≥ q.seq)
                case false =>
                  have hge' : ¬ e.2.call.seq ≥ q.seq := by simpa using hge
                  rw [if_neg hge'] at E1
                  clear hge'
                  go_wp2
                  go_roundw
                  case rel => exact ⟨k + 1, by omega, by go_num, by rw [E1.out], by rw [E1.out]; exact HT5.out.drop.drop⟩
                  case measure => simp [intOf]; omega
                case true =>
                  have hge' : e.2.call.seq ≥ q.seq := by simpa using hge
                  rw [if_pos hge'] at E1
                  clear hge'
                  go_wp2
                  go_roundw
                  case rel => exact ⟨k + 1, by omega, by go_num, by rw [E1.out], by rw [E1.out]; exact HT5.out.drop.drop⟩
                  case measure => simp [intOf]; omega
    · obtain rfl : k = L.length := by omega
      rw [List.take_length] at T ⊢
      generalize hq : rwayM d but L = q at T ⊢
      have HQ := Lib.hid hq; clear hq
      have r8 := T.row; have l8 := row_lt r8
      have r6 := T.row1; have l6 := row_lt r6
      have T6 := (T.ord [1, 0, 2, 3]).setRow (DV q.out)
      have HT6 := Lib.hid T6; clear T T6
      by_cases hlo : (1099511627776 : Int) < q.seq
      · have e : lowI q.seq 1099511627776 = 1099511627776 := if_pos hlo
        have HE := Lib.hid e; clear e
        go_wp2
        refine ret_row_tmp (DV q.out) (.int .i64 1099511627776) Try.underlying35 rfl (by kernel_rfl) rfl rfl rfl rfl (DV_size _) HT6.out.row ⟨by rw [HQ.out, HE.out], by first | exact HT6.out.below | (rw [← hg4]; exact HT6.out.below)⟩
      · have e : lowI q.seq 1099511627776 = q.seq := if_neg hlo
        have HE := Lib.hid e; clear e
        go_wp2
        refine ret_row_tmp (DV q.out) (.int .i64 q.seq) Try.underlying35 rfl (by kernel_rfl) rfl rfl rfl rfl (DV_size _) HT6.out.row ⟨by rw [HQ.out, HE.out], by first | exact HT6.out.below | (rw [← hg4]; exact HT6.out.below)⟩
end Go.Proofs.Ytpganpiidgkofaa
/- Layer 12, plain: a space and a book, whatever happens. No walk stands here. -/
namespace Go.Proofs.Ytpganpiidgkofaa
open Go.RowKit
set_option linter.unusedVariables false
attribute [local instance 10] Classical.propDecidable
theorem add_len {D : List UInt8} {safe : Nat} {m : RowsM} (x : Item) (i : Inst) (h : D.length ≤ 65536) : (addM D safe m x i).1.length ≤ 65536 := by
  have ht : ∀ k, (tightP D safe m k).1.length ≤ 65536 := fun k => by
    unfold tightP tidyP
    split
    · split
      · assumption
      · exact h
    · exact h
  unfold addM
  split
  · split
    · split
      · rw [List.length_append]; assumption
      · exact ht _
    · exact ht _
  · exact h
theorem add_rows {D : List UInt8} {safe : Nat} {m : RowsM} (x : Item) (i : Inst) : ((addM D safe m x i).2.2.2 = 0 ∧ (addM D safe m x i).2.2.1 = setM m x i) ∨ ((addM D safe m x i).2.2.2 ≠ 0 ∧ (addM D safe m x i).2.2.1 = m) := by
  unfold addM
  split
  · split
    · split
      · exact .inl ⟨rfl, rfl⟩
      · exact .inr ⟨by simp, rfl⟩
    · rename_i h
      exact .inr ⟨h, rfl⟩
  · exact .inr ⟨by simp, rfl⟩
/-- A row's last place holds something. -/
def Topped (m : RowsM) : Prop := ∀ r k, (m.f r).length = k + 1 → ∃ t, (m.f r)[k]? = some (some t)
theorem Topped.new (n : Int) : Topped ⟨n, fun _ => []⟩ := fun r k h => by simp at h
theorem putL_top {l : List (Option Inst)} {i k : Nat} {t : Inst} (hl : ∀ k, l.length = k + 1 → ∃ t, l[k]? = some (some t)) (h : (putL l i t).length = k + 1) : ∃ u, (putL l i t)[k]? = some (some u) := by
  have hlen := putL_len l i t
  unfold putL at h ⊢
  rw [List.getElem?_set]
  by_cases e : i = k
  · subst e
    rw [if_pos rfl, if_pos (by rw [List.length_set] at h; omega)]
    exact ⟨t, rfl⟩
  · rw [if_neg e]
    have hk : l.length = k + 1 := by
      unfold putL at hlen
      omega
    obtain ⟨u, hu⟩ := hl k hk
    rw [List.getElem?_append_left (by omega)]
    exact ⟨u, hu⟩
theorem Topped.set {m : RowsM} (h : Topped m) (x : Item) (t : Inst) : Topped (setM m x t) := fun r k hk => by
  unfold setM at hk ⊢
  split at hk
  · rename_i hg
    rw [if_pos hg]
    dsimp only at hk ⊢
    by_cases e : r = x.rep.toNat
    · subst e
      rw [updF_same] at hk ⊢
      exact putL_top (h _) hk
    · rw [updF_other _ _ e] at hk ⊢
      exact h r k hk
  · rename_i hg
    rw [if_neg hg]
    exact h r k hk
theorem mK_topped (n : Int) : ∀ (ts : List (Nat × List UInt8)) (m : RowsM), Topped m → Topped (ts.foldl (fun m t => setM m (readS ⟨t.2, false⟩).1 (readS ⟨t.2, false⟩).2.1) m)
  | [], m, h => h
  | t :: ts, m, h => mK_topped n ts _ (h.set _ _)
/-- A space that goes well: its places, its plate's bytes, its rows. -/
structure SpI (n : Int) (k : Nat) (I : Idx) (D : List UInt8) (m : RowsM) : Prop where
  mn : m.n = n
  ok : RowsOk m
  good : RowsGood m
  len : D.length ≤ 65536
  idx : IdxOk I
  N : I.N ≤ 1000 + k
  cov : IdxCov I m
  tp : Topped m
theorem SpI.know {n : Int} {k : Nat} {I : Idx} {D : List UInt8} {m : RowsM} (h : SpI n k I D m) (hk : k ≤ 1000) (safe : Nat) (x : Item) (i : Inst) : SpI n (k + 1) (knowI I D safe m x i) (addM D safe m x i).1 (addM D safe m x i).2.2.1 := by
  have hl := add_len (safe := safe) (m := m) x i h.len
  have hN := h.N
  rcases add_rows (D := D) (safe := safe) (m := m) x i with ⟨h0, hm⟩ | ⟨h0, hm⟩
  · obtain ⟨hgi, hgn⟩ := addM_good h0
    have e : knowI I D safe m x i = if eqA (EV (wasM m x)) (EV i.call.deed) = false then findM I x i.call.deed else I := by
      unfold knowI
      by_cases hd : eqA (EV (wasM m x)) (EV i.call.deed) = false
      · rw [if_pos ⟨h0, hd⟩, if_pos hd]
      · rw [if_neg (fun h => hd h.2), if_neg hd]
    rw [hm, e]
    by_cases hd : eqA (EV (wasM m x)) (EV i.call.deed) = false
    · rw [if_pos hd]
      obtain ⟨h1, h2⟩ := h.idx.find (x := x) (d := i.call.deed) (by omega)
      exact ⟨by rw [setM_n]; exact h.mn, h.ok.set _ _, h.good.set hgi hgn, hl, h1, by omega, h.cov.find i hgi, h.tp.set _ _⟩
    · rw [if_neg hd]
      have hde : wasM m x = i.call.deed := EV_inj (eqA_iff.1 (by simpa using hd))
      exact ⟨by rw [setM_n]; exact h.mn, h.ok.set _ _, h.good.set hgi hgn, hl, h.idx, by omega, h.cov.same i hgi hde, h.tp.set _ _⟩
  · have e : knowI I D safe m x i = I := by unfold knowI; rw [if_neg (fun h => h0 h.1)]
    rw [hm, e]
    exact ⟨h.mn, h.ok, h.good, hl, h.idx, by omega, h.cov, h.tp⟩
theorem openD_len {n : Int} {D : List UInt8} (h : D.length ≤ 65536) : (openD n D).length ≤ 65536 := by
  unfold openD
  split
  · rw [List.length_take]; omega
  · exact h
theorem SpI.open {n : Int} (hn : 0 ≤ n ∧ n ≤ 7) {D : List UInt8} (h : D.length ≤ 65536) (k : Nat) : SpI n k (idxF (ents (mK n (goT n D)))) (openD n D) (mK n (goT n D)) := by
  have hr := mK_rows hn D
  have hl := ents_len hr.1
  obtain ⟨h1, h2⟩ := idxF_ok _ (ents (mK n (goT n D))) rfl (by omega)
  exact ⟨mK_n _ _, hr.1, hr.2, openD_len h, h1, by omega, IdxCov.ents hr.1, mK_topped n _ _ (Topped.new n)⟩
theorem SpI.mono {n : Int} {k j : Nat} {I : Idx} {D : List UInt8} {m : RowsM} (h : SpI n k I D m) (hk : k ≤ j) : SpI n j I D m := ⟨h.mn, h.ok, h.good, h.len, h.idx, by have := h.N; omega, h.cov, h.tp⟩
/-- A book that knows what rows know. -/
structure BookI (B : List Ent) (m : RowsM) : Prop where
  keys : (B.map Prod.fst).Pairwise (· ≠ ·)
  get : ∀ x, getB B x = getM m x
theorem BookI.new (n : Int) : BookI [] ⟨n, fun _ => []⟩ := ⟨by simp, fun x => (getM_new n x).symm⟩
theorem BookI.set {B : List Ent} {m : RowsM} (h : BookI B m) {x : Item} (i : Inst) (hx : goodI x m.n = true) : BookI (setB B x i) (setM m x i) := by
  refine ⟨?_, fun y => ?_⟩
  · rw [setB_keys]
    split
    · exact h.keys
    · rename_i hn
      rw [List.pairwise_append]
      exact ⟨h.keys, by simp, fun a ha b hb e2 => by simp at hb; subst hb; exact hn (e2 ▸ ha)⟩
  · rw [getB_set]
    split
    · rename_i e; subst e; rw [getM_set_same i hx]
    · rename_i e; rw [getM_set_other i hx e, h.get]
theorem BookI.ents {m : RowsM} (hm : RowsOk m) : BookI (ents m) m := by
  have hk := ents_keys hm
  refine ⟨hk, fun x => ?_⟩
  cases hg : getM m x with
  | some t => exact mem_getB hk (ents_has hm hg)
  | none =>
    cases hb : getB (Go.Proofs.Ytpganpiidgkofaa.ents m) x with
    | none => rfl
    | some t =>
      have := ents_mem (getB_mem hb)
      rw [hg] at this; cases this
theorem BookI.mem {B : List Ent} {m : RowsM} (h : BookI B m) {e : Ent} (he : e ∈ B) : getM m e.1 = some e.2 := by rw [← h.get]; exact mem_getB h.keys he
theorem BookI.len {B : List Ent} {m : RowsM} (h : BookI B m) (hm : RowsOk m) : B.length ≤ 448 := by
  have h1 := ents_len hm
  have := len_le_of_sub (a := B.map Prod.fst) (b := (Go.Proofs.Ytpganpiidgkofaa.ents m).map Prod.fst) h.keys fun x hx => by
    obtain ⟨e, he, rfl⟩ := List.mem_map.1 hx
    exact (ents_key hm e.1).2 (by rw [h.mem he]; rfl)
  simp at this
  omega
theorem BookI.way {B : List Ent} {m : RowsM} (h : BookI B m) (hm : RowsOk m) (hg : RowsGood m) : WayIn B := fun e he => by
  have h1 := h.mem he
  have h2 := getM_good h1
  unfold goodI at h2
  rw [decide_eq_true_iff] at h2
  have hn := hm.n
  refine ⟨by omega, seq_good hg h1, ?_⟩
  have := (goodN_in (hg _ _ h1) hm.n.2).call.deed.txt
  unfold maxLen; omega
/-- A replica's greatest number goes by what is known. -/
theorem top_K {B : List Ent} {m : RowsM} (h : BookI B m) (hm : RowsOk m) (ht : Topped m) (rep : Int) : topB B rep = topM m rep := by
  have e : ∀ (n : Nat) (L : List Ent), L.length = n → (∀ e ∈ L, 0 ≤ e.1.num) → topB L rep = mx (fun e : Ent => if e.1.rep = rep then e.1.num else 0) L := by
    intro n
    induction n with
    | zero =>
      intro L hL _
      have : L = [] := List.eq_nil_of_length_eq_zero hL
      subst this; rfl
    | succ n ih =>
      intro L hL hp
      have hne : L ≠ [] := by rintro rfl; simp at hL
      have i1 := ih L.dropLast (by simp; omega) (fun e he => hp e ((List.dropLast_sublist L).subset he))
      have hd := List.dropLast_concat_getLast hne
      generalize L.dropLast = p at *
      generalize L.getLast hne = e at *
      subst hd
      rw [topB_snoc, mx_snoc, ← i1]
      have h0 := mx_nonneg (fun e : Ent => if e.1.rep = rep then e.1.num else 0) p
      rw [← i1] at h0
      split
      · rfl
      · unfold maxI; rw [if_neg (by omega)]
  have hgood : ∀ e ∈ B, goodI e.1 m.n = true := fun e he => getM_good (h.mem he)
  have hin : ∀ e ∈ B, 0 ≤ e.1.rep ∧ e.1.rep < m.n ∧ 1 ≤ e.1.num ∧ e.1.num ≤ 64 := fun e he => by
    have := hgood e he
    unfold goodI at this
    rw [decide_eq_true_iff] at this
    omega
  rw [e _ B rfl (fun e he => by have := hin e he; omega)]
  have hle : mx (fun e : Ent => if e.1.rep = rep then e.1.num else 0) B ≤ topM m rep := mx_le (hm.top rep).1 fun b hb => by
    split
    · rename_i hr
      have hg := hin b hb
      have h1 := h.mem hb
      obtain ⟨⟨br, bn⟩, bi⟩ := b
      simp only at hr hg h1 ⊢
      subst hr
      by_cases hlt : topM m br < bn
      · have h2 := getM_top (m := m) (r := br.toNat) (k := (bn - 1).toNat) (by rw [show ((br.toNat : Nat) : Int) = br by omega]; omega)
        rw [show (⟨((br.toNat : Nat) : Int), (((bn - 1).toNat : Nat) : Int) + 1⟩ : Item) = ⟨br, bn⟩ by congr 1 <;> omega, h1] at h2
        cases h2
      · omega
    · exact (hm.top rep).1
  by_cases hr : 0 ≤ rep ∧ rep < m.n
  · have htm : topM m rep = ((m.f rep.toNat).length : Int) := by unfold topM; rw [if_pos hr]
    cases hl : (m.f rep.toNat).length with
    | zero =>
      rw [hl] at htm
      have := mx_nonneg (fun e : Ent => if e.1.rep = rep then e.1.num else 0) B
      omega
    | succ k =>
      obtain ⟨t, htt⟩ := ht rep.toNat k hl
      have h64 := hm.len rep.toNat
      have hget : getM m ⟨rep, (k : Int) + 1⟩ = some t := by
        unfold getM
        rw [if_pos (by unfold goodI; rw [decide_eq_true_iff]; simp only; omega)]
        simp only
        rw [show ((k : Int) + 1).toNat - 1 = k by omega, htt]
        rfl
      rw [← h.get] at hget
      have hmem := getB_mem hget
      have h1 : (fun e : Ent => if e.1.rep = rep then e.1.num else 0) (⟨rep, (k : Int) + 1⟩, t) ≤ mx (fun e : Ent => if e.1.rep = rep then e.1.num else 0) B := mx_ge hmem
      simp only at h1
      rw [htm, hl] at hle ⊢
      simp at h1
      omega
  · have htm : topM m rep = 0 := by unfold topM; rw [if_neg hr]
    have := mx_nonneg (fun e : Ent => if e.1.rep = rep then e.1.num else 0) B
    omega
/-- The document's way goes by what is known. -/
theorem rway_K {B : List Ent} {m : RowsM} (h : BookI B m) (hm : RowsOk m) (hg : RowsGood m) (d : Deed) (but : Item) :
    DV (rwayM d but B).out = DV (wayK m d but).out ∧ lowI (rwayM d but B).seq 1099511627776 = (wayK m d but).seq := by
  have key : ∀ (n : Nat) (L : List Ent), L.length = n → (∀ e ∈ L, getM m e.1 = some e.2) → 0 ≤ (rwayM d but L).seq ∧ (∀ r, (rwayM d but L).out r = (wayG (getM m) d but (L.map Prod.fst)).out r) ∧ lowI (rwayM d but L).seq 1099511627776 = (wayG (getM m) d but (L.map Prod.fst)).seq := by
    intro n
    induction n with
    | zero =>
      intro L hL _
      have : L = [] := List.eq_nil_of_length_eq_zero hL
      subst this
      exact ⟨Int.le_refl _, fun r => rfl, rfl⟩
    | succ n ih =>
      intro L hL hk
      have hne : L ≠ [] := by rintro rfl; simp at hL
      obtain ⟨i0, i1, i2⟩ := ih L.dropLast (by simp; omega) (fun e he => hk e ((List.dropLast_sublist L).subset he))
      have hlast := hk (L.getLast hne) (List.getLast_mem hne)
      have hd := List.dropLast_concat_getLast hne
      generalize L.dropLast = p at *
      generalize L.getLast hne = e at *
      subst hd
      rw [rwayM_snoc, List.map_append]
      show _ ∧ (∀ r, _ = mx (outG (getM m) d but r) (p.map Prod.fst ++ [e.1])) ∧ _ = mx (seqG (getM m) d but) (p.map Prod.fst ++ [e.1])
      have j2 : lowI (rwayM d but p).seq 1099511627776 = mx (seqG (getM m) d but) (p.map Prod.fst) := i2
      have j1 : ∀ r, (rwayM d but p).out r = mx (outG (getM m) d but r) (p.map Prod.fst) := i1
      have hsg := seq_good hg hlast
      have hgi := getM_good hlast
      unfold goodI at hgi
      rw [decide_eq_true_iff] at hgi
      have hmn := hm.n
      have hdef : (getM m e.1).getD noInst = e.2 := by rw [hlast]; rfl
      by_cases hh : hitG (getM m) d but e.1
      · have hst : rwayStep d but (rwayM d but p) e = ⟨if e.1.num > (rwayM d but p).out e.1.rep.toNat then upd (rwayM d but p).out e.1.rep.toNat e.1.num else (rwayM d but p).out, if e.2.call.seq ≥ (rwayM d but p).seq then e.2.call.seq + 1 else (rwayM d but p).seq⟩ := by
          refine if_pos ?_
          have := hh
          unfold hitG at this
          rw [hdef] at this
          exact this
        rw [hst]
        refine ⟨?_, fun r => ?_, ?_⟩
        · dsimp only; split <;> omega
        · rw [mx_snoc, ← j1 r]
          dsimp only
          unfold outG maxI
          by_cases hr : r = e.1.rep.toNat
          · rw [if_pos (show hitG (getM m) d but e.1 ∧ e.1.rep = (r : Int) from ⟨hh, by omega⟩)]
            subst hr
            split
            · unfold upd; rw [if_pos rfl]
            · rfl
          · rw [if_neg (show ¬ (hitG (getM m) d but e.1 ∧ e.1.rep = (r : Int)) from fun h => hr (by omega))]
            have h0 := mx_nonneg (outG (getM m) d but r) (p.map Prod.fst)
            rw [← j1 r] at h0
            rw [if_neg (show ¬ (0 : Int) > (rwayM d but p).out r by omega)]
            split
            · unfold upd; rw [if_neg hr]
            · rfl
        · rw [mx_snoc, ← j2]
          dsimp only
          unfold seqG
          rw [if_pos hh, hdef]
          generalize (rwayM d but p).seq = q at *
          unfold lowI maxI
          (repeat' split) <;> omega
      · have hst : rwayStep d but (rwayM d but p) e = rwayM d but p := by
          refine if_neg ?_
          have := hh
          unfold hitG at this
          rw [hdef] at this
          exact this
        rw [hst]
        refine ⟨i0, fun r => ?_, ?_⟩
        · rw [mx_snoc, ← j1 r]
          have h0 := mx_nonneg (outG (getM m) d but r) (p.map Prod.fst)
          rw [← j1 r] at h0
          unfold outG maxI
          rw [if_neg (show ¬ (hitG (getM m) d but e.1 ∧ e.1.rep = (r : Int)) from fun h => hh h.1), if_neg (by omega)]
        · rw [mx_snoc, ← j2]
          have h0 := mx_nonneg (seqG (getM m) d but) (p.map Prod.fst)
          rw [← j2] at h0
          unfold seqG
          rw [if_neg hh]
          unfold maxI
          rw [if_neg (by omega)]
  obtain ⟨_, k1, k2⟩ := key _ B rfl (fun e he => h.mem he)
  have hrows : wayG (getM m) d but (B.map Prod.fst) = wayK m d but := by
    refine wayG_rows (fun x hx hh => ?_) (fun x hx hh => ?_)
    · obtain ⟨i, hi⟩ := hit_some hh
      exact (ents_key hm x).2 (by rw [hi]; rfl)
    · obtain ⟨i, hi⟩ := hit_some hh
      rw [← h.get] at hi
      exact List.mem_map.2 ⟨_, getB_mem hi, rfl⟩
  rw [hrows] at k1 k2
  exact ⟨by rw [show (rwayM d but B).out = (wayK m d but).out from funext k1], k2⟩
end Go.Proofs.Ytpganpiidgkofaa
