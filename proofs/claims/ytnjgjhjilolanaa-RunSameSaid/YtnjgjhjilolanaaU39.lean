/- Several texts in one. -/
import Derived.Test.YtnjgjhjilolanaaU35
import Derived.Test.YtnjgjhjilolanaaU38
import Derived.Test.YtnjgjhjilolanaaU30
import Derived.Test.YtnjgjhjilolanaaU33
/- RunSame: two runs in which the same is committed in the end have done the same, in the same order of what waits for one another. -/
namespace Go.Proofs.Ytnjgjhjilolanaa
open Go.RowKit Go.Shelf
set_option linter.unusedVariables false
set_option maxRecDepth 20000
attribute [local go_sem] Oper.semAt_some
attribute [local go_sem] row_alloc row_drew row_drewN row_ext row_setCell row_setRow size_ext setRow_alloc setRow_drew loadOf storeOf piece_lit loadVal_at storeVal_at allOne_lit buildOf buildRes_some
attribute [local go_sem high] cell_alloc frozen_alloc setCell_alloc cell_ext frozen_ext cell_setRow frozen_setRow
attribute [local go_sem ↓] TDeed_ld0 TDeed_st0 TDeed_fd0 TDeed_bd0
attribute [local go_sem] TDeed_size TDeed_one TDeed_piece TDeed_c0 TDeed_c1 TDeed_c2 TDeed_c3 TDeed_c4 TDeed_c5 TDeed_set_kind TDeed_set_key TDeed_set_val TDeed_set_ver TDeed_set_ses TDeed_set_num TDeed_ld TDeed_st TDeed_f_kind TDeed_f_key TDeed_f_val TDeed_f_ver TDeed_f_ses TDeed_f_num TDeed_bd TDeed_fl TDeed_fl_kind TDeed_fl_key TDeed_fl_val TDeed_fl_ver TDeed_fl_ses TDeed_fl_num
attribute [local go_sem high] TDeed_eql TDeed_neq
attribute [local go_sem ↓] index_deps0 load_deps0 store_deps0
attribute [local go_sem] DV_piece DV_size DV_one index_deps load_deps store_deps
attribute [local go_sem high] TDeps_eql TDeps_neq
attribute [local go_sem ↓] TCall_ld0 TCall_st0 TCall_fd0 TCall_bd0
attribute [local go_sem] TCall_size TCall_one TCall_piece TCall_c0 TCall_c1 TCall_c2 TCall_c3 TCall_c4 TCall_c5 TCall_c6 TCall_c7 TCall_c8 TCall_c9 TCall_c10 TCall_c11 TCall_c12 TCall_c13 TCall_p_deed TCall_put_deed TCall_p_deps TCall_put_deps TCall_set_seq TCall_ld TCall_st TCall_f_deed TCall_f_deps TCall_f_seq TCall_bd TCall_fl TCall_fl_deed TCall_fl_deps TCall_fl_seq
attribute [local go_sem high] TCall_eql TCall_neq
attribute [local go_sem ↓] TItem_ld0 TItem_st0 TItem_fd0 TItem_bd0
attribute [local go_sem] TItem_size TItem_one TItem_piece TItem_c0 TItem_c1 TItem_set_rep TItem_set_num TItem_ld TItem_st TItem_f_rep TItem_f_num TItem_bd TItem_fl TItem_fl_rep TItem_fl_num
attribute [local go_sem high] TItem_eql TItem_neq
attribute [local go_sem ↓] TRStep_ld0 TRStep_st0 TRStep_fd0 TRStep_bd0
attribute [local go_sem] TRStep_size TRStep_one TRStep_piece TRStep_c0 TRStep_c1 TRStep_c2 TRStep_c3 TRStep_c4 TRStep_c5 TRStep_c6 TRStep_c7 TRStep_c8 TRStep_c9 TRStep_c10 TRStep_c11 TRStep_c12 TRStep_c13 TRStep_c14 TRStep_c15 TRStep_c16 TRStep_p_item TRStep_put_item TRStep_p_call TRStep_put_call TRStep_set_goes TRStep_ld TRStep_st TRStep_f_item TRStep_f_call TRStep_f_goes TRStep_bd TRStep_fl TRStep_fl_item TRStep_fl_call TRStep_fl_goes
attribute [local go_sem high] TRStep_eql TRStep_neq
attribute [local go_sem ↓] itm_slice0 cll_slice0 doc_build0
attribute [local go_sem] itm_slice1 cll_slice1 doc_build mkMapW
def BLV (b : Bool) : Array Value := #[.bool b]
/-- A step's item, and call, in memory. -/
theorem step_item {w W : World} {a : Addr} {l : List RStep} {k : Nat} {s : RStep} (h : RowsIn w (some a) 17 RSV l) (hb : Below w.heap.size w W) (hs : l[k]? = some s) : loadVal Try.prog 35 2 W (.pointer (some (a.add (k * 17)))) = .ok (.agg (IV s.item)) W := by
  obtain ⟨hk, rfl⟩ := List.getElem?_eq_some_iff.1 hs
  rw [← load_val TItem_und rfl (by kernel_rfl)]
  refine loadAt_cells W _ _ (fun i v hv => ?_) TItem_und rfl (by kernel_rfl)
  have hi : i < 2 := (Array.getElem?_eq_some_iff.1 hv).1
  have hc := h.cell a rfl k hk i v (by
    match i, hi with
    | 0, _ => exact hv
    | 1, _ => exact hv)
  exact (hb.cell (World.block_lt_of_cell? w _ hc)).trans hc
section
variable {w W : World} {F : Nat → Prop} {R : List Res}
theorem deps_at19 {gcs k cc : Nat} {vc : Value} {calls : List Call} (T : Sts w F W (vecR 47 14 vc calls.length (vl CV calls) :: R)) (hl : calls.length ≤ 1000000) {c : Call} (hc : calls[k]? = some c) : ∃ g cp, vc = .slice (some ⟨g, 0, none⟩) calls.length cp ∧ loadVal Try.prog 45 7 W (.pointer (some ⟨g, k * 14 + 6, none⟩)) = .ok (.agg (DV c.deps)) W := by
  obtain ⟨hk, rfl⟩ := List.getElem?_eq_some_iff.1 hc
  obtain ⟨A, cp, rfl, hA, -, h0⟩ := vec_rows TCall_size T (by omega) (by omega)
  cases A with
  | none => have := hA.nil rfl; rw [this] at hk; simp at hk
  | some a =>
    obtain ⟨g, rfl⟩ := h0 a rfl
    refine ⟨g, cp, rfl, ?_⟩
    rw [loadVal_at]
    refine hA.part (P := Try.prog) (T := 45) (Below.refl _ _) hk 6 7 (DV calls[k].deps) (fun i v hv => ?_) rfl Try.underlying45 rfl (by kernel_rfl)
    have hi : i < 7 := (Array.getElem?_eq_some_iff.1 hv).1
    rw [DV_get _ i hi] at hv
    rw [TCall_deps _ i hi]
    exact hv
set_option maxHeartbeats 32000000 in
theorem law_same (n : Int) (A : Option Addr) (c : Nat) (l : List RStep) (at_ : Int) (Ag : Option Addr) (cg : Nat) (lg : List Bool) (W : World) (hl : RowsIn W A 17 RSV l) (hg : RowsIn W Ag 1 BLV lg) :
    Calls Try.prog 6 #[.int .i64 n, .slice A l.length c, .int .i64 at_, .slice Ag lg.length cg] W fun e W' => e = .returned (.bool true) ∧ Below W.heap.size W W' := by
  have hlen := hl.len
  have hleng := hg.len
  have HL := Lib.hid hl; have HGL := Lib.hid hg; clear hl hg
  have T := Sts.start0 W
  have HAL := Lib.hid (alive19 T)
  clear T
  go_enter Try.func6, Try.ntmps6
  go_wp2_with fail
  refine HAL.out.mono ?_
  clear HAL
  rintro e1 w1 ⟨rfl, T⟩
  have HT := Lib.hid T; clear T
  obtain ⟨gb, hgb⟩ : ∃ v, v = greatG n l.length := ⟨_, rfl⟩
  have HG := Lib.hid (fun w => great19 n A l.length c (by omega) w)
  rw [← hgb] at HG
  have HGB := Lib.hid hgb; clear hgb
  go_wp2_with fail
  refine (HG.out _).mono ?_
  clear HG
  rintro e2 w2 ⟨rfl, rfl⟩
  cases gb
  case true =>
    go_wp2
    go_ret
    exact ⟨rfl, HT.out.below⟩
  case false =>
    by_cases ha1 : at_ < 0
    · go_wp2
      go_ret
      exact ⟨rfl, HT.out.below⟩
    · by_cases ha2 : (l.length : Int) < at_
      · go_wp2
        go_ret
        exact ⟨rfl, HT.out.below⟩
      · obtain ⟨hn, hl25⟩ := great_no HGB.out.symm
        have hHN := Lib.hid hn; clear hn
        go_wp2_with fail
        go_loopw [46] (fun u46 wr => ∃ i : Nat, u46 = .int .i64 i ∧ i ≤ l.length ∧ (∀ (a b : Nat) (s t : RStep), a < i → b < a → l[a]? = some s → l[b]? = some t → s.item ≠ t.item) ∧ Sts W (fun _ => False) wr []) (fun u46 _ => l.length - (intOf u46).toNat)
        case atStart => exact ⟨0, rfl, by omega, fun a b s t h => by omega, HT.out⟩
        case round =>
          clear HT
          obtain ⟨i, hrel⟩ := hrel
          obtain ⟨rfl, hi, hu, T⟩ := hrel
          have HU := Lib.hid hu; clear hu
          have HT := Lib.hid T; clear T
          by_cases hil : i < l.length
          · have hil1 : (i : Int) < (l.length : Int) := by omega
            have hi0 : (0 : Int) ≤ (i : Int) := by omega
            go_wp2_with fail
            go_loopw [10] (fun u10 wr => ∃ k : Nat, u10 = .int .i64 k ∧ k ≤ i ∧ (∀ (b : Nat) (s t : RStep), b < k → l[i]? = some s → l[b]? = some t → s.item ≠ t.item) ∧ Sts W (fun _ => False) wr []) (fun u10 _ => i - (intOf u10).toNat)
            case atStart => exact ⟨0, rfl, by omega, fun b s t h => by omega, HT.out⟩
            case round =>
              clear HT
              obtain ⟨k, hrel⟩ := hrel
              obtain ⟨rfl, hk, hu2, T⟩ := hrel
              have HU2 := Lib.hid hu2; clear hu2
              by_cases hki : k < i
              · have hki1 : (k : Int) < (i : Int) := by omega
                have hk0 : (0 : Int) ≤ (k : Int) := by omega
                have hkl : k < l.length := by omega
                have hkl1 : (k : Int) < (l.length : Int) := by omega
                obtain ⟨s, hs⟩ : ∃ s, l[i]? = some s := ⟨l[i]'hil, List.getElem?_eq_getElem _⟩
                obtain ⟨t, ht⟩ : ∃ s, l[k]? = some s := ⟨l[k]'hkl, List.getElem?_eq_getElem _⟩
                cases A with
                | none => have := HL.out.nil rfl; subst this; simp at hil
                | some a =>
                  have FS : ∀ W', Sts W (fun _ => False) W' [] → (loadVal Try.prog 35 2 W' (.pointer (some (a.add (i * 17)))) = .ok (.agg (IV s.item)) W' ∧ loadVal Try.prog 35 2 W' (.pointer (some (a.add (k * 17)))) = .ok (.agg (IV t.item)) W') := fun W' T => ⟨step_item HL.out T.below hs, step_item HL.out T.below ht⟩
                  have S0 := FS _ T.drew
                  have HT := Lib.hid T.drew; have HS := Lib.hid hs; have HTT := Lib.hid ht
                  clear T FS hs ht
                  go_upto_region 11 with fail
                  refine wp_region_held_drew (S := fun W' => (loadVal Try.prog 35 2 W' (.pointer (some (a.add (i * 17)))) = .ok (.agg (IV s.item)) W' ∧ loadVal Try.prog 35 2 W' (.pointer (some (a.add (k * 17)))) = .ok (.agg (IV t.item)) W')) (by kernel_rfl) S0 (fun hHeld => ?_)
                  clear S0
                  refine tkH 0 rfl (v := ?_) ?_ ?_
                  rotate_left
                  · intro w h; (try dsimp only at h); go_simp; try with_reducible rfl
                  simp only [Act.put, List.setIfInBounds_toArray, List.set_cons_zero, List.set_cons_succ]
                  refine tkH 1 rfl (v := ?_) ?_ ?_
                  rotate_left
                  · intro w h; (try dsimp only at h); go_simp; try with_reducible rfl
                  go_frame
                  refine tkH 2 rfl (v := ?_) ?_ ?_
                  rotate_left
                  · intro w h; (try dsimp only at h); go_simp; try with_reducible rfl
                  go_frame
                  refine tkH 3 rfl (v := ?_) ?_ ?_
                  rotate_left
                  · intro w h; (try dsimp only at h); go_simp; try with_reducible rfl
                  go_frame
                  refine tkH 4 rfl (v := ?_) ?_ ?_
                  rotate_left
                  · intro w h; (try dsimp only at h); go_simp; try with_reducible rfl
                  go_frame
                  refine tkH 5 rfl (v := ?_) ?_ ?_
                  rotate_left
                  · intro w h; (try dsimp only at h); go_simp; try with_reducible rfl
                  go_frame
                  refine tkH 6 rfl (v := ?_) ?_ ?_
                  rotate_left
                  · intro w h; (try dsimp only at h); go_simp; try with_reducible rfl
                  go_frame
                  refine tkH 7 rfl (v := ?_) ?_ ?_
                  rotate_left
                  · intro w h; (try dsimp only at h); go_simp; try with_reducible rfl
                  go_frame
                  refine tkH 8 rfl (v := ?_) ?_ ?_
                  rotate_left
                  · intro w h; (try dsimp only at h); go_simp; try with_reducible rfl
                  go_frame
                  refine tkH 9 rfl (v := ?_) ?_ ?_
                  rotate_left
                  · intro w h; (try dsimp only at h); go_simp; try with_reducible rfl
                  go_frame
                  refine tkH 10 rfl (v := ?_) ?_ ?_
                  rotate_left
                  · intro w h; (try dsimp only at h); go_simp; try with_reducible rfl
                  go_frame
                  refine wpAnyH_done (by kernel_rfl) ?_ _
                  try simp only [Exit.then]
                  cases he : eqA (IV s.item) (IV t.item)
                  case true =>
                    go_wp2_with fail
                    go_ret
                    exact ⟨rfl, HT.out.below⟩
                  case false =>
                    go_wp2_with fail
                    go_roundw
                    case rel => exact ⟨k + 1, by go_num, by omega, (fun b s' t' hb hs' ht' => by
                      rcases Nat.lt_succ_iff_lt_or_eq.1 hb with h | h
                      · exact HU2.out b s' t' h hs' ht'
                      · subst h
                        rw [HS.out] at hs'
                        rw [HTT.out] at ht'
                        injection hs' with hs'
                        injection ht' with ht'
                        subst hs' ht'
                        intro e
                        rw [e, eqA_refl] at he
                        cases he), HT.out⟩
                    case measure => simp [intOf]; omega
              · have hki1 : ¬ (k : Int) < (i : Int) := by omega
                obtain rfl : k = i := by omega
                have HT := Lib.hid T; clear T
                go_wp2_with fail
                go_roundw
                case rel => exact ⟨k + 1, by go_num, by omega, (fun a b s t ha hb hs ht => by
                  rcases Nat.lt_succ_iff_lt_or_eq.1 ha with h | h
                  · exact HU.out a b s t h hb hs ht
                  · subst h; exact HU2.out b s t hb hs ht), HT.out⟩
                case measure => simp [intOf]; omega
          · have hil1 : ¬ (i : Int) < (l.length : Int) := by omega
            obtain rfl : i = l.length := by omega
            have hd : ∀ (a b : Nat) (s t : RStep), l[a]? = some s → l[b]? = some t → s.item = t.item → a = b := fun a b s t hs ht he => by
              have h1 := (List.getElem?_eq_some_iff.1 hs).1
              have h2 := (List.getElem?_eq_some_iff.1 ht).1
              rcases Nat.lt_trichotomy a b with h | h | h
              · exact absurd he.symm (HU.out b a t s h2 h ht hs)
              · exact h
              · exact absurd he (HU.out a b s t h1 h hs ht)
            have HDI := Lib.hid hd; clear hd HU
            have hnn : newN n = n := by unfold newN; rcases hHN.out with rfl | rfl | rfl <;> rfl
            have HN1 := Lib.hid (runNewT n (by rcases hHN.out with h | h | h <;> omega) HT.out)
            go_wp2_with fail
            refine HN1.out.mono ?_
            clear HN1 HT
            rintro e3 w3 ⟨ra, rfl, T⟩
            have HN2 := Lib.hid (runNewT n (by rcases hHN.out with h | h | h <;> omega) T)
            clear T
            go_wp2_with fail
            refine HN2.out.mono ?_
            clear HN2
            rintro e4 w4 ⟨rb, rfl, T⟩
            rw [hnn] at T
            have T1 := (T.vecNil 35 2).vecNil 47 14
            have T2 := T1.new (docC (.slice none 0 0) (.slice none 0 0) (.slice none 0 0)) 33
            have HT := Lib.hid (T2.ord [0, 2, 1, 4, 3])
            clear T T1 T2 hnn
            go_wp2_with fail
            generalize w4.alloc _ = w5 at *
            generalize w4.heap.size = g at *
            go_loopw [74] (fun u74 wr => ∃ (i : Nat) (m : RowsMK) (q : RowsML) (items : List Item) (calls : List Call) (D O : List Item) (vi vc : Value), u74 = .int .i64 i ∧ i ≤ l.length ∧ RunI n i m q items calls D O ∧ CMt n l (fun j => j) i m ∧ Sts W (fun _ => False) wr (rowR g (docC vi vc (.slice none 0 0)) :: vecR 35 2 vi items.length (vl IV items) :: vecR 47 14 vc calls.length (vl CV calls) :: runR ra m q D O :: runR rb ⟨n, fun _ => []⟩ ⟨n, fun _ => []⟩ [] [] :: [])) (fun u74 _ => l.length - (intOf u74).toNat)
            case atStart => exact ⟨0, _, _, [], [], [], [], _, _, rfl, by omega, RunI.new n, CMt.new n l _, HT.out⟩
            case round =>
              clear HT
              obtain ⟨i, m, q, items, calls, D, O, vi, vc, hrel⟩ := hrel
              obtain ⟨rfl, hi, hR, hC, T⟩ := hrel
              have HR := Lib.hid hR; have HC := Lib.hid hC; clear hR hC
              by_cases hil : i < l.length
              · have hil' : (i : Int) < (l.length : Int) := by omega
                have hi0 : (0 : Int) ≤ (i : Int) := by omega
                cases A with
                | none => have := HL.out.nil rfl; subst this; simp at hil
                | some a =>
                  have hld := HL.out.load (P := Try.prog) (T := 59) TRStep_size (by first | exact TRStep_und | exact Try.underlying59) rfl (by kernel_rfl) T.below rfl hil
                  obtain ⟨s, hs⟩ : ∃ s, s = l[i] := ⟨_, rfl⟩
                  have HS := Lib.hid (show l[i]? = some s by rw [hs]; exact List.getElem?_eq_getElem _)
                  rw [← hs] at hld
                  clear hs
                  have T2 := (T.new (RSV s) 59).ord [4, 0, 1, 2, 3, 5]
                  have hOl : O.length < 49 := by have := HR.out.olen; have := HR.out.bld.lei; omega
                  have hmb : 0 ≤ m.n ∧ m.n ≤ 7 := by rw [HR.out.bld.mn]; rcases hHN.out with h | h | h <;> omega
                  have hr := (T2.ord [1, 0]).row; have hlt := row_lt hr
                  have HC1 := Lib.hid (runCommitT hmb hOl s.item s.call T2)
                  clear T T2 hOl hmb
                  go_upto_region 19 with fail
                  generalize wr.alloc _ = w6 at *
                  generalize wr.heap.size = gx at *
                  clear hld
                  obtain ⟨items2, calls2, hR2, hy1, hy2⟩ := HR.out.commit s.item s.call
                  have hC2 := HC.out.step HR.out.bld.mn HDI.out (fun j hj e => by omega) HS.out
                  have HR2 := Lib.hid hR2; have HC2 := Lib.hid hC2; have HY := Lib.hid (And.intro hy1 hy2)
                  clear hR2 hC2 hy1 hy2
                  obtain ⟨can, hcan⟩ : ∃ v, v = canC m s.item s.call := ⟨_, rfl⟩
                  rw [← hcan] at HC1
                  have HCAN := Lib.hid hcan; clear hcan
                  go_wp2_with fail
                  refine HC1.out.mono ?_
                  clear HC1 hr hlt
                  rintro e7 w7 ⟨rfl, T⟩
                  have T : Sts W (fun _ => False) w7 (runR ra (comC m s.item s.call) q D (nextP m O s.item s.call) :: rowR gx (RSV s) :: rowR g (docC vi vc (.slice none 0 0)) :: vecR 35 2 vi items.length (vl IV items) :: vecR 47 14 vc calls.length (vl CV calls) :: runR rb ⟨n, fun _ => []⟩ ⟨n, fun _ => []⟩ [] [] :: []) := by
                    unfold nextP; rw [← HCAN.out]; exact T
                  have hln : items.length ≤ 25 := by have := HR.out.bld.lei; omega
                  have hlc : calls.length ≤ 25 := by rw [HR.out.bld.len]; exact hln
                  obtain ⟨O2, hO2⟩ : ∃ v, v = nextP m O s.item s.call := ⟨_, rfl⟩
                  obtain ⟨m2, hm2⟩ : ∃ v, v = comC m s.item s.call := ⟨_, rfl⟩
                  rw [← hO2, ← hm2] at T
                  have HR2 := Lib.hid (show RunI n (i + 1) m2 q items2 calls2 D O2 by rw [hO2, hm2]; exact HR2.out)
                  have HC2 := Lib.hid (show CMt n l (fun j => j) (i + 1) m2 by rw [hm2]; exact HC2.out)
                  have HT2 := Lib.hid (T.ord [2, 1, 3, 4, 0, 5])
                  clear T hO2 hm2
                  cases can
                  case true =>
                    obtain ⟨he1, he2⟩ := HY.out.1 HCAN.out.symm
                    subst he1 he2
                    go_wp2_with fail
                    have FS : ∀ W' X R', Sts W (fun _ => False) W' (rowR g X :: rowR gx (RSV s) :: R') → X[0]? = some vi → (W'.cell? ⟨g, 0, none⟩ = some vi ∧ row? W' gx = some (RSV s)) := fun W' X R' T h1 => ⟨by rw [row_cell T.row 0, h1], T.row1⟩
                    have HFS := Lib.hid FS
                    have HT0 := Lib.hid HT2.out.drew
                    have S0 := HFS.out _ _ _ HT0.out rfl
                    have HM := Lib.hid (show ∀ W' : World, (W'.cell? ⟨g, 0, none⟩ = some vi ∧ row? W' gx = some (RSV s)) → True from fun _ _ => trivial)
                    clear HT2 FS
                    go_upto_region 20 with fail
                    refine wp_region_stage (fun W' => (W'.cell? ⟨g, 0, none⟩ = some vi ∧ row? W' gx = some (RSV s))) (fun _ => True) 11 (by kernel_rfl) S0 (fun hHeld => ?_)
                    clear S0
                    refine tk0 0 rfl (v := ?_) ?_ ?_
                    rotate_left
                    · intro w h; (try dsimp only at h); go_simp; try with_reducible rfl
                    simp only [Act.put, List.setIfInBounds_toArray, List.set_cons_zero, List.set_cons_succ]
                    refine tk0 1 rfl (v := ?_) ?_ ?_
                    rotate_left
                    · intro w h; (try dsimp only at h); go_simp; try with_reducible rfl
                    go_frame
                    refine tk0 2 rfl (v := ?_) ?_ ?_
                    rotate_left
                    · intro w h; (try dsimp only at h); go_simp; try with_reducible rfl
                    go_frame
                    refine tk0 3 rfl (v := ?_) ?_ ?_
                    rotate_left
                    · intro w h; (try dsimp only at h); go_simp; try with_reducible rfl
                    go_frame
                    refine tk0 4 rfl (v := ?_) ?_ ?_
                    rotate_left
                    · intro w h; (try dsimp only at h); go_simp; try with_reducible rfl
                    go_frame
                    refine tk0 5 rfl (v := ?_) ?_ ?_
                    rotate_left
                    · intro w h; (try dsimp only at h); go_simp; try with_reducible rfl
                    go_frame
                    refine tk0 6 rfl (v := ?_) ?_ ?_
                    rotate_left
                    · intro w h; (try dsimp only at h); go_simp; try with_reducible rfl
                    go_frame
                    generalize hw7 : World.drew _ = w7 at *
                    clear hw7
                    refine wpAnyL_ready (rs := [7]) (by kernel_rfl) (by simp) ?_
                    refine AllReadyL.cons0 (o := _) rfl (by kernel_rfl) (fun K hK => ?_) AllReadyL.nil
                    have Ta := HT0.out.new (IV s.item) 35
                    have HTa := Lib.hid Ta; clear Ta HT0
                    go_simp
                    refine hK.out _ _ ?_ (fun hHeld => ?_)
                    · exact HFS.out _ _ _ HTa.out.drop rfl
                    clear hK K
                    refine wpAnyL_ready (rs := [8]) (by kernel_rfl) (by simp) ?_
                    refine AllReadyL.cons0 (o := _) rfl (by kernel_rfl) (fun K hK => ?_) AllReadyL.nil
                    have Tb := HTa.out.ord [3, 0, 1, 2]
                    clear HTa
                    obtain ⟨i0, hi0', hz0, hz1, hz2⟩ := itm_i
                    have HOK := Lib.hid (itm_one s.item)
                    refine step_append_vec (by rfl) _ _ _ (by rfl) 35 i0 _ 2 16 Try.underlying30 hi0' hz0 hz1 hz2 rfl (by omega) vi items.length (vl IV items) (by rfl) Tb ⟨w7.heap.size, 0, none⟩ 1 1 (IV s.item).toList (by rfl) (by rfl) (news_row Tb.row1) HOK.out (by omega) (by unfold maxLen; omega) (by omega) ?_
                    intro gv' cap1 w12 T1
                    have T1 := (T1.ord [2, 3, 0, 1])
                    refine hK.out _ _ ?_ (fun hHeld => ?_)
                    · exact HFS.out _ _ _ T1 rfl
                    clear hK K Tb HOK
                    refine tk1 9 HM.out rfl (v := ?_) ?_ ?_
                    rotate_left
                    · intro w h; (try dsimp only at h); go_simp; try with_reducible rfl
                    simp only [Act.put, List.getElem_toArray, List.getElem_cons_succ, List.getElem_cons_zero, List.setIfInBounds_toArray, List.set_cons_zero, List.set_cons_succ]
                    refine tk0 10 rfl (v := ?_) ?_ ?_
                    rotate_left
                    · intro w h; (try dsimp only at h); go_simp; try with_reducible rfl
                    simp only [Act.put, List.setIfInBounds_toArray, List.set_cons_zero, List.set_cons_succ]
                    have hf := row_frozen T1.row 0
                    have T2 := T1.setCell 0 (.slice (some ⟨gv', 0, none⟩) (items.length + 1) cap1)
                    have HT2 := Lib.hid T2; clear T1 T2
                    refine wpAnyL_ready (rs := [11]) (by kernel_rfl) (by simp) ?_
                    refine AllReadyL.cons1 (o := _) rfl (by kernel_rfl) (fun K hK => ?_) AllReadyL.nil
                    go_simp
                    refine hK.out _ _ trivial (fun hHeld => ?_)
                    clear hK K hf HFS HM hi0' hz0 hz1 hz2
                    refine wpAnyL_done (by kernel_rfl) ?_ _
                    try simp only [Exit.then]
                    generalize w12.setCell _ _ = w13 at *
                    have T3 : Sts W (fun _ => False) w13 (rowR g (docC (.slice (some ⟨gv', 0, none⟩) (items.length + 1) cap1) vc (.slice none 0 0)) :: rowR gx (RSV s) :: vecR 35 2 (.slice (some ⟨gv', 0, none⟩) (items.length + 1) cap1) (items.length + 1) (vl IV items ++ (IV s.item).toList) :: rowR w7.heap.size (IV s.item) :: vecR 47 14 vc calls.length (vl CV calls) :: runR ra m2 q D O2 :: runR rb ⟨n, fun _ => []⟩ ⟨n, fun _ => []⟩ [] [] :: []) := HT2.out
                    rw [show items.length + 1 = (items ++ [s.item]).length by simp, show vl IV items ++ (IV s.item).toList = vl IV (items ++ [s.item]) from (vl_snoc IV items s.item).symm] at T3
                    have T4 := (T3.ord [3, 0, 1, 2]).drop
                    have HT := Lib.hid T4; clear HT2 T3 T4
                    generalize hvi : Value.slice (some ⟨gv', 0, none⟩) (items ++ [s.item]).length cap1 = vi2 at *
                    clear hvi
                    have HT2 := Lib.hid (HT.out.ord [0, 1, 3, 2, 4, 5]); clear HT
                    have FS : ∀ W' X R', Sts W (fun _ => False) W' (rowR g X :: rowR gx (RSV s) :: R') → X[1]? = some vc → (W'.cell? ⟨g, 1, none⟩ = some vc ∧ row? W' gx = some (RSV s)) := fun W' X R' T h1 => ⟨by rw [row_cell T.row 1, h1], T.row1⟩
                    have HFS := Lib.hid FS
                    have HT0 := Lib.hid HT2.out.drew
                    have S0 := HFS.out _ _ _ HT0.out rfl
                    have HM := Lib.hid (show ∀ W' : World, (W'.cell? ⟨g, 1, none⟩ = some vc ∧ row? W' gx = some (RSV s)) → True from fun _ _ => trivial)
                    clear HT2 FS
                    go_upto_region 21 with fail
                    refine wp_region_stage (fun W' => (W'.cell? ⟨g, 1, none⟩ = some vc ∧ row? W' gx = some (RSV s))) (fun _ => True) 11 (by kernel_rfl) S0 (fun hHeld => ?_)
                    clear S0
                    refine tk0 0 rfl (v := ?_) ?_ ?_
                    rotate_left
                    · intro w h; (try dsimp only at h); go_simp; try with_reducible rfl
                    simp only [Act.put, List.setIfInBounds_toArray, List.set_cons_zero, List.set_cons_succ]
                    refine tk0 1 rfl (v := ?_) ?_ ?_
                    rotate_left
                    · intro w h; (try dsimp only at h); go_simp; try with_reducible rfl
                    go_frame
                    refine tk0 2 rfl (v := ?_) ?_ ?_
                    rotate_left
                    · intro w h; (try dsimp only at h); go_simp; try with_reducible rfl
                    go_frame
                    refine tk0 3 rfl (v := ?_) ?_ ?_
                    rotate_left
                    · intro w h; (try dsimp only at h); go_simp; try with_reducible rfl
                    go_frame
                    refine tk0 4 rfl (v := ?_) ?_ ?_
                    rotate_left
                    · intro w h; (try dsimp only at h); go_simp; try with_reducible rfl
                    go_frame
                    refine tk0 5 rfl (v := ?_) ?_ ?_
                    rotate_left
                    · intro w h; (try dsimp only at h); go_simp; try with_reducible rfl
                    go_frame
                    refine tk0 6 rfl (v := ?_) ?_ ?_
                    rotate_left
                    · intro w h; (try dsimp only at h); go_simp; try with_reducible rfl
                    go_frame
                    generalize hw7 : World.drew _ = w7 at *
                    clear hw7
                    refine wpAnyL_ready (rs := [7]) (by kernel_rfl) (by simp) ?_
                    refine AllReadyL.cons0 (o := _) rfl (by kernel_rfl) (fun K hK => ?_) AllReadyL.nil
                    have Ta := HT0.out.new (CV s.call) 47
                    have HTa := Lib.hid Ta; clear Ta HT0
                    go_simp
                    refine hK.out _ _ ?_ (fun hHeld => ?_)
                    · exact HFS.out _ _ _ HTa.out.drop rfl
                    clear hK K
                    refine wpAnyL_ready (rs := [8]) (by kernel_rfl) (by simp) ?_
                    refine AllReadyL.cons0 (o := _) rfl (by kernel_rfl) (fun K hK => ?_) AllReadyL.nil
                    have Tb := HTa.out.ord [3, 0, 1, 2]
                    clear HTa
                    obtain ⟨i0, hi0', hz0, hz1, hz2⟩ := cll_i
                    have HOK := Lib.hid (cll_one s.call)
                    refine step_append_vec (by rfl) _ _ _ (by rfl) 47 i0 _ 14 128 Try.underlying31 hi0' hz0 hz1 hz2 rfl (by omega) vc calls.length (vl CV calls) (by rfl) Tb ⟨w7.heap.size, 0, none⟩ 1 1 (CV s.call).toList (by rfl) (by rfl) (news_row Tb.row1) HOK.out (by omega) (by unfold maxLen; omega) (by omega) ?_
                    intro gv' cap1 w12 T1
                    have T1 := (T1.ord [2, 3, 0, 1])
                    refine hK.out _ _ ?_ (fun hHeld => ?_)
                    · exact HFS.out _ _ _ T1 rfl
                    clear hK K Tb HOK
                    refine tk1 9 HM.out rfl (v := ?_) ?_ ?_
                    rotate_left
                    · intro w h; (try dsimp only at h); go_simp; try with_reducible rfl
                    simp only [Act.put, List.getElem_toArray, List.getElem_cons_succ, List.getElem_cons_zero, List.setIfInBounds_toArray, List.set_cons_zero, List.set_cons_succ]
                    refine tk0 10 rfl (v := ?_) ?_ ?_
                    rotate_left
                    · intro w h; (try dsimp only at h); go_simp; try with_reducible rfl
                    simp only [Act.put, List.setIfInBounds_toArray, List.set_cons_zero, List.set_cons_succ]
                    have hf := row_frozen T1.row 1
                    have T2 := T1.setCell 1 (.slice (some ⟨gv', 0, none⟩) (calls.length + 1) cap1)
                    have HT2 := Lib.hid T2; clear T1 T2
                    refine wpAnyL_ready (rs := [11]) (by kernel_rfl) (by simp) ?_
                    refine AllReadyL.cons1 (o := _) rfl (by kernel_rfl) (fun K hK => ?_) AllReadyL.nil
                    go_simp
                    refine hK.out _ _ trivial (fun hHeld => ?_)
                    clear hK K hf HFS HM hi0' hz0 hz1 hz2
                    refine wpAnyL_done (by kernel_rfl) ?_ _
                    try simp only [Exit.then]
                    generalize w12.setCell _ _ = w13 at *
                    have T3 : Sts W (fun _ => False) w13 (rowR g (docC vi2 (.slice (some ⟨gv', 0, none⟩) (calls.length + 1) cap1) (.slice none 0 0)) :: rowR gx (RSV s) :: vecR 47 14 (.slice (some ⟨gv', 0, none⟩) (calls.length + 1) cap1) (calls.length + 1) (vl CV calls ++ (CV s.call).toList) :: rowR w7.heap.size (CV s.call) :: vecR 35 2 vi2 (items ++ [s.item]).length (vl IV (items ++ [s.item])) :: runR ra m2 q D O2 :: runR rb ⟨n, fun _ => []⟩ ⟨n, fun _ => []⟩ [] [] :: []) := HT2.out
                    rw [show calls.length + 1 = (calls ++ [s.call]).length by simp, show vl CV calls ++ (CV s.call).toList = vl CV (calls ++ [s.call]) from (vl_snoc CV calls s.call).symm] at T3
                    have T4 := (T3.ord [3, 0, 1, 2]).drop
                    have HT := Lib.hid T4; clear HT2 T3 T4
                    generalize hvi : Value.slice (some ⟨gv', 0, none⟩) (calls ++ [s.call]).length cap1 = vc2 at *
                    clear hvi
                    have HT := Lib.hid (HT.out.ord [0, 1, 3, 2, 4, 5])
                    have hr := HT.out.row1; have hlt := row_lt hr; have ck := row_cell hr 16
                    rw [show (RSV s)[16]? = some (.bool s.goes) from rfl] at ck
                    obtain ⟨go, hgo⟩ : ∃ v, v = s.goes := ⟨_, rfl⟩
                    rw [← hgo] at ck
                    clear hgo
                    cases go
                    case true =>
                      go_wp2_with fail
                      have hOl : O2.length ≤ 49 := by have := HR2.out.olen; have := HR2.out.bld.lei; omega
                      have hDl : D.length ≤ 100000 := by have := HR2.out.dlen; have := HR2.out.bld.lei; omega
                      have hil2 : (items ++ [s.item]).length ≤ 49 := by have := HR2.out.bld.lei; omega
                      have hn7 : n ≤ 7 := by rcases hHN.out with h | h | h <;> omega
                      have hmb : 0 ≤ (m2).n ∧ (m2).n ≤ 7 := by rw [HR2.out.bld.mn]; rcases hHN.out with h | h | h <;> omega
                      have hqb : 0 ≤ (q).n ∧ (q).n ≤ 7 := by rw [HR2.out.bld.qn]; rcases hHN.out with h | h | h <;> omega
                      have HPS := Lib.hid (passT (its := (items ++ [s.item])) (q := q) hmb hqb (HR2.out.bld.inv hn7) hil2 hOl (fun y hy => (HR2.out.bld.inv hn7).fits y (((HR2.out.opn y).1 hy).1)) hDl (HT.out.ord [4, 0, 1, 2, 3, 5]))
                      clear hmb hqb hOl hDl hil2
                      go_wp2_with fail
                      refine HPS.out.mono ?_
                      clear HPS hr hlt ck HT
                      rintro e9 w9 ⟨rfl, T⟩
                      obtain ⟨q1, O1, l1, hgo, Ta⟩ := T.goneOpen
                      have hR3 := (HR2.out.go hn7 hgo).1
                      have HR3 := Lib.hid hR3
                      have HT := Lib.hid (Ta.ord [1, 2, 3, 4, 0, 5]); clear T Ta hgo hR3
                      go_wp2
                      go_roundw
                      case rel => exact ⟨i + 1, m2, q1, (items ++ [s.item]), (calls ++ [s.call]), D ++ l1, O1, vi2, vc2, by go_num, by omega, HR3.out, HC2.out, (HT.out.ord [1, 0]).drop⟩
                      case measure => simp [intOf]; omega
                    case false =>
                      go_wp2
                      go_roundw
                      case rel => exact ⟨i + 1, m2, q, (items ++ [s.item]), (calls ++ [s.call]), D, O2, vi2, vc2, by go_num, by omega, HR2.out, HC2.out, (HT.out.ord [1, 0]).drop⟩
                      case measure => simp [intOf]; omega
                  case false =>
                    obtain ⟨he1, he2⟩ := HY.out.2 HCAN.out.symm
                    subst he1 he2
                    have HT := Lib.hid (HT2.out.ord [0, 1, 2, 3, 4, 5]); clear HT2
                    have hr := HT.out.row1; have hlt := row_lt hr; have ck := row_cell hr 16
                    rw [show (RSV s)[16]? = some (.bool s.goes) from rfl] at ck
                    obtain ⟨go, hgo⟩ : ∃ v, v = s.goes := ⟨_, rfl⟩
                    rw [← hgo] at ck
                    clear hgo
                    cases go
                    case true =>
                      go_wp2_with fail
                      have hOl : O2.length ≤ 49 := by have := HR2.out.olen; have := HR2.out.bld.lei; omega
                      have hDl : D.length ≤ 100000 := by have := HR2.out.dlen; have := HR2.out.bld.lei; omega
                      have hil2 : items2.length ≤ 49 := by have := HR2.out.bld.lei; omega
                      have hn7 : n ≤ 7 := by rcases hHN.out with h | h | h <;> omega
                      have hmb : 0 ≤ (m2).n ∧ (m2).n ≤ 7 := by rw [HR2.out.bld.mn]; rcases hHN.out with h | h | h <;> omega
                      have hqb : 0 ≤ (q).n ∧ (q).n ≤ 7 := by rw [HR2.out.bld.qn]; rcases hHN.out with h | h | h <;> omega
                      have HPS := Lib.hid (passT (its := items2) (q := q) hmb hqb (HR2.out.bld.inv hn7) hil2 hOl (fun y hy => (HR2.out.bld.inv hn7).fits y (((HR2.out.opn y).1 hy).1)) hDl (HT.out.ord [4, 0, 1, 2, 3, 5]))
                      clear hmb hqb hOl hDl hil2
                      go_wp2_with fail
                      refine HPS.out.mono ?_
                      clear HPS hr hlt ck HT
                      rintro e9 w9 ⟨rfl, T⟩
                      obtain ⟨q1, O1, l1, hgo, Ta⟩ := T.goneOpen
                      have hR3 := (HR2.out.go hn7 hgo).1
                      have HR3 := Lib.hid hR3
                      have HT := Lib.hid (Ta.ord [1, 2, 3, 4, 0, 5]); clear T Ta hgo hR3
                      go_wp2
                      go_roundw
                      case rel => exact ⟨i + 1, m2, q1, items2, calls2, D ++ l1, O1, vi, vc, by go_num, by omega, HR3.out, HC2.out, (HT.out.ord [1, 0]).drop⟩
                      case measure => simp [intOf]; omega
                    case false =>
                      go_wp2
                      go_roundw
                      case rel => exact ⟨i + 1, m2, q, items2, calls2, D, O2, vi, vc, by go_num, by omega, HR2.out, HC2.out, (HT.out.ord [1, 0]).drop⟩
                      case measure => simp [intOf]; omega
              · have hil' : ¬ (i : Int) < (l.length : Int) := by omega
                obtain rfl : i = l.length := by omega
                obtain ⟨ka, hka⟩ : ∃ k : Nat, at_ = (k : Int) := ⟨at_.toNat, by omega⟩
                subst hka
                have hkl : ka ≤ l.length := by omega
                have HT := Lib.hid T; clear T
                go_wp2_with fail
                go_loopw [113] (fun u113 wr => ∃ (i : Nat) (m1 : RowsMK) (q1 : RowsML) (items1 : List Item) (calls1 : List Call) (D1 O1 : List Item), u113 = .int .i64 i ∧ i ≤ l.length ∧ RunI n i m1 q1 items1 calls1 D1 O1 ∧ CMt n l (fun j => (j + ka) % l.length) i m1 ∧ Sts W (fun _ => False) wr (rowR g (docC vi vc (.slice none 0 0)) :: vecR 35 2 vi items.length (vl IV items) :: vecR 47 14 vc calls.length (vl CV calls) :: runR ra m q D O :: runR rb m1 q1 D1 O1 :: [])) (fun u113 _ => l.length - (intOf u113).toNat)
                case atStart => exact ⟨0, _, _, [], [], [], [], rfl, by omega, RunI.new n, CMt.new n l _, HT.out⟩
                case round =>
                  clear HT
                  obtain ⟨i, m1, q1, items1, calls1, D1, O1, hrel⟩ := hrel
                  obtain ⟨rfl, hi1, hR1, hC1, T⟩ := hrel
                  have HR1 := Lib.hid hR1; have HC1 := Lib.hid hC1; clear hR1 hC1
                  by_cases hil : i < l.length
                  · have hil' : (i : Int) < (l.length : Int) := by omega
                    have hi0 : (0 : Int) ≤ (i : Int) := by omega
                    obtain ⟨j, hj⟩ : ∃ j, j = (i + ka) % l.length := ⟨_, rfl⟩
                    have hjl : j < l.length := by rw [hj]; exact Nat.mod_lt _ (by omega)
                    have hjl' : (j : Int) < (l.length : Int) := by omega
                    have hj0 : (0 : Int) ≤ (j : Int) := by omega
                    have hrem : Int.tmod ((i : Int) + (ka : Int)) (l.length : Int) = (j : Int) := by
                      rw [hj, ← Int.natCast_add]; exact (Int.ofNat_tmod _ _).symm
                    have hne0 : ¬ (l.length : Int) = 0 := by omega
                    have HJ := Lib.hid hj; clear hj
                    cases A with
                    | none => have := HL.out.nil rfl; subst this; simp at hil
                    | some a =>
                      have hld := HL.out.load (P := Try.prog) (T := 59) TRStep_size (by first | exact TRStep_und | exact Try.underlying59) rfl (by kernel_rfl) T.below rfl hjl
                      obtain ⟨s, hs⟩ : ∃ s, s = l[j] := ⟨_, rfl⟩
                      have HS := Lib.hid (show l[j]? = some s by rw [hs]; exact List.getElem?_eq_getElem _)
                      rw [← hs] at hld
                      clear hs
                      have T2 := (T.new (RSV s) 59).ord [5, 0, 1, 2, 3, 4]
                      have hOl : O1.length < 49 := by have := HR1.out.olen; have := HR1.out.bld.lei; omega
                      have hmb : 0 ≤ m1.n ∧ m1.n ≤ 7 := by rw [HR1.out.bld.mn]; rcases hHN.out with h | h | h <;> omega
                      have hr := (T2.ord [1, 0]).row; have hlt := row_lt hr
                      have HCC := Lib.hid (runCommitT hmb hOl s.item s.call T2)
                      clear T T2 hOl hmb
                      go_upto_region 29 with fail
                      generalize wr.alloc _ = w6 at *
                      generalize wr.heap.size = gx at *
                      clear hld hrem
                      obtain ⟨items2, calls2, hR2, -, -⟩ := HR1.out.commit s.item s.call
                      have hC2 := HC1.out.step HR1.out.bld.mn HDI.out (fun k hk => rot_ne hil hk) (by rw [← HJ.out]; exact HS.out)
                      obtain ⟨O2, hO2⟩ : ∃ v, v = nextP m1 O1 s.item s.call := ⟨_, rfl⟩
                      obtain ⟨m2, hm2⟩ : ∃ v, v = comC m1 s.item s.call := ⟨_, rfl⟩
                      have HR2 := Lib.hid (show RunI n (i + 1) m2 q1 items2 calls2 D1 O2 by rw [hO2, hm2]; exact hR2)
                      have HC2 := Lib.hid (show CMt n l (fun j => (j + ka) % l.length) (i + 1) m2 by rw [hm2]; exact hC2)
                      have HO2 := Lib.hid hO2; have HM2 := Lib.hid hm2
                      clear hR2 hC2 hO2 hm2 HJ
                      go_wp2_with fail
                      refine HCC.out.mono ?_
                      clear HCC hr hlt
                      rintro e7 w7 ⟨rfl, T⟩
                      have T : Sts W (fun _ => False) w7 (runR rb m2 q1 D1 O2 :: rowR gx (RSV s) :: rowR g (docC vi vc (.slice none 0 0)) :: vecR 35 2 vi items.length (vl IV items) :: vecR 47 14 vc calls.length (vl CV calls) :: runR ra m q D O :: []) := by
                        rw [HO2.out, HM2.out]; unfold nextP; exact T
                      clear HO2 HM2
                      by_cases hig : i < lg.length
                      · have hig' : (i : Int) < (lg.length : Int) := by omega
                        cases Ag with
                        | none => have := HGL.out.nil rfl; subst this; simp at hig
                        | some ag =>
                          have hcg := HGL.out.cell ag rfl i hig 0 (.bool lg[i]) rfl
                          have hcg := (T.below.cell (World.block_lt_of_cell? W _ hcg)).trans hcg
                          rw [Nat.mul_one, show ∀ b : Addr, b.add 0 = b from fun b => by unfold Addr.add; simp] at hcg
                          obtain ⟨go, hgo⟩ : ∃ v, v = lg[i] := ⟨_, rfl⟩
                          rw [← hgo] at hcg
                          clear hgo
                          have HT := Lib.hid T; clear T
                          cases go
                          case true =>
                            go_wp2_with fail
                            have hOl : O2.length ≤ 49 := by have := HR2.out.olen; have := HR2.out.bld.lei; omega
                            have hDl : D1.length ≤ 100000 := by have := HR2.out.dlen; have := HR2.out.bld.lei; omega
                            have hil2 : items2.length ≤ 49 := by have := HR2.out.bld.lei; omega
                            have hn7 : n ≤ 7 := by rcases hHN.out with h | h | h <;> omega
                            have hmb : 0 ≤ (m2).n ∧ (m2).n ≤ 7 := by rw [HR2.out.bld.mn]; rcases hHN.out with h | h | h <;> omega
                            have hqb : 0 ≤ (q1).n ∧ (q1).n ≤ 7 := by rw [HR2.out.bld.qn]; rcases hHN.out with h | h | h <;> omega
                            have HPS := Lib.hid (passT (its := items2) (q := q1) hmb hqb (HR2.out.bld.inv hn7) hil2 hOl (fun y hy => (HR2.out.bld.inv hn7).fits y (((HR2.out.opn y).1 hy).1)) hDl HT.out)
                            clear hmb hqb hOl hDl hil2
                            go_wp2_with fail
                            refine HPS.out.mono ?_
                            clear HPS HT hcg
                            rintro e9 w9 ⟨rfl, T⟩
                            obtain ⟨q3, O3, l3, hgo, Ta⟩ := T.goneOpen
                            have hR3 := (HR2.out.go hn7 hgo).1
                            have HR3 := Lib.hid hR3
                            have HT := Lib.hid (Ta.ord [1, 2, 3, 4, 5, 0]).drop; clear T Ta hgo hR3
                            go_wp2
                            go_roundw
                            case rel => exact ⟨i + 1, m2, q3, items2, calls2, D1 ++ l3, O3, by go_num, by omega, HR3.out, HC2.out, HT.out⟩
                            case measure => simp [intOf]; omega
                          case false =>
                            go_wp2_with fail
                            go_roundw
                            case rel => exact ⟨i + 1, m2, q1, items2, calls2, D1, O2, by go_num, by omega, HR2.out, HC2.out, (HT.out.ord [1, 2, 3, 4, 5, 0]).drop⟩
                            case measure => simp [intOf]; omega
                      · have hig' : ¬ (i : Int) < (lg.length : Int) := by omega
                        have HT := Lib.hid T; clear T
                        go_wp2_with fail
                        go_roundw
                        case rel => exact ⟨i + 1, m2, q1, items2, calls2, D1, O2, by go_num, by omega, HR2.out, HC2.out, (HT.out.ord [1, 2, 3, 4, 5, 0]).drop⟩
                        case measure => simp [intOf]; omega
                  · have hil' : ¬ (i : Int) < (l.length : Int) := by omega
                    obtain rfl : i = l.length := by omega
                    have hOl : O.length ≤ 49 := by have := HR.out.olen; have := HR.out.bld.lei; omega
                    have hDl : D.length ≤ 100000 := by have := HR.out.dlen; have := HR.out.bld.lei; omega
                    have hil2 : items.length ≤ 49 := by have := HR.out.bld.lei; omega
                    have hn7 : n ≤ 7 := by rcases hHN.out with h | h | h <;> omega
                    have hmb : 0 ≤ (m).n ∧ (m).n ≤ 7 := by rw [HR.out.bld.mn]; rcases hHN.out with h | h | h <;> omega
                    have hqb : 0 ≤ (q).n ∧ (q).n ≤ 7 := by rw [HR.out.bld.qn]; rcases hHN.out with h | h | h <;> omega
                    have HPS := Lib.hid (passT (its := items) (q := q) hmb hqb (HR.out.bld.inv hn7) hil2 hOl (fun y hy => (HR.out.bld.inv hn7).fits y (((HR.out.opn y).1 hy).1)) hDl (T.ord [3, 0, 1, 2, 4]))
                    clear hmb hqb hOl hDl hil2
                    clear T
                    go_wp2_with fail
                    refine HPS.out.mono ?_
                    clear HPS
                    rintro e9 w9 ⟨rfl, T⟩
                    obtain ⟨q3, O3, l3, hgo, Ta⟩ := T.goneOpen
                    have hR3 := HR.out.go hn7 hgo
                    have HR3 := Lib.hid hR3
                    clear T hgo hR3 HR hn7
                    obtain ⟨Da, hDa⟩ : ∃ v, v = D ++ l3 := ⟨_, rfl⟩
                    rw [← hDa] at HR3 Ta
                    clear hDa
                    have hOl : O1.length ≤ 49 := by have := HR1.out.olen; have := HR1.out.bld.lei; omega
                    have hDl : D1.length ≤ 100000 := by have := HR1.out.dlen; have := HR1.out.bld.lei; omega
                    have hil2 : items1.length ≤ 49 := by have := HR1.out.bld.lei; omega
                    have hn7 : n ≤ 7 := by rcases hHN.out with h | h | h <;> omega
                    have hmb : 0 ≤ (m1).n ∧ (m1).n ≤ 7 := by rw [HR1.out.bld.mn]; rcases hHN.out with h | h | h <;> omega
                    have hqb : 0 ≤ (q1).n ∧ (q1).n ≤ 7 := by rw [HR1.out.bld.qn]; rcases hHN.out with h | h | h <;> omega
                    have HPS := Lib.hid (passT (its := items1) (q := q1) hmb hqb (HR1.out.bld.inv hn7) hil2 hOl (fun y hy => (HR1.out.bld.inv hn7).fits y (((HR1.out.opn y).1 hy).1)) hDl (Ta.ord [4, 0, 1, 2, 3]))
                    clear hmb hqb hOl hDl hil2
                    clear Ta
                    go_wp2_with fail
                    refine HPS.out.mono ?_
                    clear HPS
                    rintro e10 w10 ⟨rfl, T⟩
                    obtain ⟨q4, O4, l4, hgo, Ta⟩ := T.goneOpen
                    have HR4 := Lib.hid (HR1.out.go hn7 hgo)
                    clear T hgo HR1
                    obtain ⟨Db, hDb⟩ : ∃ v, v = D1 ++ l4 := ⟨_, rfl⟩
                    rw [← hDb] at HR4 Ta
                    clear hDb
                    have hsame := HC.out.same HC1.out (fun j hj => rot_all hj hkl) (fun j hj => ⟨_, Nat.mod_lt _ (by omega), rfl⟩)
                    have hdd := same_done HR3.out.2 HR4.out.2 hsame
                    have hla : Da.length ≤ 25 := by have := HR3.out.1.dlen; have := HR3.out.1.bld.lei; omega
                    have hlb : Db.length ≤ 25 := by have := HR4.out.1.dlen; have := HR4.out.1.bld.lei; omega
                    have hlab : Db.length = Da.length := Nat.le_antisymm (nodup_len _ _ HR4.out.1.ok.nd fun y hy => (hdd y).2 hy) (nodup_len _ _ HR3.out.1.ok.nd fun y hy => (hdd y).1 hy)
                    have HSM := Lib.hid hsame; have HDD := Lib.hid hdd
                    clear hsame hdd
                    have HD1 := Lib.hid (runDoneT (D := Da) (by omega) (Ta.ord [1, 0, 2, 3, 4]))
                    clear Ta
                    go_wp2_with fail
                    refine HD1.out.mono ?_
                    clear HD1
                    rintro e11 w11 ⟨va, rfl, T⟩
                    have HD2 := Lib.hid (runDoneT (D := Db) (by omega) (T.ord [2, 0, 1, 3, 4, 5]))
                    clear T
                    go_wp2_with fail
                    refine HD2.out.mono ?_
                    clear HD2
                    rintro e12 w12 ⟨vb, rfl, T⟩
                    have T : Sts W (fun _ => False) w12 (vecR 35 2 vb Db.length (vl IV Db) :: runR rb m1 q4 Db O4 :: vecR 35 2 va Da.length (vl IV Da) :: runR ra m q3 Da O3 :: rowR g (docC vi vc (.slice none 0 0)) :: vecR 35 2 vi items.length (vl IV items) :: vecR 47 14 vc calls.length (vl CV calls) :: []) := T
                    have T := (T.ord [1, 3, 0, 2, 4, 5, 6]).drop.drop
                    obtain ⟨Ab, cb, rfl⟩ := vec_shape2 T
                    obtain ⟨Aa, ca, rfl⟩ := vec_shape2 (T.ord [1, 0])
                    obtain ⟨na, hna⟩ : ∃ v, v = Da.length := ⟨_, rfl⟩
                    have hnb : Db.length = na := by rw [hna]; exact hlab
                    have HNA := Lib.hid hna; have HNB := Lib.hid hnb
                    rw [hnb, ← hna] at T
                    have hna25 : na ≤ 25 := by omega
                    generalize hRR : rowR g (docC vi vc (.slice none 0 0)) :: vecR 35 2 vi items.length (vl IV items) :: vecR 47 14 vc calls.length (vl CV calls) :: ([] : List Res) = RR at *
                    have HRR := Lib.hid hRR
                    have T2 : Sts W (fun _ => False) w12 (vecR 35 2 (.slice Ab na cb) na (vl IV Db) :: vecR 35 2 (.slice Aa na ca) na (vl IV Da) :: RR) := T
                    rw [show (Value.slice Ab Db.length cb) = .slice Ab na cb by rw [hnb], show (Value.slice Aa Da.length ca) = .slice Aa na ca by rw [hna]]
                    have T3 : Sts W (fun _ => False) _ (numR _ 0 0 (fun _ => none) :: _) := T2.mapCNew (P := Try.prog) (k := 35) (kv := fun x : Item => Value.agg (IV x)) (ev := fun i : Int => Value.int .i64 i) (ok := InI)
                    have HT := Lib.hid T3
                    clear T T2 T3 hRR hna hnb hla hlb hlab
                    go_upto_region 39 with fail
                    generalize hw4 : w12.alloc _ = w4 at *
                    generalize w12.heap.size = gm at *
                    clear hw4
                    go_wp2_with fail
                    go_loopw [160] (fun u160 wr => ∃ (i nn cc : Nat) (f : Item → Option Int), u160 = .int .i64 i ∧ i ≤ na ∧ nn ≤ i ∧ (∀ y, f y = if idxN y Db < i then some ((idxN y Db : Int) + 1) else none) ∧ Sts W (fun _ => False) wr (numR gm nn cc f :: vecR 35 2 (.slice Ab na cb) na (vl IV Db) :: vecR 35 2 (.slice Aa na ca) na (vl IV Da) :: RR)) (fun u160 _ => na - (intOf u160).toNat)
                    case atStart => exact ⟨0, 0, 0, fun _ => none, rfl, Nat.zero_le _, Nat.le_refl _, fun y => by simp, HT.out⟩
                    case round =>
                      clear HT
                      obtain ⟨i, nn, cc, f, rfl, hi2, hnn, hf, T⟩ := hrel
                      have HF := Lib.hid hf; clear hf
                      by_cases hin : i < na
                      · have hin' : (i : Int) < (na : Int) := by omega
                        have hi0 : (0 : Int) ≤ (i : Int) := by omega
                        obtain ⟨y, hy⟩ : ∃ y, Db[i]? = some y := ⟨Db[i]'(by rw [HNB.out]; exact hin), List.getElem?_eq_getElem _⟩
                        obtain ⟨gi, rfl, hld⟩ := vec_load (P := Try.prog) (e := 35) TItem_size (by omega) TItem_und rfl (by kernel_rfl) (T.ord [1, 0]) HNB.out.symm hy (by omega)
                        have hyI : InI y := (HR4.out.1.bld.inv hn7).fits y ((HR4.out.1.bld.is y).1 (HR4.out.1.ok.com y (List.mem_of_getElem? hy)))
                        have T2 := T.new (IV y) 35
                        have hr := T2.row; have hlt := row_lt hr
                        obtain ⟨w9, h9, T9, hsz⟩ := (T2.ord [1, 0]).mapCPut itemOk Try.underlying64 (by have hmx : maxLen = 9223372036854775807 := rfl; omega) y hyI ((i : Int) + 1)
                        have HT := Lib.hid (T9.ord [1, 0]).drop
                        have HY := Lib.hid hy
                        clear T T2 T9 hsz hy hyI
                        go_wp2_with fail
                        go_roundw
                        case rel => exact ⟨i + 1, nn + 1, _, putF f y ((i : Int) + 1), by go_num, by omega, by omega, (fun z => by
                          have hyi := idxN_at HR4.out.1.ok.nd HY.out
                          have hyD := List.mem_of_getElem? HY.out
                          by_cases hz : z = y
                          · subst hz
                            rw [putF_same, hyi, if_pos (by omega)]
                          · rw [putF_other _ _ hz, HF.out z]
                            have hne : idxN z Db ≠ i := fun e => by
                              have hzD : z ∈ Db := idxN_lt.1 (by rw [e, HNB.out]; exact hin)
                              exact hz (idx_ne hzD (by rw [e, hyi]) hyD)
                            by_cases h1 : idxN z Db < i
                            · rw [if_pos h1, if_pos (by omega)]
                            · rw [if_neg h1, if_neg (by omega)]), HT.out⟩
                        case measure => simp [intOf]; omega
                      · have hin' : ¬ (i : Int) < (na : Int) := by omega
                        obtain rfl : i = na := by omega
                        have HVN := Lib.hid (show ∀ y ∈ Da, valN f y = (idxN y Db : Int) + 1 from fun y hy => by
                          unfold valN
                          rw [HF.out y, if_pos (by rw [← HNB.out]; exact idxN_lt.2 ((HDD.out y).1 hy))]
                          rfl)
                        have HDI2 := Lib.hid (show ∀ y ∈ Da, InI y from fun y hy => (HR3.out.1.bld.inv hn7).fits y ((HR3.out.1.bld.is y).1 (HR3.out.1.ok.com y hy)))
                        have HT := Lib.hid T
                        clear T
                        go_wp2_with fail
                        go_loopw [172] (fun u172 wr => ∃ i1 : Nat, u172 = .int .i64 i1 ∧ i1 ≤ i ∧ Sts W (fun _ => False) wr (numR gm nn cc f :: vecR 35 2 (.slice Ab i cb) i (vl IV Db) :: vecR 35 2 (.slice Aa i ca) i (vl IV Da) :: RR)) (fun u172 _ => i - (intOf u172).toNat)
                        case atStart => exact ⟨0, rfl, Nat.zero_le _, HT.out⟩
                        case round =>
                          clear HT
                          obtain ⟨i1, rfl, hi3, T⟩ := hrel
                          by_cases hin : i1 < i
                          · have hin' : (i1 : Int) < (i : Int) := by omega
                            have hi0 : (0 : Int) ≤ (i1 : Int) := by omega
                            obtain ⟨u, hu⟩ : ∃ y, Da[i1]? = some y := ⟨Da[i1]'(by rw [← HNA.out]; exact hin), List.getElem?_eq_getElem _⟩
                            obtain ⟨gi, rfl, hld⟩ := vec_load (P := Try.prog) (e := 35) TItem_size (by omega) TItem_und rfl (by kernel_rfl) (T.ord [2, 0, 1]) HNA.out hu (by omega)
                            have hcap : (i1 : Int) ≤ (ca : Int) := by
                              have T0 := T.ord [2, 0, 1]
                              have e1 := HNA.out
                              rw [e1] at T0
                              obtain ⟨A0, c0, hv0, -, hc0, -⟩ := vec_rows TItem_size T0 (by omega) (by omega)
                              injection hv0 with _ _ e3
                              omega
                            have hcap2 : i1 ≤ ca := by omega
                            have huD := List.mem_of_getElem? hu
                            obtain ⟨pu, hpu⟩ : ∃ k, k = idxN u Db := ⟨_, rfl⟩
                            have T2 := (T.new (IV u) 35).ord [1, 0]
                            have hlk := T2.lookN u (HDI2.out u huD)
                            rw [HVN.out u huD, ← hpu] at hlk
                            have hp0 : (((pu : Nat) : Int) + 1 == 0) = false := by rw [beq_eq_false_iff_ne]; omega
                            have hp1 : ¬ ((pu : Nat) : Int) + 1 = 0 := by omega
                            have hr := T2.row1; have hlt := row_lt hr
                            have HT := Lib.hid T2
                            have HU := Lib.hid hu; have HUD := Lib.hid huD; have HPU := Lib.hid hpu
                            clear T T2 hu huD hpu
                            go_upto_region 47 with fail
                            generalize hw5 : wr.alloc _ = w5 at *
                            generalize wr.heap.size = gu at *
                            clear hw5 hld
                            go_upto_region 49 with fail
                            clear hlk hp0 hp1
                            go_wp2_with fail
                            go_loopw [185] (fun u185 wx => ∃ k : Nat, u185 = .int .i64 k ∧ k ≤ i1 ∧ Sts W (fun _ => False) wx (numR gm nn cc f :: rowR gu (IV u) :: vecR 35 2 (.slice Ab i cb) i (vl IV Db) :: vecR 35 2 (.slice (some ⟨gi, 0, none⟩) i ca) i (vl IV Da) :: RR)) (fun u185 _ => i1 - (intOf u185).toNat)
                            case atStart => exact ⟨0, rfl, Nat.zero_le _, HT.out⟩
                            case round =>
                              clear HT hr hlt
                              obtain ⟨k, rfl, hk, T⟩ := hrel
                              by_cases hki : k < i1
                              · have hki' : (k : Int) < (i1 : Int) := by omega
                                have hk0 : (0 : Int) ≤ (k : Int) := by omega
                                obtain ⟨v, hv⟩ : ∃ y, Da[k]? = some y := ⟨Da[k]'(by rw [← HNA.out]; omega), List.getElem?_eq_getElem _⟩
                                obtain ⟨gi2, hg2, hld⟩ := vec_load (P := Try.prog) (e := 35) TItem_size (by omega) TItem_und rfl (by kernel_rfl) (T.ord [3, 0, 1, 2]) HNA.out hv (by omega)
                                cases hg2
                                have hvD := List.mem_of_getElem? hv
                                obtain ⟨cu, hcu⟩ : ∃ c, getMK m u = some c := Option.isSome_iff_exists.1 (HR3.out.1.ok.com u HUD.out)
                                obtain ⟨cv, hcv⟩ : ∃ c, getMK m v = some c := Option.isSome_iff_exists.1 (HR3.out.1.ok.com v hvD)
                                obtain ⟨ku, hku⟩ : ∃ k, k = idxN u items := ⟨_, rfl⟩
                                obtain ⟨kv, hkv⟩ : ∃ k, k = idxN v items := ⟨_, rfl⟩
                                have hcu2 : calls[ku]? = some cu := by rw [hku, ← HR3.out.1.bld.get, hcu]
                                have hcv2 : calls[kv]? = some cv := by rw [hkv, ← HR3.out.1.bld.get, hcv]
                                have hkul : ku < items.length := by rw [hku]; exact idxN_lt.2 ((HR3.out.1.bld.is u).1 (HR3.out.1.ok.com u HUD.out))
                                have hkvl : kv < items.length := by rw [hkv]; exact idxN_lt.2 ((HR3.out.1.bld.is v).1 (HR3.out.1.ok.com v hvD))
                                have hlen2 : items.length ≤ 25 := by have := HR3.out.1.bld.lei; omega
                                have hlc2 : calls.length = items.length := HR3.out.1.bld.len
                                have e := HRR.out
                                rw [← e] at T
                                obtain ⟨gcs, cc2, rfl, -⟩ := deps_at19 (gcs := 0) (cc := 0) (T.ord [6, 0, 1, 2, 3, 4, 5]) (by omega) hcu2
                                have T2 := ((T.vecNil 35 2).new (IV v) 35).ord [0, 3, 6, 7, 8, 1, 2, 4, 5]
                                obtain ⟨QQ, hQQ⟩ : ∃ L, L = [numR gm nn cc f, vecR 35 2 (.slice Ab i cb) i (vl IV Db), vecR 35 2 (.slice (some ⟨gi, 0, none⟩) i ca) i (vl IV Da)] := ⟨_, rfl⟩
                                have T3 : Sts W (fun _ => False) (wr.alloc (.cells (IV v) 35)) (rowR wr.heap.size (IV v) :: rowR gu (IV u) :: rowR g (docC vi (.slice (some ⟨gcs, 0, none⟩) calls.length cc2) (.slice none 0 0)) :: vecR 35 2 vi items.length (vl IV items) :: vecR 47 14 (.slice (some ⟨gcs, 0, none⟩) calls.length cc2) calls.length (vl CV calls) :: vecR 35 2 (.slice none 0 0) ([] : List Item).length (vl IV []) :: QQ) := by rw [hQQ]; exact T2
                                have HT := Lib.hid T3; have HQQ := Lib.hid hQQ
                                have HV := Lib.hid hv; have HVD := Lib.hid hvD; have HCU := Lib.hid hcu; have HCV := Lib.hid hcv
                                have HCU2 := Lib.hid hcu2; have HCV2 := Lib.hid hcv2
                                have HATU := Lib.hid (docAtR g vi (.slice (some ⟨gcs, 0, none⟩) calls.length cc2) (.slice none 0 0) items calls [] (by omega) u)
                                have HATV := Lib.hid (docAtR g vi (.slice (some ⟨gcs, 0, none⟩) calls.length cc2) (.slice none 0 0) items calls [] (by omega) v)
                                rw [show idxI u items = ((ku : Nat) : Int) from by unfold idxI; rw [← hku, if_pos hkul]] at HATU
                                rw [show idxI v items = ((kv : Nat) : Int) from by unfold idxI; rw [← hkv, if_pos hkvl]] at HATV
                                have hkul1 : ku < calls.length := by omega
                                have hkvl1 : kv < calls.length := by omega
                                have hlc25 : calls.length ≤ 25 := by omega
                                clear T T2 T3 hQQ hv hvD hcu hcv hku hkv hcu2 hcv2 hlen2 hlc2 e hkul hkvl
                                go_upto_region 52 with fail
                                generalize wr.alloc _ = w6 at *
                                generalize wr.heap.size = gv at *
                                clear hld
                                go_cut [27, 28] from 189 to 208 (fun u27 u28 wz => Sts W (fun _ => False) wz [] ∧ ∃ x1 x2, u27 = .pointer (some ⟨x1, 0, none⟩) ∧ u28 = .pointer (some ⟨x2, 0, none⟩) ∧ Sts W (fun _ => False) wz (rowR x1 (DV cu.deps) :: rowR x2 (DV cv.deps) :: rowR gv (IV v) :: rowR gu (IV u) :: rowR g (docC vi (.slice (some ⟨gcs, 0, none⟩) calls.length cc2) (.slice none 0 0)) :: vecR 35 2 vi items.length (vl IV items) :: vecR 47 14 (.slice (some ⟨gcs, 0, none⟩) calls.length cc2) calls.length (vl CV calls) :: vecR 35 2 (.slice none 0 0) ([] : List Item).length (vl IV []) :: QQ))
                                case first =>
                                  -- S52{
                                  have FS : ∀ W' R', Sts W (fun _ => False) W' (rowR gv (IV v) :: rowR gu (IV u) :: rowR g (docC vi (.slice (some ⟨gcs, 0, none⟩) calls.length cc2) (.slice none 0 0)) :: vecR 47 14 (.slice (some ⟨gcs, 0, none⟩) calls.length cc2) calls.length (vl CV calls) :: R') → (row? W' gu = some (IV u) ∧ row? W' gv = some (IV v) ∧ W'.cell? ⟨g, 1, none⟩ = some (.slice (some ⟨gcs, 0, none⟩) calls.length cc2) ∧ loadVal Try.prog 45 7 W' (.pointer (some ⟨gcs, ku * 14 + 6, none⟩)) = .ok (.agg (DV cu.deps)) W' ∧ loadVal Try.prog 45 7 W' (.pointer (some ⟨gcs, kv * 14 + 6, none⟩)) = .ok (.agg (DV cv.deps)) W') := fun W' R' T => by
                                    refine ⟨T.row1, T.row, by rw [row_cell T.row2 1]; rfl, ?_, ?_⟩
                                    · obtain ⟨g2, c2, e, h⟩ := deps_at19 (gcs := 0) (cc := 0) (T.ord [3, 0, 1, 2]) (by omega) HCU2.out
                                      injection e with e; injection e with e; injection e with e
                                      subst e
                                      exact h
                                    · obtain ⟨g2, c2, e, h⟩ := deps_at19 (gcs := 0) (cc := 0) (T.ord [3, 0, 1, 2]) (by omega) HCV2.out
                                      injection e with e; injection e with e; injection e with e
                                      subst e
                                      exact h
                                  have HFS := Lib.hid FS; clear FS
                                  have S0 := HFS.out _ _ (HT.out.drew.ord [0, 1, 2, 4, 3, 5])
                                  have T1 := HT.out.drew
                                  clear HT
                                  have HT := Lib.hid T1
                                  clear T1
                                  refine wp_region_held_drew (S := fun W' => (row? W' gu = some (IV u) ∧ row? W' gv = some (IV v) ∧ W'.cell? ⟨g, 1, none⟩ = some (.slice (some ⟨gcs, 0, none⟩) calls.length cc2) ∧ loadVal Try.prog 45 7 W' (.pointer (some ⟨gcs, ku * 14 + 6, none⟩)) = .ok (.agg (DV cu.deps)) W' ∧ loadVal Try.prog 45 7 W' (.pointer (some ⟨gcs, kv * 14 + 6, none⟩)) = .ok (.agg (DV cv.deps)) W')) (by kernel_rfl) S0 (fun hHeld => ?_)
                                  clear S0
                                  generalize w6.drew = w7 at *
                                  refine tkH 0 rfl (v := ?_) ?_ ?_
                                  rotate_left
                                  · intro w h; (try dsimp only at h); go_simp; try with_reducible rfl
                                  simp only [Act.put, List.setIfInBounds_toArray, List.set_cons_zero, List.set_cons_succ]
                                  refine tkH 1 rfl (v := ?_) ?_ ?_
                                  rotate_left
                                  · intro w h; (try dsimp only at h); go_simp; try with_reducible rfl
                                  go_frame
                                  refine tkH 2 rfl (v := ?_) ?_ ?_
                                  rotate_left
                                  · intro w h; (try dsimp only at h); go_simp; try with_reducible rfl
                                  go_frame
                                  refine tkH 3 rfl (v := ?_) ?_ ?_
                                  rotate_left
                                  · intro w h; (try dsimp only at h); go_simp; try with_reducible rfl
                                  go_frame
                                  refine tkH 4 rfl (v := ?_) ?_ ?_
                                  rotate_left
                                  · intro w h; (try dsimp only at h); go_simp; try with_reducible rfl
                                  go_frame
                                  refine tkH 5 rfl (v := ?_) ?_ ?_
                                  rotate_left
                                  · intro w h; (try dsimp only at h); go_simp; try with_reducible rfl
                                  go_frame
                                  refine tkH 10 rfl (v := ?_) ?_ ?_
                                  rotate_left
                                  · intro w h; (try dsimp only at h); go_simp; try with_reducible rfl
                                  go_frame
                                  refine tkH 11 rfl (v := ?_) ?_ ?_
                                  rotate_left
                                  · intro w h; (try dsimp only at h); go_simp; try with_reducible rfl
                                  go_frame
                                  refine tkH 12 rfl (v := ?_) ?_ ?_
                                  rotate_left
                                  · intro w h; (try dsimp only at h); go_simp; try with_reducible rfl
                                  go_frame
                                  refine tkH 13 rfl (v := ?_) ?_ ?_
                                  rotate_left
                                  · intro w h; (try dsimp only at h); go_simp; try with_reducible rfl
                                  go_frame
                                  refine tkH 14 rfl (v := ?_) ?_ ?_
                                  rotate_left
                                  · intro w h; (try dsimp only at h); go_simp; try with_reducible rfl
                                  go_frame
                                  refine tkH 15 rfl (v := ?_) ?_ ?_
                                  rotate_left
                                  · intro w h; (try dsimp only at h); go_simp; try with_reducible rfl
                                  go_frame
                                  have hku9 : (ku : Int) < (calls.length : Int) := by omega
                                  have hku8 : (0 : Int) ≤ (ku : Int) := by omega
                                  have hkv9 : (kv : Int) < (calls.length : Int) := by omega
                                  have hkv8 : (0 : Int) ≤ (kv : Int) := by omega
                                  clear hkul1 hkvl1 hlc25
                                  refine wpAnyH_ready (rs := [6, 20, 21]) (by kernel_rfl) (by simp) ?_
                                  refine AllReadyH.cons (o := _) rfl (fun K hK => ?_) ?_
                                  · go_simp
                                    refine (HATU.out.at (R := _ :: _) (by have T0 := HT.out.ord [2, 3, 4, 5, 0, 1]; exact T0)).mono ?_
                                    rintro e12 w8 ⟨rfl, hb⟩
                                    have T1 := HT.out.pure hb
                                    clear hb HT HATU
                                    have HT := Lib.hid T1
                                    clear T1
                                    refine hK.out _ _ (HFS.out _ _ (HT.out.ord [0, 1, 2, 4, 3, 5])) (fun hHeld => ?_)
                                    clear hK K
                                    refine tkH 7 rfl (v := ?_) ?_ ?_
                                    rotate_left
                                    · intro w h; (try dsimp only at h); go_simp; try with_reducible rfl
                                    simp only [Act.put, List.setIfInBounds_toArray, List.set_cons_zero, List.set_cons_succ]
                                    refine tkH 8 rfl (v := ?_) ?_ ?_
                                    rotate_left
                                    · intro w h; (try dsimp only at h); go_simp; try with_reducible rfl
                                    go_frame
                                    refine tkH 9 rfl (v := ?_) ?_ ?_
                                    rotate_left
                                    · intro w h; (try dsimp only at h); go_simp; try with_reducible rfl
                                    go_frame
                                    refine wpAnyH_ready (rs := [16, 20, 21]) (by kernel_rfl) (by simp) ?_
                                    refine AllReadyH.cons (o := _) rfl (fun K hK => ?_) ?_
                                    · go_simp
                                      refine (HATV.out.at (R := _ :: _) (by have T0 := HT.out.ord [2, 3, 4, 5, 0, 1]; exact T0)).mono ?_
                                      rintro e12 w9 ⟨rfl, hb⟩
                                      have T1 := HT.out.pure hb
                                      clear hb HT HATV
                                      have HT := Lib.hid T1
                                      clear T1
                                      refine hK.out _ _ (HFS.out _ _ (HT.out.ord [0, 1, 2, 4, 3, 5])) (fun hHeld => ?_)
                                      clear hK K
                                      refine tkH 17 rfl (v := ?_) ?_ ?_
                                      rotate_left
                                      · intro w h; (try dsimp only at h); go_simp; try with_reducible rfl
                                      simp only [Act.put, List.setIfInBounds_toArray, List.set_cons_zero, List.set_cons_succ]
                                      refine tkH 18 rfl (v := ?_) ?_ ?_
                                      rotate_left
                                      · intro w h; (try dsimp only at h); go_simp; try with_reducible rfl
                                      go_frame
                                      refine tkH 19 rfl (v := ?_) ?_ ?_
                                      rotate_left
                                      · intro w h; (try dsimp only at h); go_simp; try with_reducible rfl
                                      go_frame
                                      refine wpAnyH_ready (rs := [20, 21]) (by kernel_rfl) (by simp) ?_
                                      refine AllReadyH.cons (o := _) rfl (fun K hK => ?_) ?_
                                      · have T1 := HT.out.new #[.int .i64 0, .int .i64 0, .int .i64 0, .int .i64 0, .int .i64 0, .int .i64 0, .int .i64 0] 45
                                        clear HT
                                        have HT := Lib.hid T1
                                        clear T1
                                        go_simp
                                        refine hK.out _ _ (HFS.out _ _ (HT.out.ord [1, 2, 3, 5, 0, 4, 6])) (fun hHeld => ?_)
                                        clear hK K
                                        generalize w9.alloc _ = w10 at *
                                        generalize w9.heap.size = x20 at *
                                        refine wpAnyH_ready (rs := [21]) (by kernel_rfl) (by simp) ?_
                                        refine AllReadyH.cons (o := _) rfl (fun K hK => ?_) AllReadyH.nil
                                        have T1 := HT.out.new #[.int .i64 0, .int .i64 0, .int .i64 0, .int .i64 0, .int .i64 0, .int .i64 0, .int .i64 0] 45
                                        clear HT
                                        have HT := Lib.hid T1
                                        clear T1
                                        go_simp
                                        refine hK.out _ _ (HFS.out _ _ (HT.out.ord [2, 3, 4, 6, 0, 1, 5, 7])) (fun hHeld => ?_)
                                        clear hK K
                                        generalize w10.alloc _ = w11 at *
                                        generalize w10.heap.size = x21 at *
                                        have T1 := HT.out.ord [1, 0]
                                        have r2 := T1.row; have l2 := row_lt r2
                                        have T2 := T1.setRow (DV cu.deps)
                                        clear HT
                                        have HT := Lib.hid T2
                                        clear T1 T2
                                        refine wpAnyH_ready (rs := [22]) (by kernel_rfl) (by simp) ?_
                                        refine AllReadyH.cons (o := _) rfl (fun K hK => ?_) AllReadyH.nil
                                        go_simp
                                        refine hK.out _ _ (HFS.out _ _ (HT.out.ord [2, 3, 4, 6, 0, 1, 5, 7])) (fun hHeld => ?_)
                                        clear hK K r2 l2
                                        generalize w11.setRow _ _ = w12 at *
                                        have T1 := HT.out.ord [1, 0]
                                        have r2 := T1.row; have l2 := row_lt r2
                                        have T2 := T1.setRow (DV cv.deps)
                                        clear HT
                                        have HT := Lib.hid T2
                                        clear T1 T2
                                        refine wpAnyH_ready (rs := [23]) (by kernel_rfl) (by simp) ?_
                                        refine AllReadyH.cons (o := _) rfl (fun K hK => ?_) AllReadyH.nil
                                        go_simp
                                        refine hK.out _ _ (HFS.out _ _ (HT.out.ord [2, 3, 4, 6, 0, 1, 5, 7])) (fun hHeld => ?_)
                                        clear hK K r2 l2
                                        generalize w12.setRow _ _ = w13 at *
                                        refine wpAnyH_done (by kernel_rfl) ?_ _
                                        simp only [Exit.then]
                                        go_step
                                        go_meet
                                        case rel => exact ⟨HT.out.nil, _, _, rfl, rfl, HT.out.ord [1, 0]⟩
                                      refine AllReadyH.cons (o := _) rfl (fun K hK => ?_) AllReadyH.nil
                                      have T1 := HT.out.new #[.int .i64 0, .int .i64 0, .int .i64 0, .int .i64 0, .int .i64 0, .int .i64 0, .int .i64 0] 45
                                      clear HT
                                      have HT := Lib.hid T1
                                      clear T1
                                      go_simp
                                      refine hK.out _ _ (HFS.out _ _ (HT.out.ord [1, 2, 3, 5, 0, 4, 6])) (fun hHeld => ?_)
                                      clear hK K
                                      generalize w9.alloc _ = w10 at *
                                      generalize w9.heap.size = x21 at *
                                      refine wpAnyH_ready (rs := [20]) (by kernel_rfl) (by simp) ?_
                                      refine AllReadyH.cons (o := _) rfl (fun K hK => ?_) AllReadyH.nil
                                      have T1 := HT.out.new #[.int .i64 0, .int .i64 0, .int .i64 0, .int .i64 0, .int .i64 0, .int .i64 0, .int .i64 0] 45
                                      clear HT
                                      have HT := Lib.hid T1
                                      clear T1
                                      go_simp
                                      refine hK.out _ _ (HFS.out _ _ (HT.out.ord [2, 3, 4, 6, 0, 1, 5, 7])) (fun hHeld => ?_)
                                      clear hK K
                                      generalize w10.alloc _ = w11 at *
                                      generalize w10.heap.size = x20 at *
                                      have T1 := HT.out.ord [0, 1]
                                      have r2 := T1.row; have l2 := row_lt r2
                                      have T2 := T1.setRow (DV cu.deps)
                                      clear HT
                                      have HT := Lib.hid T2
                                      clear T1 T2
                                      refine wpAnyH_ready (rs := [22]) (by kernel_rfl) (by simp) ?_
                                      refine AllReadyH.cons (o := _) rfl (fun K hK => ?_) AllReadyH.nil
                                      go_simp
                                      refine hK.out _ _ (HFS.out _ _ (HT.out.ord [2, 3, 4, 6, 0, 1, 5, 7])) (fun hHeld => ?_)
                                      clear hK K r2 l2
                                      generalize w11.setRow _ _ = w12 at *
                                      have T1 := HT.out.ord [1, 0]
                                      have r2 := T1.row; have l2 := row_lt r2
                                      have T2 := T1.setRow (DV cv.deps)
                                      clear HT
                                      have HT := Lib.hid T2
                                      clear T1 T2
                                      refine wpAnyH_ready (rs := [23]) (by kernel_rfl) (by simp) ?_
                                      refine AllReadyH.cons (o := _) rfl (fun K hK => ?_) AllReadyH.nil
                                      go_simp
                                      refine hK.out _ _ (HFS.out _ _ (HT.out.ord [2, 3, 4, 6, 0, 1, 5, 7])) (fun hHeld => ?_)
                                      clear hK K r2 l2
                                      generalize w12.setRow _ _ = w13 at *
                                      refine wpAnyH_done (by kernel_rfl) ?_ _
                                      simp only [Exit.then]
                                      go_step
                                      go_meet
                                      case rel => exact ⟨HT.out.nil, _, _, rfl, rfl, HT.out.ord [1, 0]⟩
                                    refine AllReadyH.cons (o := _) rfl (fun K hK => ?_) ?_
                                    · have T1 := HT.out.new #[.int .i64 0, .int .i64 0, .int .i64 0, .int .i64 0, .int .i64 0, .int .i64 0, .int .i64 0] 45
                                      clear HT
                                      have HT := Lib.hid T1
                                      clear T1
                                      go_simp
                                      refine hK.out _ _ (HFS.out _ _ (HT.out.ord [1, 2, 3, 5, 0, 4, 6])) (fun hHeld => ?_)
                                      clear hK K
                                      generalize w8.alloc _ = w9 at *
                                      generalize w8.heap.size = x20 at *
                                      refine wpAnyH_ready (rs := [16, 21]) (by kernel_rfl) (by simp) ?_
                                      refine AllReadyH.cons (o := _) rfl (fun K hK => ?_) ?_
                                      · go_simp
                                        refine (HATV.out.at (R := _ :: _) (by have T0 := HT.out.ord [3, 4, 5, 6, 0, 1, 2]; exact T0)).mono ?_
                                        rintro e12 w10 ⟨rfl, hb⟩
                                        have T1 := HT.out.pure hb
                                        clear hb HT HATV
                                        have HT := Lib.hid T1
                                        clear T1
                                        refine hK.out _ _ (HFS.out _ _ (HT.out.ord [1, 2, 3, 5, 0, 4, 6])) (fun hHeld => ?_)
                                        clear hK K
                                        refine tkH 17 rfl (v := ?_) ?_ ?_
                                        rotate_left
                                        · intro w h; (try dsimp only at h); go_simp; try with_reducible rfl
                                        simp only [Act.put, List.setIfInBounds_toArray, List.set_cons_zero, List.set_cons_succ]
                                        refine tkH 18 rfl (v := ?_) ?_ ?_
                                        rotate_left
                                        · intro w h; (try dsimp only at h); go_simp; try with_reducible rfl
                                        go_frame
                                        refine tkH 19 rfl (v := ?_) ?_ ?_
                                        rotate_left
                                        · intro w h; (try dsimp only at h); go_simp; try with_reducible rfl
                                        go_frame
                                        refine wpAnyH_ready (rs := [21]) (by kernel_rfl) (by simp) ?_
                                        refine AllReadyH.cons (o := _) rfl (fun K hK => ?_) AllReadyH.nil
                                        have T1 := HT.out.new #[.int .i64 0, .int .i64 0, .int .i64 0, .int .i64 0, .int .i64 0, .int .i64 0, .int .i64 0] 45
                                        clear HT
                                        have HT := Lib.hid T1
                                        clear T1
                                        go_simp
                                        refine hK.out _ _ (HFS.out _ _ (HT.out.ord [2, 3, 4, 6, 0, 1, 5, 7])) (fun hHeld => ?_)
                                        clear hK K
                                        generalize w10.alloc _ = w11 at *
                                        generalize w10.heap.size = x21 at *
                                        have T1 := HT.out.ord [1, 0]
                                        have r2 := T1.row; have l2 := row_lt r2
                                        have T2 := T1.setRow (DV cu.deps)
                                        clear HT
                                        have HT := Lib.hid T2
                                        clear T1 T2
                                        refine wpAnyH_ready (rs := [22]) (by kernel_rfl) (by simp) ?_
                                        refine AllReadyH.cons (o := _) rfl (fun K hK => ?_) AllReadyH.nil
                                        go_simp
                                        refine hK.out _ _ (HFS.out _ _ (HT.out.ord [2, 3, 4, 6, 0, 1, 5, 7])) (fun hHeld => ?_)
                                        clear hK K r2 l2
                                        generalize w11.setRow _ _ = w12 at *
                                        have T1 := HT.out.ord [1, 0]
                                        have r2 := T1.row; have l2 := row_lt r2
                                        have T2 := T1.setRow (DV cv.deps)
                                        clear HT
                                        have HT := Lib.hid T2
                                        clear T1 T2
                                        refine wpAnyH_ready (rs := [23]) (by kernel_rfl) (by simp) ?_
                                        refine AllReadyH.cons (o := _) rfl (fun K hK => ?_) AllReadyH.nil
                                        go_simp
                                        refine hK.out _ _ (HFS.out _ _ (HT.out.ord [2, 3, 4, 6, 0, 1, 5, 7])) (fun hHeld => ?_)
                                        clear hK K r2 l2
                                        generalize w12.setRow _ _ = w13 at *
                                        refine wpAnyH_done (by kernel_rfl) ?_ _
                                        simp only [Exit.then]
                                        go_step
                                        go_meet
                                        case rel => exact ⟨HT.out.nil, _, _, rfl, rfl, HT.out.ord [1, 0]⟩
                                      refine AllReadyH.cons (o := _) rfl (fun K hK => ?_) AllReadyH.nil
                                      have T1 := HT.out.new #[.int .i64 0, .int .i64 0, .int .i64 0, .int .i64 0, .int .i64 0, .int .i64 0, .int .i64 0] 45
                                      clear HT
                                      have HT := Lib.hid T1
                                      clear T1
                                      go_simp
                                      refine hK.out _ _ (HFS.out _ _ (HT.out.ord [2, 3, 4, 6, 0, 1, 5, 7])) (fun hHeld => ?_)
                                      clear hK K
                                      generalize w9.alloc _ = w10 at *
                                      generalize w9.heap.size = x21 at *
                                      refine wpAnyH_ready (rs := [16]) (by kernel_rfl) (by simp) ?_
                                      refine AllReadyH.cons (o := _) rfl (fun K hK => ?_) AllReadyH.nil
                                      go_simp
                                      refine (HATV.out.at (R := _ :: _) (by have T0 := HT.out.ord [4, 5, 6, 7, 0, 1, 2, 3]; exact T0)).mono ?_
                                      rintro e12 w11 ⟨rfl, hb⟩
                                      have T1 := HT.out.pure hb
                                      clear hb HT HATV
                                      have HT := Lib.hid T1
                                      clear T1
                                      refine hK.out _ _ (HFS.out _ _ (HT.out.ord [2, 3, 4, 6, 0, 1, 5, 7])) (fun hHeld => ?_)
                                      clear hK K
                                      refine tkH 17 rfl (v := ?_) ?_ ?_
                                      rotate_left
                                      · intro w h; (try dsimp only at h); go_simp; try with_reducible rfl
                                      simp only [Act.put, List.setIfInBounds_toArray, List.set_cons_zero, List.set_cons_succ]
                                      refine tkH 18 rfl (v := ?_) ?_ ?_
                                      rotate_left
                                      · intro w h; (try dsimp only at h); go_simp; try with_reducible rfl
                                      go_frame
                                      refine tkH 19 rfl (v := ?_) ?_ ?_
                                      rotate_left
                                      · intro w h; (try dsimp only at h); go_simp; try with_reducible rfl
                                      go_frame
                                      have T1 := HT.out.ord [1, 0]
                                      have r2 := T1.row; have l2 := row_lt r2
                                      have T2 := T1.setRow (DV cu.deps)
                                      clear HT
                                      have HT := Lib.hid T2
                                      clear T1 T2
                                      refine wpAnyH_ready (rs := [22]) (by kernel_rfl) (by simp) ?_
                                      refine AllReadyH.cons (o := _) rfl (fun K hK => ?_) AllReadyH.nil
                                      go_simp
                                      refine hK.out _ _ (HFS.out _ _ (HT.out.ord [2, 3, 4, 6, 0, 1, 5, 7])) (fun hHeld => ?_)
                                      clear hK K r2 l2
                                      generalize w11.setRow _ _ = w12 at *
                                      have T1 := HT.out.ord [1, 0]
                                      have r2 := T1.row; have l2 := row_lt r2
                                      have T2 := T1.setRow (DV cv.deps)
                                      clear HT
                                      have HT := Lib.hid T2
                                      clear T1 T2
                                      refine wpAnyH_ready (rs := [23]) (by kernel_rfl) (by simp) ?_
                                      refine AllReadyH.cons (o := _) rfl (fun K hK => ?_) AllReadyH.nil
                                      go_simp
                                      refine hK.out _ _ (HFS.out _ _ (HT.out.ord [2, 3, 4, 6, 0, 1, 5, 7])) (fun hHeld => ?_)
                                      clear hK K r2 l2
                                      generalize w12.setRow _ _ = w13 at *
                                      refine wpAnyH_done (by kernel_rfl) ?_ _
                                      simp only [Exit.then]
                                      go_step
                                      go_meet
                                      case rel => exact ⟨HT.out.nil, _, _, rfl, rfl, HT.out.ord [1, 0]⟩
                                    refine AllReadyH.cons (o := _) rfl (fun K hK => ?_) AllReadyH.nil
                                    have T1 := HT.out.new #[.int .i64 0, .int .i64 0, .int .i64 0, .int .i64 0, .int .i64 0, .int .i64 0, .int .i64 0] 45
                                    clear HT
                                    have HT := Lib.hid T1
                                    clear T1
                                    go_simp
                                    refine hK.out _ _ (HFS.out _ _ (HT.out.ord [1, 2, 3, 5, 0, 4, 6])) (fun hHeld => ?_)
                                    clear hK K
                                    generalize w8.alloc _ = w9 at *
                                    generalize w8.heap.size = x21 at *
                                    refine wpAnyH_ready (rs := [16, 20]) (by kernel_rfl) (by simp) ?_
                                    refine AllReadyH.cons (o := _) rfl (fun K hK => ?_) ?_
                                    · go_simp
                                      refine (HATV.out.at (R := _ :: _) (by have T0 := HT.out.ord [3, 4, 5, 6, 0, 1, 2]; exact T0)).mono ?_
                                      rintro e12 w10 ⟨rfl, hb⟩
                                      have T1 := HT.out.pure hb
                                      clear hb HT HATV
                                      have HT := Lib.hid T1
                                      clear T1
                                      refine hK.out _ _ (HFS.out _ _ (HT.out.ord [1, 2, 3, 5, 0, 4, 6])) (fun hHeld => ?_)
                                      clear hK K
                                      refine tkH 17 rfl (v := ?_) ?_ ?_
                                      rotate_left
                                      · intro w h; (try dsimp only at h); go_simp; try with_reducible rfl
                                      simp only [Act.put, List.setIfInBounds_toArray, List.set_cons_zero, List.set_cons_succ]
                                      refine tkH 18 rfl (v := ?_) ?_ ?_
                                      rotate_left
                                      · intro w h; (try dsimp only at h); go_simp; try with_reducible rfl
                                      go_frame
                                      refine tkH 19 rfl (v := ?_) ?_ ?_
                                      rotate_left
                                      · intro w h; (try dsimp only at h); go_simp; try with_reducible rfl
                                      go_frame
                                      refine wpAnyH_ready (rs := [20]) (by kernel_rfl) (by simp) ?_
                                      refine AllReadyH.cons (o := _) rfl (fun K hK => ?_) AllReadyH.nil
                                      have T1 := HT.out.new #[.int .i64 0, .int .i64 0, .int .i64 0, .int .i64 0, .int .i64 0, .int .i64 0, .int .i64 0] 45
                                      clear HT
                                      have HT := Lib.hid T1
                                      clear T1
                                      go_simp
                                      refine hK.out _ _ (HFS.out _ _ (HT.out.ord [2, 3, 4, 6, 0, 1, 5, 7])) (fun hHeld => ?_)
                                      clear hK K
                                      generalize w10.alloc _ = w11 at *
                                      generalize w10.heap.size = x20 at *
                                      have T1 := HT.out.ord [0, 1]
                                      have r2 := T1.row; have l2 := row_lt r2
                                      have T2 := T1.setRow (DV cu.deps)
                                      clear HT
                                      have HT := Lib.hid T2
                                      clear T1 T2
                                      refine wpAnyH_ready (rs := [22]) (by kernel_rfl) (by simp) ?_
                                      refine AllReadyH.cons (o := _) rfl (fun K hK => ?_) AllReadyH.nil
                                      go_simp
                                      refine hK.out _ _ (HFS.out _ _ (HT.out.ord [2, 3, 4, 6, 0, 1, 5, 7])) (fun hHeld => ?_)
                                      clear hK K r2 l2
                                      generalize w11.setRow _ _ = w12 at *
                                      have T1 := HT.out.ord [1, 0]
                                      have r2 := T1.row; have l2 := row_lt r2
                                      have T2 := T1.setRow (DV cv.deps)
                                      clear HT
                                      have HT := Lib.hid T2
                                      clear T1 T2
                                      refine wpAnyH_ready (rs := [23]) (by kernel_rfl) (by simp) ?_
                                      refine AllReadyH.cons (o := _) rfl (fun K hK => ?_) AllReadyH.nil
                                      go_simp
                                      refine hK.out _ _ (HFS.out _ _ (HT.out.ord [2, 3, 4, 6, 0, 1, 5, 7])) (fun hHeld => ?_)
                                      clear hK K r2 l2
                                      generalize w12.setRow _ _ = w13 at *
                                      refine wpAnyH_done (by kernel_rfl) ?_ _
                                      simp only [Exit.then]
                                      go_step
                                      go_meet
                                      case rel => exact ⟨HT.out.nil, _, _, rfl, rfl, HT.out.ord [1, 0]⟩
                                    refine AllReadyH.cons (o := _) rfl (fun K hK => ?_) AllReadyH.nil
                                    have T1 := HT.out.new #[.int .i64 0, .int .i64 0, .int .i64 0, .int .i64 0, .int .i64 0, .int .i64 0, .int .i64 0] 45
                                    clear HT
                                    have HT := Lib.hid T1
                                    clear T1
                                    go_simp
                                    refine hK.out _ _ (HFS.out _ _ (HT.out.ord [2, 3, 4, 6, 0, 1, 5, 7])) (fun hHeld => ?_)
                                    clear hK K
                                    generalize w9.alloc _ = w10 at *
                                    generalize w9.heap.size = x20 at *
                                    refine wpAnyH_ready (rs := [16]) (by kernel_rfl) (by simp) ?_
                                    refine AllReadyH.cons (o := _) rfl (fun K hK => ?_) AllReadyH.nil
                                    go_simp
                                    refine (HATV.out.at (R := _ :: _) (by have T0 := HT.out.ord [4, 5, 6, 7, 0, 1, 2, 3]; exact T0)).mono ?_
                                    rintro e12 w11 ⟨rfl, hb⟩
                                    have T1 := HT.out.pure hb
                                    clear hb HT HATV
                                    have HT := Lib.hid T1
                                    clear T1
                                    refine hK.out _ _ (HFS.out _ _ (HT.out.ord [2, 3, 4, 6, 0, 1, 5, 7])) (fun hHeld => ?_)
                                    clear hK K
                                    refine tkH 17 rfl (v := ?_) ?_ ?_
                                    rotate_left
                                    · intro w h; (try dsimp only at h); go_simp; try with_reducible rfl
                                    simp only [Act.put, List.setIfInBounds_toArray, List.set_cons_zero, List.set_cons_succ]
                                    refine tkH 18 rfl (v := ?_) ?_ ?_
                                    rotate_left
                                    · intro w h; (try dsimp only at h); go_simp; try with_reducible rfl
                                    go_frame
                                    refine tkH 19 rfl (v := ?_) ?_ ?_
                                    rotate_left
                                    · intro w h; (try dsimp only at h); go_simp; try with_reducible rfl
                                    go_frame
                                    have T1 := HT.out.ord [0, 1]
                                    have r2 := T1.row; have l2 := row_lt r2
                                    have T2 := T1.setRow (DV cu.deps)
                                    clear HT
                                    have HT := Lib.hid T2
                                    clear T1 T2
                                    refine wpAnyH_ready (rs := [22]) (by kernel_rfl) (by simp) ?_
                                    refine AllReadyH.cons (o := _) rfl (fun K hK => ?_) AllReadyH.nil
                                    go_simp
                                    refine hK.out _ _ (HFS.out _ _ (HT.out.ord [2, 3, 4, 6, 0, 1, 5, 7])) (fun hHeld => ?_)
                                    clear hK K r2 l2
                                    generalize w11.setRow _ _ = w12 at *
                                    have T1 := HT.out.ord [1, 0]
                                    have r2 := T1.row; have l2 := row_lt r2
                                    have T2 := T1.setRow (DV cv.deps)
                                    clear HT
                                    have HT := Lib.hid T2
                                    clear T1 T2
                                    refine wpAnyH_ready (rs := [23]) (by kernel_rfl) (by simp) ?_
                                    refine AllReadyH.cons (o := _) rfl (fun K hK => ?_) AllReadyH.nil
                                    go_simp
                                    refine hK.out _ _ (HFS.out _ _ (HT.out.ord [2, 3, 4, 6, 0, 1, 5, 7])) (fun hHeld => ?_)
                                    clear hK K r2 l2
                                    generalize w12.setRow _ _ = w13 at *
                                    refine wpAnyH_done (by kernel_rfl) ?_ _
                                    simp only [Exit.then]
                                    go_step
                                    go_meet
                                    case rel => exact ⟨HT.out.nil, _, _, rfl, rfl, HT.out.ord [1, 0]⟩
                                  refine AllReadyH.cons (o := _) rfl (fun K hK => ?_) ?_
                                  · have T1 := HT.out.new #[.int .i64 0, .int .i64 0, .int .i64 0, .int .i64 0, .int .i64 0, .int .i64 0, .int .i64 0] 45
                                    clear HT
                                    have HT := Lib.hid T1
                                    clear T1
                                    go_simp
                                    refine hK.out _ _ (HFS.out _ _ (HT.out.ord [1, 2, 3, 5, 0, 4, 6])) (fun hHeld => ?_)
                                    clear hK K
                                    generalize w7.alloc _ = w8 at *
                                    generalize w7.heap.size = x20 at *
                                    refine wpAnyH_ready (rs := [6, 21]) (by kernel_rfl) (by simp) ?_
                                    refine AllReadyH.cons (o := _) rfl (fun K hK => ?_) ?_
                                    · go_simp
                                      refine (HATU.out.at (R := _ :: _) (by have T0 := HT.out.ord [3, 4, 5, 6, 0, 1, 2]; exact T0)).mono ?_
                                      rintro e12 w9 ⟨rfl, hb⟩
                                      have T1 := HT.out.pure hb
                                      clear hb HT HATU
                                      have HT := Lib.hid T1
                                      clear T1
                                      refine hK.out _ _ (HFS.out _ _ (HT.out.ord [1, 2, 3, 5, 0, 4, 6])) (fun hHeld => ?_)
                                      clear hK K
                                      refine tkH 7 rfl (v := ?_) ?_ ?_
                                      rotate_left
                                      · intro w h; (try dsimp only at h); go_simp; try with_reducible rfl
                                      simp only [Act.put, List.setIfInBounds_toArray, List.set_cons_zero, List.set_cons_succ]
                                      refine tkH 8 rfl (v := ?_) ?_ ?_
                                      rotate_left
                                      · intro w h; (try dsimp only at h); go_simp; try with_reducible rfl
                                      go_frame
                                      refine tkH 9 rfl (v := ?_) ?_ ?_
                                      rotate_left
                                      · intro w h; (try dsimp only at h); go_simp; try with_reducible rfl
                                      go_frame
                                      refine wpAnyH_ready (rs := [16, 21]) (by kernel_rfl) (by simp) ?_
                                      refine AllReadyH.cons (o := _) rfl (fun K hK => ?_) ?_
                                      · go_simp
                                        refine (HATV.out.at (R := _ :: _) (by have T0 := HT.out.ord [3, 4, 5, 6, 0, 1, 2]; exact T0)).mono ?_
                                        rintro e12 w10 ⟨rfl, hb⟩
                                        have T1 := HT.out.pure hb
                                        clear hb HT HATV
                                        have HT := Lib.hid T1
                                        clear T1
                                        refine hK.out _ _ (HFS.out _ _ (HT.out.ord [1, 2, 3, 5, 0, 4, 6])) (fun hHeld => ?_)
                                        clear hK K
                                        refine tkH 17 rfl (v := ?_) ?_ ?_
                                        rotate_left
                                        · intro w h; (try dsimp only at h); go_simp; try with_reducible rfl
                                        simp only [Act.put, List.setIfInBounds_toArray, List.set_cons_zero, List.set_cons_succ]
                                        refine tkH 18 rfl (v := ?_) ?_ ?_
                                        rotate_left
                                        · intro w h; (try dsimp only at h); go_simp; try with_reducible rfl
                                        go_frame
                                        refine tkH 19 rfl (v := ?_) ?_ ?_
                                        rotate_left
                                        · intro w h; (try dsimp only at h); go_simp; try with_reducible rfl
                                        go_frame
                                        refine wpAnyH_ready (rs := [21]) (by kernel_rfl) (by simp) ?_
                                        refine AllReadyH.cons (o := _) rfl (fun K hK => ?_) AllReadyH.nil
                                        have T1 := HT.out.new #[.int .i64 0, .int .i64 0, .int .i64 0, .int .i64 0, .int .i64 0, .int .i64 0, .int .i64 0] 45
                                        clear HT
                                        have HT := Lib.hid T1
                                        clear T1
                                        go_simp
                                        refine hK.out _ _ (HFS.out _ _ (HT.out.ord [2, 3, 4, 6, 0, 1, 5, 7])) (fun hHeld => ?_)
                                        clear hK K
                                        generalize w10.alloc _ = w11 at *
                                        generalize w10.heap.size = x21 at *
                                        have T1 := HT.out.ord [1, 0]
                                        have r2 := T1.row; have l2 := row_lt r2
                                        have T2 := T1.setRow (DV cu.deps)
                                        clear HT
                                        have HT := Lib.hid T2
                                        clear T1 T2
                                        refine wpAnyH_ready (rs := [22]) (by kernel_rfl) (by simp) ?_
                                        refine AllReadyH.cons (o := _) rfl (fun K hK => ?_) AllReadyH.nil
                                        go_simp
                                        refine hK.out _ _ (HFS.out _ _ (HT.out.ord [2, 3, 4, 6, 0, 1, 5, 7])) (fun hHeld => ?_)
                                        clear hK K r2 l2
                                        generalize w11.setRow _ _ = w12 at *
                                        have T1 := HT.out.ord [1, 0]
                                        have r2 := T1.row; have l2 := row_lt r2
                                        have T2 := T1.setRow (DV cv.deps)
                                        clear HT
                                        have HT := Lib.hid T2
                                        clear T1 T2
                                        refine wpAnyH_ready (rs := [23]) (by kernel_rfl) (by simp) ?_
                                        refine AllReadyH.cons (o := _) rfl (fun K hK => ?_) AllReadyH.nil
                                        go_simp
                                        refine hK.out _ _ (HFS.out _ _ (HT.out.ord [2, 3, 4, 6, 0, 1, 5, 7])) (fun hHeld => ?_)
                                        clear hK K r2 l2
                                        generalize w12.setRow _ _ = w13 at *
                                        refine wpAnyH_done (by kernel_rfl) ?_ _
                                        simp only [Exit.then]
                                        go_step
                                        go_meet
                                        case rel => exact ⟨HT.out.nil, _, _, rfl, rfl, HT.out.ord [1, 0]⟩
                                      refine AllReadyH.cons (o := _) rfl (fun K hK => ?_) AllReadyH.nil
                                      have T1 := HT.out.new #[.int .i64 0, .int .i64 0, .int .i64 0, .int .i64 0, .int .i64 0, .int .i64 0, .int .i64 0] 45
                                      clear HT
                                      have HT := Lib.hid T1
                                      clear T1
                                      go_simp
                                      refine hK.out _ _ (HFS.out _ _ (HT.out.ord [2, 3, 4, 6, 0, 1, 5, 7])) (fun hHeld => ?_)
                                      clear hK K
                                      generalize w9.alloc _ = w10 at *
                                      generalize w9.heap.size = x21 at *
                                      refine wpAnyH_ready (rs := [16]) (by kernel_rfl) (by simp) ?_
                                      refine AllReadyH.cons (o := _) rfl (fun K hK => ?_) AllReadyH.nil
                                      go_simp
                                      refine (HATV.out.at (R := _ :: _) (by have T0 := HT.out.ord [4, 5, 6, 7, 0, 1, 2, 3]; exact T0)).mono ?_
                                      rintro e12 w11 ⟨rfl, hb⟩
                                      have T1 := HT.out.pure hb
                                      clear hb HT HATV
                                      have HT := Lib.hid T1
                                      clear T1
                                      refine hK.out _ _ (HFS.out _ _ (HT.out.ord [2, 3, 4, 6, 0, 1, 5, 7])) (fun hHeld => ?_)
                                      clear hK K
                                      refine tkH 17 rfl (v := ?_) ?_ ?_
                                      rotate_left
                                      · intro w h; (try dsimp only at h); go_simp; try with_reducible rfl
                                      simp only [Act.put, List.setIfInBounds_toArray, List.set_cons_zero, List.set_cons_succ]
                                      refine tkH 18 rfl (v := ?_) ?_ ?_
                                      rotate_left
                                      · intro w h; (try dsimp only at h); go_simp; try with_reducible rfl
                                      go_frame
                                      refine tkH 19 rfl (v := ?_) ?_ ?_
                                      rotate_left
                                      · intro w h; (try dsimp only at h); go_simp; try with_reducible rfl
                                      go_frame
                                      have T1 := HT.out.ord [1, 0]
                                      have r2 := T1.row; have l2 := row_lt r2
                                      have T2 := T1.setRow (DV cu.deps)
                                      clear HT
                                      have HT := Lib.hid T2
                                      clear T1 T2
                                      refine wpAnyH_ready (rs := [22]) (by kernel_rfl) (by simp) ?_
                                      refine AllReadyH.cons (o := _) rfl (fun K hK => ?_) AllReadyH.nil
                                      go_simp
                                      refine hK.out _ _ (HFS.out _ _ (HT.out.ord [2, 3, 4, 6, 0, 1, 5, 7])) (fun hHeld => ?_)
                                      clear hK K r2 l2
                                      generalize w11.setRow _ _ = w12 at *
                                      have T1 := HT.out.ord [1, 0]
                                      have r2 := T1.row; have l2 := row_lt r2
                                      have T2 := T1.setRow (DV cv.deps)
                                      clear HT
                                      have HT := Lib.hid T2
                                      clear T1 T2
                                      refine wpAnyH_ready (rs := [23]) (by kernel_rfl) (by simp) ?_
                                      refine AllReadyH.cons (o := _) rfl (fun K hK => ?_) AllReadyH.nil
                                      go_simp
                                      refine hK.out _ _ (HFS.out _ _ (HT.out.ord [2, 3, 4, 6, 0, 1, 5, 7])) (fun hHeld => ?_)
                                      clear hK K r2 l2
                                      generalize w12.setRow _ _ = w13 at *
                                      refine wpAnyH_done (by kernel_rfl) ?_ _
                                      simp only [Exit.then]
                                      go_step
                                      go_meet
                                      case rel => exact ⟨HT.out.nil, _, _, rfl, rfl, HT.out.ord [1, 0]⟩
                                    refine AllReadyH.cons (o := _) rfl (fun K hK => ?_) AllReadyH.nil
                                    have T1 := HT.out.new #[.int .i64 0, .int .i64 0, .int .i64 0, .int .i64 0, .int .i64 0, .int .i64 0, .int .i64 0] 45
                                    clear HT
                                    have HT := Lib.hid T1
                                    clear T1
                                    go_simp
                                    refine hK.out _ _ (HFS.out _ _ (HT.out.ord [2, 3, 4, 6, 0, 1, 5, 7])) (fun hHeld => ?_)
                                    clear hK K
                                    generalize w8.alloc _ = w9 at *
                                    generalize w8.heap.size = x21 at *
                                    refine wpAnyH_ready (rs := [6]) (by kernel_rfl) (by simp) ?_
                                    refine AllReadyH.cons (o := _) rfl (fun K hK => ?_) AllReadyH.nil
                                    go_simp
                                    refine (HATU.out.at (R := _ :: _) (by have T0 := HT.out.ord [4, 5, 6, 7, 0, 1, 2, 3]; exact T0)).mono ?_
                                    rintro e12 w10 ⟨rfl, hb⟩
                                    have T1 := HT.out.pure hb
                                    clear hb HT HATU
                                    have HT := Lib.hid T1
                                    clear T1
                                    refine hK.out _ _ (HFS.out _ _ (HT.out.ord [2, 3, 4, 6, 0, 1, 5, 7])) (fun hHeld => ?_)
                                    clear hK K
                                    refine tkH 7 rfl (v := ?_) ?_ ?_
                                    rotate_left
                                    · intro w h; (try dsimp only at h); go_simp; try with_reducible rfl
                                    simp only [Act.put, List.setIfInBounds_toArray, List.set_cons_zero, List.set_cons_succ]
                                    refine tkH 8 rfl (v := ?_) ?_ ?_
                                    rotate_left
                                    · intro w h; (try dsimp only at h); go_simp; try with_reducible rfl
                                    go_frame
                                    refine tkH 9 rfl (v := ?_) ?_ ?_
                                    rotate_left
                                    · intro w h; (try dsimp only at h); go_simp; try with_reducible rfl
                                    go_frame
                                    refine wpAnyH_ready (rs := [16]) (by kernel_rfl) (by simp) ?_
                                    refine AllReadyH.cons (o := _) rfl (fun K hK => ?_) AllReadyH.nil
                                    go_simp
                                    refine (HATV.out.at (R := _ :: _) (by have T0 := HT.out.ord [4, 5, 6, 7, 0, 1, 2, 3]; exact T0)).mono ?_
                                    rintro e12 w11 ⟨rfl, hb⟩
                                    have T1 := HT.out.pure hb
                                    clear hb HT HATV
                                    have HT := Lib.hid T1
                                    clear T1
                                    refine hK.out _ _ (HFS.out _ _ (HT.out.ord [2, 3, 4, 6, 0, 1, 5, 7])) (fun hHeld => ?_)
                                    clear hK K
                                    refine tkH 17 rfl (v := ?_) ?_ ?_
                                    rotate_left
                                    · intro w h; (try dsimp only at h); go_simp; try with_reducible rfl
                                    simp only [Act.put, List.setIfInBounds_toArray, List.set_cons_zero, List.set_cons_succ]
                                    refine tkH 18 rfl (v := ?_) ?_ ?_
                                    rotate_left
                                    · intro w h; (try dsimp only at h); go_simp; try with_reducible rfl
                                    go_frame
                                    refine tkH 19 rfl (v := ?_) ?_ ?_
                                    rotate_left
                                    · intro w h; (try dsimp only at h); go_simp; try with_reducible rfl
                                    go_frame
                                    have T1 := HT.out.ord [1, 0]
                                    have r2 := T1.row; have l2 := row_lt r2
                                    have T2 := T1.setRow (DV cu.deps)
                                    clear HT
                                    have HT := Lib.hid T2
                                    clear T1 T2
                                    refine wpAnyH_ready (rs := [22]) (by kernel_rfl) (by simp) ?_
                                    refine AllReadyH.cons (o := _) rfl (fun K hK => ?_) AllReadyH.nil
                                    go_simp
                                    refine hK.out _ _ (HFS.out _ _ (HT.out.ord [2, 3, 4, 6, 0, 1, 5, 7])) (fun hHeld => ?_)
                                    clear hK K r2 l2
                                    generalize w11.setRow _ _ = w12 at *
                                    have T1 := HT.out.ord [1, 0]
                                    have r2 := T1.row; have l2 := row_lt r2
                                    have T2 := T1.setRow (DV cv.deps)
                                    clear HT
                                    have HT := Lib.hid T2
                                    clear T1 T2
                                    refine wpAnyH_ready (rs := [23]) (by kernel_rfl) (by simp) ?_
                                    refine AllReadyH.cons (o := _) rfl (fun K hK => ?_) AllReadyH.nil
                                    go_simp
                                    refine hK.out _ _ (HFS.out _ _ (HT.out.ord [2, 3, 4, 6, 0, 1, 5, 7])) (fun hHeld => ?_)
                                    clear hK K r2 l2
                                    generalize w12.setRow _ _ = w13 at *
                                    refine wpAnyH_done (by kernel_rfl) ?_ _
                                    simp only [Exit.then]
                                    go_step
                                    go_meet
                                    case rel => exact ⟨HT.out.nil, _, _, rfl, rfl, HT.out.ord [1, 0]⟩
                                  refine AllReadyH.cons (o := _) rfl (fun K hK => ?_) AllReadyH.nil
                                  have T1 := HT.out.new #[.int .i64 0, .int .i64 0, .int .i64 0, .int .i64 0, .int .i64 0, .int .i64 0, .int .i64 0] 45
                                  clear HT
                                  have HT := Lib.hid T1
                                  clear T1
                                  go_simp
                                  refine hK.out _ _ (HFS.out _ _ (HT.out.ord [1, 2, 3, 5, 0, 4, 6])) (fun hHeld => ?_)
                                  clear hK K
                                  generalize w7.alloc _ = w8 at *
                                  generalize w7.heap.size = x21 at *
                                  refine wpAnyH_ready (rs := [6, 20]) (by kernel_rfl) (by simp) ?_
                                  refine AllReadyH.cons (o := _) rfl (fun K hK => ?_) ?_
                                  · go_simp
                                    refine (HATU.out.at (R := _ :: _) (by have T0 := HT.out.ord [3, 4, 5, 6, 0, 1, 2]; exact T0)).mono ?_
                                    rintro e12 w9 ⟨rfl, hb⟩
                                    have T1 := HT.out.pure hb
                                    clear hb HT HATU
                                    have HT := Lib.hid T1
                                    clear T1
                                    refine hK.out _ _ (HFS.out _ _ (HT.out.ord [1, 2, 3, 5, 0, 4, 6])) (fun hHeld => ?_)
                                    clear hK K
                                    refine tkH 7 rfl (v := ?_) ?_ ?_
                                    rotate_left
                                    · intro w h; (try dsimp only at h); go_simp; try with_reducible rfl
                                    simp only [Act.put, List.setIfInBounds_toArray, List.set_cons_zero, List.set_cons_succ]
                                    refine tkH 8 rfl (v := ?_) ?_ ?_
                                    rotate_left
                                    · intro w h; (try dsimp only at h); go_simp; try with_reducible rfl
                                    go_frame
                                    refine tkH 9 rfl (v := ?_) ?_ ?_
                                    rotate_left
                                    · intro w h; (try dsimp only at h); go_simp; try with_reducible rfl
                                    go_frame
                                    refine wpAnyH_ready (rs := [16, 20]) (by kernel_rfl) (by simp) ?_
                                    refine AllReadyH.cons (o := _) rfl (fun K hK => ?_) ?_
                                    · go_simp
                                      refine (HATV.out.at (R := _ :: _) (by have T0 := HT.out.ord [3, 4, 5, 6, 0, 1, 2]; exact T0)).mono ?_
                                      rintro e12 w10 ⟨rfl, hb⟩
                                      have T1 := HT.out.pure hb
                                      clear hb HT HATV
                                      have HT := Lib.hid T1
                                      clear T1
                                      refine hK.out _ _ (HFS.out _ _ (HT.out.ord [1, 2, 3, 5, 0, 4, 6])) (fun hHeld => ?_)
                                      clear hK K
                                      refine tkH 17 rfl (v := ?_) ?_ ?_
                                      rotate_left
                                      · intro w h; (try dsimp only at h); go_simp; try with_reducible rfl
                                      simp only [Act.put, List.setIfInBounds_toArray, List.set_cons_zero, List.set_cons_succ]
                                      refine tkH 18 rfl (v := ?_) ?_ ?_
                                      rotate_left
                                      · intro w h; (try dsimp only at h); go_simp; try with_reducible rfl
                                      go_frame
                                      refine tkH 19 rfl (v := ?_) ?_ ?_
                                      rotate_left
                                      · intro w h; (try dsimp only at h); go_simp; try with_reducible rfl
                                      go_frame
                                      refine wpAnyH_ready (rs := [20]) (by kernel_rfl) (by simp) ?_
                                      refine AllReadyH.cons (o := _) rfl (fun K hK => ?_) AllReadyH.nil
                                      have T1 := HT.out.new #[.int .i64 0, .int .i64 0, .int .i64 0, .int .i64 0, .int .i64 0, .int .i64 0, .int .i64 0] 45
                                      clear HT
                                      have HT := Lib.hid T1
                                      clear T1
                                      go_simp
                                      refine hK.out _ _ (HFS.out _ _ (HT.out.ord [2, 3, 4, 6, 0, 1, 5, 7])) (fun hHeld => ?_)
                                      clear hK K
                                      generalize w10.alloc _ = w11 at *
                                      generalize w10.heap.size = x20 at *
                                      have T1 := HT.out.ord [0, 1]
                                      have r2 := T1.row; have l2 := row_lt r2
                                      have T2 := T1.setRow (DV cu.deps)
                                      clear HT
                                      have HT := Lib.hid T2
                                      clear T1 T2
                                      refine wpAnyH_ready (rs := [22]) (by kernel_rfl) (by simp) ?_
                                      refine AllReadyH.cons (o := _) rfl (fun K hK => ?_) AllReadyH.nil
                                      go_simp
                                      refine hK.out _ _ (HFS.out _ _ (HT.out.ord [2, 3, 4, 6, 0, 1, 5, 7])) (fun hHeld => ?_)
                                      clear hK K r2 l2
                                      generalize w11.setRow _ _ = w12 at *
                                      have T1 := HT.out.ord [1, 0]
                                      have r2 := T1.row; have l2 := row_lt r2
                                      have T2 := T1.setRow (DV cv.deps)
                                      clear HT
                                      have HT := Lib.hid T2
                                      clear T1 T2
                                      refine wpAnyH_ready (rs := [23]) (by kernel_rfl) (by simp) ?_
                                      refine AllReadyH.cons (o := _) rfl (fun K hK => ?_) AllReadyH.nil
                                      go_simp
                                      refine hK.out _ _ (HFS.out _ _ (HT.out.ord [2, 3, 4, 6, 0, 1, 5, 7])) (fun hHeld => ?_)
                                      clear hK K r2 l2
                                      generalize w12.setRow _ _ = w13 at *
                                      refine wpAnyH_done (by kernel_rfl) ?_ _
                                      simp only [Exit.then]
                                      go_step
                                      go_meet
                                      case rel => exact ⟨HT.out.nil, _, _, rfl, rfl, HT.out.ord [1, 0]⟩
                                    refine AllReadyH.cons (o := _) rfl (fun K hK => ?_) AllReadyH.nil
                                    have T1 := HT.out.new #[.int .i64 0, .int .i64 0, .int .i64 0, .int .i64 0, .int .i64 0, .int .i64 0, .int .i64 0] 45
                                    clear HT
                                    have HT := Lib.hid T1
                                    clear T1
                                    go_simp
                                    refine hK.out _ _ (HFS.out _ _ (HT.out.ord [2, 3, 4, 6, 0, 1, 5, 7])) (fun hHeld => ?_)
                                    clear hK K
                                    generalize w9.alloc _ = w10 at *
                                    generalize w9.heap.size = x20 at *
                                    refine wpAnyH_ready (rs := [16]) (by kernel_rfl) (by simp) ?_
                                    refine AllReadyH.cons (o := _) rfl (fun K hK => ?_) AllReadyH.nil
                                    go_simp
                                    refine (HATV.out.at (R := _ :: _) (by have T0 := HT.out.ord [4, 5, 6, 7, 0, 1, 2, 3]; exact T0)).mono ?_
                                    rintro e12 w11 ⟨rfl, hb⟩
                                    have T1 := HT.out.pure hb
                                    clear hb HT HATV
                                    have HT := Lib.hid T1
                                    clear T1
                                    refine hK.out _ _ (HFS.out _ _ (HT.out.ord [2, 3, 4, 6, 0, 1, 5, 7])) (fun hHeld => ?_)
                                    clear hK K
                                    refine tkH 17 rfl (v := ?_) ?_ ?_
                                    rotate_left
                                    · intro w h; (try dsimp only at h); go_simp; try with_reducible rfl
                                    simp only [Act.put, List.setIfInBounds_toArray, List.set_cons_zero, List.set_cons_succ]
                                    refine tkH 18 rfl (v := ?_) ?_ ?_
                                    rotate_left
                                    · intro w h; (try dsimp only at h); go_simp; try with_reducible rfl
                                    go_frame
                                    refine tkH 19 rfl (v := ?_) ?_ ?_
                                    rotate_left
                                    · intro w h; (try dsimp only at h); go_simp; try with_reducible rfl
                                    go_frame
                                    have T1 := HT.out.ord [0, 1]
                                    have r2 := T1.row; have l2 := row_lt r2
                                    have T2 := T1.setRow (DV cu.deps)
                                    clear HT
                                    have HT := Lib.hid T2
                                    clear T1 T2
                                    refine wpAnyH_ready (rs := [22]) (by kernel_rfl) (by simp) ?_
                                    refine AllReadyH.cons (o := _) rfl (fun K hK => ?_) AllReadyH.nil
                                    go_simp
                                    refine hK.out _ _ (HFS.out _ _ (HT.out.ord [2, 3, 4, 6, 0, 1, 5, 7])) (fun hHeld => ?_)
                                    clear hK K r2 l2
                                    generalize w11.setRow _ _ = w12 at *
                                    have T1 := HT.out.ord [1, 0]
                                    have r2 := T1.row; have l2 := row_lt r2
                                    have T2 := T1.setRow (DV cv.deps)
                                    clear HT
                                    have HT := Lib.hid T2
                                    clear T1 T2
                                    refine wpAnyH_ready (rs := [23]) (by kernel_rfl) (by simp) ?_
                                    refine AllReadyH.cons (o := _) rfl (fun K hK => ?_) AllReadyH.nil
                                    go_simp
                                    refine hK.out _ _ (HFS.out _ _ (HT.out.ord [2, 3, 4, 6, 0, 1, 5, 7])) (fun hHeld => ?_)
                                    clear hK K r2 l2
                                    generalize w12.setRow _ _ = w13 at *
                                    refine wpAnyH_done (by kernel_rfl) ?_ _
                                    simp only [Exit.then]
                                    go_step
                                    go_meet
                                    case rel => exact ⟨HT.out.nil, _, _, rfl, rfl, HT.out.ord [1, 0]⟩
                                  refine AllReadyH.cons (o := _) rfl (fun K hK => ?_) AllReadyH.nil
                                  have T1 := HT.out.new #[.int .i64 0, .int .i64 0, .int .i64 0, .int .i64 0, .int .i64 0, .int .i64 0, .int .i64 0] 45
                                  clear HT
                                  have HT := Lib.hid T1
                                  clear T1
                                  go_simp
                                  refine hK.out _ _ (HFS.out _ _ (HT.out.ord [2, 3, 4, 6, 0, 1, 5, 7])) (fun hHeld => ?_)
                                  clear hK K
                                  generalize w8.alloc _ = w9 at *
                                  generalize w8.heap.size = x20 at *
                                  refine wpAnyH_ready (rs := [6]) (by kernel_rfl) (by simp) ?_
                                  refine AllReadyH.cons (o := _) rfl (fun K hK => ?_) AllReadyH.nil
                                  go_simp
                                  refine (HATU.out.at (R := _ :: _) (by have T0 := HT.out.ord [4, 5, 6, 7, 0, 1, 2, 3]; exact T0)).mono ?_
                                  rintro e12 w10 ⟨rfl, hb⟩
                                  have T1 := HT.out.pure hb
                                  clear hb HT HATU
                                  have HT := Lib.hid T1
                                  clear T1
                                  refine hK.out _ _ (HFS.out _ _ (HT.out.ord [2, 3, 4, 6, 0, 1, 5, 7])) (fun hHeld => ?_)
                                  clear hK K
                                  refine tkH 7 rfl (v := ?_) ?_ ?_
                                  rotate_left
                                  · intro w h; (try dsimp only at h); go_simp; try with_reducible rfl
                                  simp only [Act.put, List.setIfInBounds_toArray, List.set_cons_zero, List.set_cons_succ]
                                  refine tkH 8 rfl (v := ?_) ?_ ?_
                                  rotate_left
                                  · intro w h; (try dsimp only at h); go_simp; try with_reducible rfl
                                  go_frame
                                  refine tkH 9 rfl (v := ?_) ?_ ?_
                                  rotate_left
                                  · intro w h; (try dsimp only at h); go_simp; try with_reducible rfl
                                  go_frame
                                  refine wpAnyH_ready (rs := [16]) (by kernel_rfl) (by simp) ?_
                                  refine AllReadyH.cons (o := _) rfl (fun K hK => ?_) AllReadyH.nil
                                  go_simp
                                  refine (HATV.out.at (R := _ :: _) (by have T0 := HT.out.ord [4, 5, 6, 7, 0, 1, 2, 3]; exact T0)).mono ?_
                                  rintro e12 w11 ⟨rfl, hb⟩
                                  have T1 := HT.out.pure hb
                                  clear hb HT HATV
                                  have HT := Lib.hid T1
                                  clear T1
                                  refine hK.out _ _ (HFS.out _ _ (HT.out.ord [2, 3, 4, 6, 0, 1, 5, 7])) (fun hHeld => ?_)
                                  clear hK K
                                  refine tkH 17 rfl (v := ?_) ?_ ?_
                                  rotate_left
                                  · intro w h; (try dsimp only at h); go_simp; try with_reducible rfl
                                  simp only [Act.put, List.setIfInBounds_toArray, List.set_cons_zero, List.set_cons_succ]
                                  refine tkH 18 rfl (v := ?_) ?_ ?_
                                  rotate_left
                                  · intro w h; (try dsimp only at h); go_simp; try with_reducible rfl
                                  go_frame
                                  refine tkH 19 rfl (v := ?_) ?_ ?_
                                  rotate_left
                                  · intro w h; (try dsimp only at h); go_simp; try with_reducible rfl
                                  go_frame
                                  have T1 := HT.out.ord [0, 1]
                                  have r2 := T1.row; have l2 := row_lt r2
                                  have T2 := T1.setRow (DV cu.deps)
                                  clear HT
                                  have HT := Lib.hid T2
                                  clear T1 T2
                                  refine wpAnyH_ready (rs := [22]) (by kernel_rfl) (by simp) ?_
                                  refine AllReadyH.cons (o := _) rfl (fun K hK => ?_) AllReadyH.nil
                                  go_simp
                                  refine hK.out _ _ (HFS.out _ _ (HT.out.ord [2, 3, 4, 6, 0, 1, 5, 7])) (fun hHeld => ?_)
                                  clear hK K r2 l2
                                  generalize w11.setRow _ _ = w12 at *
                                  have T1 := HT.out.ord [1, 0]
                                  have r2 := T1.row; have l2 := row_lt r2
                                  have T2 := T1.setRow (DV cv.deps)
                                  clear HT
                                  have HT := Lib.hid T2
                                  clear T1 T2
                                  refine wpAnyH_ready (rs := [23]) (by kernel_rfl) (by simp) ?_
                                  refine AllReadyH.cons (o := _) rfl (fun K hK => ?_) AllReadyH.nil
                                  go_simp
                                  refine hK.out _ _ (HFS.out _ _ (HT.out.ord [2, 3, 4, 6, 0, 1, 5, 7])) (fun hHeld => ?_)
                                  clear hK K r2 l2
                                  generalize w12.setRow _ _ = w13 at *
                                  refine wpAnyH_done (by kernel_rfl) ?_ _
                                  simp only [Exit.then]
                                  go_step
                                  go_meet
                                  case rel => exact ⟨HT.out.nil, _, _, rfl, rfl, HT.out.ord [1, 0]⟩
                                  -- }S52
                                case rest =>
                                  -- S53{
                                  clear HT HATU HATV
                                  obtain ⟨-, x1, x2, rfl, rfl, T⟩ := hcut
                                  have hgu : goodI u n = true := HR3.out.1.bld.good u ((HR3.out.1.bld.is u).1 (HR3.out.1.ok.com u HUD.out))
                                  have hgv : goodI v n = true := HR3.out.1.bld.good v ((HR3.out.1.bld.is v).1 (HR3.out.1.ok.com v HVD.out))
                                  have hne : v ≠ u := fun e => by
                                    have h1 := idxN_at HR3.out.1.ok.nd HU.out
                                    have h2 := idxN_at HR3.out.1.ok.nd HV.out
                                    rw [e, h1] at h2; omega
                                  have hno : (v.num ≤ cu.deps v.rep.toNat ∨ u.num ≤ cv.deps u.rep.toNat) → valN f v < valN f u := fun hd => by
                                    rw [HVN.out v HVD.out, HVN.out u HUD.out]
                                    have := same_order HR3.out.1.ok HR4.out.1.ok HSM.out HUD.out HVD.out ((HDD.out u).1 HUD.out) ((HDD.out v).1 HVD.out) (by rw [idxN_at HR3.out.1.ok.nd HU.out, idxN_at HR3.out.1.ok.nd HV.out]; exact hki) (hd.imp (fun h => waits_of HCU.out hgv hn7 hne h) (fun h => waits_of HCV.out hgu hn7 hne.symm h))
                                    omega
                                  have hgu2 := hgu; have hgv2 := hgv
                                  unfold goodI at hgu2 hgv2
                                  rw [decide_eq_true_iff] at hgu2 hgv2
                                  have HNO := Lib.hid hno
                                  have HT := Lib.hid T
                                  clear T hno hgu hgv
                                  have hv0 : 0 ≤ v.rep := hgv2.1
                                  have hv7 : v.rep < 7 := by omega
                                  have hu0 : 0 ≤ u.rep := hgu2.1
                                  have hu7 : u.rep < 7 := by omega
                                  have T4 := HT.out.drew
                                  rw [HQQ.out] at T4
                                  have hlv := (T4.ord [8, 0, 1, 2, 3, 4, 5, 6, 7]).lookN v (HDI2.out v HVD.out)
                                  have hlu := (T4.ord [8, 0, 1, 2, 3, 4, 5, 6, 7]).lookN u (HDI2.out u HUD.out)
                                  have r1 := T4.row; have l1 := row_lt r1; have c1 := row_cell r1 v.rep.toNat
                                  have r2 := T4.row1; have l2 := row_lt r2; have c2 := row_cell r2 u.rep.toNat
                                  rw [DV_get _ _ (by omega)] at c1 c2
                                  have r3 := T4.row2; have l3 := row_lt r3; have r4 := T4.row3; have l4 := row_lt r4
                                  have T5 := (T4.ord [0, 1, 2, 7, 8, 3, 9, 10, 4, 5, 6]).drop.drop.drop.drop
                                  have T6 : Sts W (fun _ => False) wc.drew (numR gm nn cc f :: rowR gu (IV u) :: vecR 35 2 (.slice Ab i cb) i (vl IV Db) :: vecR 35 2 (.slice (some ⟨gi, 0, none⟩) i ca) i (vl IV Da) :: RR) := by rw [← HRR.out]; exact T5
                                  have HT := Lib.hid T6
                                  clear T4 T5 T6 hgu2 hgv2
                                  generalize valN f v = pv1 at *
                                  generalize valN f u = pu1 at *
                                  obtain ⟨du, hdu⟩ : ∃ d, d = cu.deps v.rep.toNat := ⟨_, rfl⟩
                                  obtain ⟨dv, hdv⟩ : ∃ d, d = cv.deps u.rep.toNat := ⟨_, rfl⟩
                                  have hno := HNO.out
                                  rw [← hdu, ← hdv] at hno
                                  rw [← hdu] at c1
                                  rw [← hdv] at c2
                                  clear hdu hdv HNO
                                  go_upto_region 53 with fail
                                  by_cases hd1 : v.num ≤ du
                                  · have he1 : decide (v.num ≤ du) = true := decide_eq_true hd1
                                    have he3 : decide (pu1 < pv1) = false := decide_eq_false (by have := hno (.inl hd1); omega)
                                    clear hno hd1
                                    refine wp_region_held_drew (S := fun W' => (row? W' gv = some (IV v) ∧ row? W' gu = some (IV u) ∧ W'.cell? ⟨gv, 0, none⟩ = some (.int .i64 v.rep) ∧ W'.cell? ⟨gv, 1, none⟩ = some (.int .i64 v.num) ∧ W'.cell? ⟨gu, 0, none⟩ = some (.int .i64 u.rep) ∧ W'.cell? ⟨gu, 1, none⟩ = some (.int .i64 u.num) ∧ W'.cell? ⟨x1, v.rep.toNat, none⟩ = some (.int .i64 du) ∧ W'.cell? ⟨x2, u.rep.toNat, none⟩ = some (.int .i64 dv) ∧ (Instr.lookup 64 (.map (some gm)) (.agg (IV v)) false).run Try.prog W' = .ok (.int .i64 pv1) W' ∧ (Instr.lookup 64 (.map (some gm)) (.agg (IV u)) false).run Try.prog W' = .ok (.int .i64 pu1) W')) (by kernel_rfl) ⟨r3, r4, by rw [row_cell r3 0]; rfl, by rw [row_cell r3 1]; rfl, by rw [row_cell r4 0]; rfl, by rw [row_cell r4 1]; rfl, c1, c2, hlv, hlu⟩ (fun hHeld => ?_)
                                    clear r1 r2 l1 l2 l3 l4 r3 r4 c1 c2 hlv hlu
                                    generalize wc.drew = w7 at *
                                    refine tkH 0 rfl (v := ?_) ?_ ?_
                                    rotate_left
                                    · intro w h; (try dsimp only at h); go_simp; try with_reducible rfl
                                    simp only [Act.put, List.setIfInBounds_toArray, List.set_cons_zero, List.set_cons_succ]
                                    refine tkH 1 rfl (v := ?_) ?_ ?_
                                    rotate_left
                                    · intro w h; (try dsimp only at h); go_simp; try with_reducible rfl
                                    go_frame
                                    refine tkH 2 rfl (v := ?_) ?_ ?_
                                    rotate_left
                                    · intro w h; (try dsimp only at h); go_simp; try with_reducible rfl
                                    go_frame
                                    refine tkH 3 rfl (v := ?_) ?_ ?_
                                    rotate_left
                                    · intro w h; (try dsimp only at h); go_simp; try with_reducible rfl
                                    go_frame
                                    refine tkH 4 rfl (v := ?_) ?_ ?_
                                    rotate_left
                                    · intro w h; (try dsimp only at h); go_simp; try with_reducible rfl
                                    go_frame
                                    refine tkH 5 rfl (v := ?_) ?_ ?_
                                    rotate_left
                                    · intro w h; (try dsimp only at h); go_simp; try with_reducible rfl
                                    go_frame
                                    refine tkH 6 rfl (v := ?_) ?_ ?_
                                    rotate_left
                                    · intro w h; (try dsimp only at h); go_simp; try with_reducible rfl
                                    go_frame
                                    refine tkH 7 rfl (v := ?_) ?_ ?_
                                    rotate_left
                                    · intro w h; (try dsimp only at h); go_simp; try with_reducible rfl
                                    go_frame
                                    refine skH 8 rfl ?_
                                    simp only [Act.put, List.setIfInBounds_toArray, List.set_cons_zero, List.set_cons_succ]
                                    refine skH 9 rfl ?_
                                    go_frame
                                    refine skH 10 rfl ?_
                                    go_frame
                                    refine skH 11 rfl ?_
                                    go_frame
                                    refine skH 12 rfl ?_
                                    go_frame
                                    refine skH 13 rfl ?_
                                    go_frame
                                    refine skH 14 rfl ?_
                                    go_frame
                                    refine tkH 15 rfl (v := ?_) ?_ ?_
                                    rotate_left
                                    · intro w h; (try dsimp only at h); go_simp; try with_reducible rfl
                                    simp only [Act.put, List.setIfInBounds_toArray, List.set_cons_zero, List.set_cons_succ]
                                    refine tkH 16 rfl (v := ?_) ?_ ?_
                                    rotate_left
                                    · intro w h; (try dsimp only at h); go_simp; try with_reducible rfl
                                    go_frame
                                    refine tkH 17 rfl (v := ?_) ?_ ?_
                                    rotate_left
                                    · intro w h; (try dsimp only at h); go_simp; try with_reducible rfl
                                    simp only [Act.put, List.setIfInBounds_toArray, List.set_cons_zero, List.set_cons_succ]
                                    refine tkH 18 rfl (v := ?_) ?_ ?_
                                    rotate_left
                                    · intro w h; (try dsimp only at h); go_simp; try with_reducible rfl
                                    go_frame
                                    refine tkH 19 rfl (v := ?_) ?_ ?_
                                    rotate_left
                                    · intro w h; (try dsimp only at h); go_simp; try with_reducible rfl
                                    go_frame
                                    refine tkH 20 rfl (v := ?_) ?_ ?_
                                    rotate_left
                                    · intro w h; (try dsimp only at h); go_simp; try with_reducible rfl
                                    go_frame
                                    refine tkH 21 rfl (v := ?_) ?_ ?_
                                    rotate_left
                                    · intro w h; (try dsimp only at h); go_simp; try with_reducible rfl
                                    go_frame
                                    refine tkH 22 rfl (v := ?_) ?_ ?_
                                    rotate_left
                                    · intro w h; (try dsimp only at h); go_simp; try with_reducible rfl
                                    go_frame
                                    refine tkH 23 rfl (v := ?_) ?_ ?_
                                    rotate_left
                                    · intro w h; (try dsimp only at h); go_simp; try with_reducible rfl
                                    go_frame
                                    refine tkH 24 rfl (v := ?_) ?_ ?_
                                    rotate_left
                                    · intro w h; (try dsimp only at h); go_simp; try with_reducible rfl
                                    simp only [Act.put, List.setIfInBounds_toArray, List.set_cons_zero, List.set_cons_succ]
                                    refine wpAnyH_done (by kernel_rfl) ?_ _
                                    simp only [Exit.then]
                                    go_wp2
                                    go_roundw
                                    case rel => exact ⟨k + 1, by go_num, by omega, HT.out⟩
                                    case measure => simp [intOf]; omega
                                  · have he1 : decide (v.num ≤ du) = false := decide_eq_false hd1
                                    by_cases hd2 : u.num ≤ dv
                                    · have he2 : decide (u.num ≤ dv) = true := decide_eq_true hd2
                                      have he3 : decide (pu1 < pv1) = false := decide_eq_false (by have := hno (.inr hd2); omega)
                                      clear hno hd1 hd2
                                      refine wp_region_held_drew (S := fun W' => (row? W' gv = some (IV v) ∧ row? W' gu = some (IV u) ∧ W'.cell? ⟨gv, 0, none⟩ = some (.int .i64 v.rep) ∧ W'.cell? ⟨gv, 1, none⟩ = some (.int .i64 v.num) ∧ W'.cell? ⟨gu, 0, none⟩ = some (.int .i64 u.rep) ∧ W'.cell? ⟨gu, 1, none⟩ = some (.int .i64 u.num) ∧ W'.cell? ⟨x1, v.rep.toNat, none⟩ = some (.int .i64 du) ∧ W'.cell? ⟨x2, u.rep.toNat, none⟩ = some (.int .i64 dv) ∧ (Instr.lookup 64 (.map (some gm)) (.agg (IV v)) false).run Try.prog W' = .ok (.int .i64 pv1) W' ∧ (Instr.lookup 64 (.map (some gm)) (.agg (IV u)) false).run Try.prog W' = .ok (.int .i64 pu1) W')) (by kernel_rfl) ⟨r3, r4, by rw [row_cell r3 0]; rfl, by rw [row_cell r3 1]; rfl, by rw [row_cell r4 0]; rfl, by rw [row_cell r4 1]; rfl, c1, c2, hlv, hlu⟩ (fun hHeld => ?_)
                                      clear r1 r2 l1 l2 l3 l4 r3 r4 c1 c2 hlv hlu
                                      generalize wc.drew = w7 at *
                                      refine tkH 0 rfl (v := ?_) ?_ ?_
                                      rotate_left
                                      · intro w h; (try dsimp only at h); go_simp; try with_reducible rfl
                                      simp only [Act.put, List.setIfInBounds_toArray, List.set_cons_zero, List.set_cons_succ]
                                      refine tkH 1 rfl (v := ?_) ?_ ?_
                                      rotate_left
                                      · intro w h; (try dsimp only at h); go_simp; try with_reducible rfl
                                      go_frame
                                      refine tkH 2 rfl (v := ?_) ?_ ?_
                                      rotate_left
                                      · intro w h; (try dsimp only at h); go_simp; try with_reducible rfl
                                      go_frame
                                      refine tkH 3 rfl (v := ?_) ?_ ?_
                                      rotate_left
                                      · intro w h; (try dsimp only at h); go_simp; try with_reducible rfl
                                      go_frame
                                      refine tkH 4 rfl (v := ?_) ?_ ?_
                                      rotate_left
                                      · intro w h; (try dsimp only at h); go_simp; try with_reducible rfl
                                      go_frame
                                      refine tkH 5 rfl (v := ?_) ?_ ?_
                                      rotate_left
                                      · intro w h; (try dsimp only at h); go_simp; try with_reducible rfl
                                      go_frame
                                      refine tkH 6 rfl (v := ?_) ?_ ?_
                                      rotate_left
                                      · intro w h; (try dsimp only at h); go_simp; try with_reducible rfl
                                      go_frame
                                      refine tkH 7 rfl (v := ?_) ?_ ?_
                                      rotate_left
                                      · intro w h; (try dsimp only at h); go_simp; try with_reducible rfl
                                      go_frame
                                      refine tkH 8 rfl (v := ?_) ?_ ?_
                                      rotate_left
                                      · intro w h; (try dsimp only at h); go_simp; try with_reducible rfl
                                      simp only [Act.put, List.setIfInBounds_toArray, List.set_cons_zero, List.set_cons_succ]
                                      refine tkH 9 rfl (v := ?_) ?_ ?_
                                      rotate_left
                                      · intro w h; (try dsimp only at h); go_simp; try with_reducible rfl
                                      go_frame
                                      refine tkH 10 rfl (v := ?_) ?_ ?_
                                      rotate_left
                                      · intro w h; (try dsimp only at h); go_simp; try with_reducible rfl
                                      go_frame
                                      refine tkH 11 rfl (v := ?_) ?_ ?_
                                      rotate_left
                                      · intro w h; (try dsimp only at h); go_simp; try with_reducible rfl
                                      go_frame
                                      refine tkH 12 rfl (v := ?_) ?_ ?_
                                      rotate_left
                                      · intro w h; (try dsimp only at h); go_simp; try with_reducible rfl
                                      go_frame
                                      refine tkH 13 rfl (v := ?_) ?_ ?_
                                      rotate_left
                                      · intro w h; (try dsimp only at h); go_simp; try with_reducible rfl
                                      go_frame
                                      refine tkH 14 rfl (v := ?_) ?_ ?_
                                      rotate_left
                                      · intro w h; (try dsimp only at h); go_simp; try with_reducible rfl
                                      go_frame
                                      refine tkH 15 rfl (v := ?_) ?_ ?_
                                      rotate_left
                                      · intro w h; (try dsimp only at h); go_simp; try with_reducible rfl
                                      simp only [Act.put, List.setIfInBounds_toArray, List.set_cons_zero, List.set_cons_succ]
                                      refine tkH 16 rfl (v := ?_) ?_ ?_
                                      rotate_left
                                      · intro w h; (try dsimp only at h); go_simp; try with_reducible rfl
                                      go_frame
                                      refine tkH 17 rfl (v := ?_) ?_ ?_
                                      rotate_left
                                      · intro w h; (try dsimp only at h); go_simp; try with_reducible rfl
                                      simp only [Act.put, List.setIfInBounds_toArray, List.set_cons_zero, List.set_cons_succ]
                                      refine tkH 18 rfl (v := ?_) ?_ ?_
                                      rotate_left
                                      · intro w h; (try dsimp only at h); go_simp; try with_reducible rfl
                                      go_frame
                                      refine tkH 19 rfl (v := ?_) ?_ ?_
                                      rotate_left
                                      · intro w h; (try dsimp only at h); go_simp; try with_reducible rfl
                                      go_frame
                                      refine tkH 20 rfl (v := ?_) ?_ ?_
                                      rotate_left
                                      · intro w h; (try dsimp only at h); go_simp; try with_reducible rfl
                                      go_frame
                                      refine tkH 21 rfl (v := ?_) ?_ ?_
                                      rotate_left
                                      · intro w h; (try dsimp only at h); go_simp; try with_reducible rfl
                                      go_frame
                                      refine tkH 22 rfl (v := ?_) ?_ ?_
                                      rotate_left
                                      · intro w h; (try dsimp only at h); go_simp; try with_reducible rfl
                                      go_frame
                                      refine tkH 23 rfl (v := ?_) ?_ ?_
                                      rotate_left
                                      · intro w h; (try dsimp only at h); go_simp; try with_reducible rfl
                                      go_frame
                                      refine tkH 24 rfl (v := ?_) ?_ ?_
                                      rotate_left
                                      · intro w h; (try dsimp only at h); go_simp; try with_reducible rfl
                                      simp only [Act.put, List.setIfInBounds_toArray, List.set_cons_zero, List.set_cons_succ]
                                      refine wpAnyH_done (by kernel_rfl) ?_ _
                                      simp only [Exit.then]
                                      go_wp2
                                      go_roundw
                                      case rel => exact ⟨k + 1, by go_num, by omega, HT.out⟩
                                      case measure => simp [intOf]; omega
                                    · have he2 : decide (u.num ≤ dv) = false := decide_eq_false hd2
                                      clear hno hd1 hd2
                                      refine wp_region_held_drew (S := fun W' => (row? W' gv = some (IV v) ∧ row? W' gu = some (IV u) ∧ W'.cell? ⟨gv, 0, none⟩ = some (.int .i64 v.rep) ∧ W'.cell? ⟨gv, 1, none⟩ = some (.int .i64 v.num) ∧ W'.cell? ⟨gu, 0, none⟩ = some (.int .i64 u.rep) ∧ W'.cell? ⟨gu, 1, none⟩ = some (.int .i64 u.num) ∧ W'.cell? ⟨x1, v.rep.toNat, none⟩ = some (.int .i64 du) ∧ W'.cell? ⟨x2, u.rep.toNat, none⟩ = some (.int .i64 dv) ∧ (Instr.lookup 64 (.map (some gm)) (.agg (IV v)) false).run Try.prog W' = .ok (.int .i64 pv1) W' ∧ (Instr.lookup 64 (.map (some gm)) (.agg (IV u)) false).run Try.prog W' = .ok (.int .i64 pu1) W')) (by kernel_rfl) ⟨r3, r4, by rw [row_cell r3 0]; rfl, by rw [row_cell r3 1]; rfl, by rw [row_cell r4 0]; rfl, by rw [row_cell r4 1]; rfl, c1, c2, hlv, hlu⟩ (fun hHeld => ?_)
                                      clear r1 r2 l1 l2 l3 l4 r3 r4 c1 c2 hlv hlu
                                      generalize wc.drew = w7 at *
                                      refine tkH 0 rfl (v := ?_) ?_ ?_
                                      rotate_left
                                      · intro w h; (try dsimp only at h); go_simp; try with_reducible rfl
                                      simp only [Act.put, List.setIfInBounds_toArray, List.set_cons_zero, List.set_cons_succ]
                                      refine tkH 1 rfl (v := ?_) ?_ ?_
                                      rotate_left
                                      · intro w h; (try dsimp only at h); go_simp; try with_reducible rfl
                                      go_frame
                                      refine tkH 2 rfl (v := ?_) ?_ ?_
                                      rotate_left
                                      · intro w h; (try dsimp only at h); go_simp; try with_reducible rfl
                                      go_frame
                                      refine tkH 3 rfl (v := ?_) ?_ ?_
                                      rotate_left
                                      · intro w h; (try dsimp only at h); go_simp; try with_reducible rfl
                                      go_frame
                                      refine tkH 4 rfl (v := ?_) ?_ ?_
                                      rotate_left
                                      · intro w h; (try dsimp only at h); go_simp; try with_reducible rfl
                                      go_frame
                                      refine tkH 5 rfl (v := ?_) ?_ ?_
                                      rotate_left
                                      · intro w h; (try dsimp only at h); go_simp; try with_reducible rfl
                                      go_frame
                                      refine tkH 6 rfl (v := ?_) ?_ ?_
                                      rotate_left
                                      · intro w h; (try dsimp only at h); go_simp; try with_reducible rfl
                                      go_frame
                                      refine tkH 7 rfl (v := ?_) ?_ ?_
                                      rotate_left
                                      · intro w h; (try dsimp only at h); go_simp; try with_reducible rfl
                                      go_frame
                                      refine tkH 8 rfl (v := ?_) ?_ ?_
                                      rotate_left
                                      · intro w h; (try dsimp only at h); go_simp; try with_reducible rfl
                                      simp only [Act.put, List.setIfInBounds_toArray, List.set_cons_zero, List.set_cons_succ]
                                      refine tkH 9 rfl (v := ?_) ?_ ?_
                                      rotate_left
                                      · intro w h; (try dsimp only at h); go_simp; try with_reducible rfl
                                      go_frame
                                      refine tkH 10 rfl (v := ?_) ?_ ?_
                                      rotate_left
                                      · intro w h; (try dsimp only at h); go_simp; try with_reducible rfl
                                      go_frame
                                      refine tkH 11 rfl (v := ?_) ?_ ?_
                                      rotate_left
                                      · intro w h; (try dsimp only at h); go_simp; try with_reducible rfl
                                      go_frame
                                      refine tkH 12 rfl (v := ?_) ?_ ?_
                                      rotate_left
                                      · intro w h; (try dsimp only at h); go_simp; try with_reducible rfl
                                      go_frame
                                      refine tkH 13 rfl (v := ?_) ?_ ?_
                                      rotate_left
                                      · intro w h; (try dsimp only at h); go_simp; try with_reducible rfl
                                      go_frame
                                      refine tkH 14 rfl (v := ?_) ?_ ?_
                                      rotate_left
                                      · intro w h; (try dsimp only at h); go_simp; try with_reducible rfl
                                      go_frame
                                      refine tkH 15 rfl (v := ?_) ?_ ?_
                                      rotate_left
                                      · intro w h; (try dsimp only at h); go_simp; try with_reducible rfl
                                      simp only [Act.put, List.setIfInBounds_toArray, List.set_cons_zero, List.set_cons_succ]
                                      refine tkH 16 rfl (v := ?_) ?_ ?_
                                      rotate_left
                                      · intro w h; (try dsimp only at h); go_simp; try with_reducible rfl
                                      go_frame
                                      refine skH 17 rfl ?_
                                      simp only [Act.put, List.setIfInBounds_toArray, List.set_cons_zero, List.set_cons_succ]
                                      refine skH 18 rfl ?_
                                      go_frame
                                      refine skH 19 rfl ?_
                                      go_frame
                                      refine skH 20 rfl ?_
                                      go_frame
                                      refine skH 21 rfl ?_
                                      go_frame
                                      refine skH 22 rfl ?_
                                      go_frame
                                      refine skH 23 rfl ?_
                                      go_frame
                                      refine tkH 24 rfl (v := ?_) ?_ ?_
                                      rotate_left
                                      · intro w h; (try dsimp only at h); go_simp; try with_reducible rfl
                                      simp only [Act.put, List.setIfInBounds_toArray, List.set_cons_zero, List.set_cons_succ]
                                      refine wpAnyH_done (by kernel_rfl) ?_ _
                                      simp only [Exit.then]
                                      go_wp2
                                      go_roundw
                                      case rel => exact ⟨k + 1, by go_num, by omega, HT.out⟩
                                      case measure => simp [intOf]; omega
                                  -- }S53
                              · have hki' : ¬ (k : Int) < (i1 : Int) := by omega
                                have HT := Lib.hid T; clear T
                                go_wp2_with fail
                                go_roundw
                                case rel => exact ⟨i1 + 1, by go_num, by omega, (HT.out.ord [1, 0]).drop⟩
                                case measure => simp [intOf]; omega
                          · have hin' : ¬ (i1 : Int) < (i : Int) := by omega
                            have HT := Lib.hid T; clear T
                            go_wp2_with fail
                            go_ret
                            exact ⟨rfl, HT.out.below⟩
end
end Go.Proofs.Ytnjgjhjilolanaa
