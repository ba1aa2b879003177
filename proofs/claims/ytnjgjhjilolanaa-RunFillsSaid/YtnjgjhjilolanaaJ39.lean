/- Several texts in one. -/
import Derived.Test.YtnjgjhjilolanaaJ38
import Derived.Test.YtnjgjhjilolanaaJ35
import Derived.Test.YtnjgjhjilolanaaJ3
/- Layer 19, plain: when what is missing is committed, with calls that wait for nothing, all can be done. No walk stands here. -/
namespace Go.Proofs.Ytnjgjhjilolanaa
open Go.RowKit Go.Shelf
set_option linter.unusedVariables false
/-- Calls wait for nothing beyond so many replicas. -/
def DZ (m : RowsMK) (n : Int) : Prop := ∀ y c, getMK m y = some c → ∀ r : Nat, r < 7 → n ≤ (r : Int) → c.deps r = 0
theorem DZ.new (n : Int) : DZ ⟨n, fun _ => []⟩ n := fun y c h => by rw [getMK_new] at h; cases h
theorem com_same {m : RowsMK} {x : Item} {c : Call} (h : canC m x c = true) : getMK (comC m x c) x = some c := by
  obtain ⟨g1, g2, g3⟩ := canC_good h
  rw [comC_yes h, getMK_set_same _ g1]
theorem com_other {m : RowsMK} {x : Item} {c : Call} (h : canC m x c = true) {y : Item} (e : y ≠ x) : getMK (comC m x c) y = getMK m y := by
  obtain ⟨g1, g2, g3⟩ := canC_good h
  rw [comC_yes h, getMK_set_other _ g1 (fun h => e h.symm)]
theorem DZ.commit {m : RowsMK} {n : Int} (h : DZ m n) {x : Item} {c : Call} (hc : ∀ r : Nat, r < 7 → n ≤ (r : Int) → c.deps r = 0) : DZ (comC m x c) n := by
  cases hcan : canC m x c with
  | false => rw [comC_no hcan]; exact h
  | true =>
    intro y d hd
    by_cases e : y = x
    · subst e
      rw [com_same hcan] at hd
      injection hd with hd
      subst hd
      exact hc
    · rw [com_other hcan e] at hd
      exact h y d hd
section
variable {n : Int} {k : Nat} {m : RowsMK} {q : RowsML} {items : List Item} {calls : List Call} {O L : List Item}
theorem noCall_waits {y : Item} (h : getMK m y = some noCall) : waitsM m q y = [] := by
  unfold waitsM
  rw [h, Option.getD_some]
  have : itemsL noCall.deps = [] := by kernel_rfl
  rw [this]
  rfl
theorem waits_none2 {y : Item} (h : getMK m y = none) : waitsM m q y = [] := by
  unfold waitsM
  rw [h, Option.getD_none]
  have : itemsL noCall.deps = [] := by kernel_rfl
  rw [this]
  rfl
theorem waits_good (G : GInv m items) (hz : DZ m n) {y z : Item} (h : z ∈ waitsM m q y) : goodI z n = true := by
  cases hc : getMK m y with
  | none => rw [waits_none2 hc] at h; simp at h
  | some c =>
    have hd := G.deps y
    unfold waitsM at h
    rw [hc, Option.getD_some] at h hd
    obtain ⟨r, h1, j, h2, rfl⟩ := (mem_itemsTo 7).1 (List.mem_filter.1 h).1
    have h3 := hz y c hc r h1
    have h4 := hd r h1
    unfold goodI
    rw [decide_eq_true_iff]
    have h5 : (r : Int) < n := by
      rcases Int.lt_or_le (r : Int) n with h | h
      · exact h
      · have := h3 h; omega
    dsimp only
    omega
theorem mis_good (G : GInv m items) (hz : DZ m n) (h : MisI m q O L) : ∀ y ∈ L, goodI y n = true ∧ getMK m y = none := fun y hy => by
  obtain ⟨x, -, h1, h2⟩ := (h.mem y).1 hy
  obtain ⟨z, -, h3⟩ := (reach_mem G).1 h1
  refine ⟨waits_good G hz h3, ?_⟩
  cases hc : getMK m y with
  | none => rfl
  | some c => rw [hc] at h2; cases h2
/-- So many of what is missing are committed. -/
structure FilI (n : Int) (m0 : RowsMK) (L : List Item) (i : Nat) (k : Nat) (m : RowsMK) (items : List Item) (calls : List Call) (O : List Item) : Prop where
  run : RunI n k m ⟨n, fun _ => []⟩ items calls [] O
  new : ∀ y, y ∈ L.take i → getMK m y = some noCall
  old : ∀ y, y ∉ L.take i → getMK m y = getMK m0 y
theorem zero_good : goodD noCall.deps 7 = true := goodD_yes fun i _ => ⟨Int.le_refl _, by show (0 : Int) ≤ 64; omega, fun _ => rfl⟩
theorem FilI.step {m0 : RowsMK} {i : Nat} (h : FilI n m0 L i k m items calls O) (hnd : L.Nodup) {y : Item} (hy : L[i]? = some y) (hg : goodI y n = true) (h0 : getMK m0 y = none) :
    canC m y noCall = true ∧ ∃ calls', FilI n m0 L (i + 1) (k + 1) (comC m y noCall) (items ++ [y]) calls' (sortO (O ++ [y])) := by
  obtain ⟨hi, rfl⟩ := List.getElem?_eq_some_iff.1 hy
  have hnt : L[i] ∉ L.take i := fun hc => by
    have h1 := List.take_succ_eq_append_getElem hi
    have h2 : (L.take (i + 1)).Nodup := hnd.sublist (List.take_sublist _ _)
    rw [h1, List.nodup_append] at h2
    exact h2.2.2 _ hc _ (by simp) rfl
  have hm : getMK m L[i] = none := by rw [h.old _ hnt, h0]
  have hc : canC m L[i] noCall = true := by
    unfold canC
    rw [zero_good, hm, h.run.bld.mn, hg]; rfl
  obtain ⟨it', ca', h1, h2, -⟩ := h.run.commit L[i] noCall
  obtain ⟨e1, e2⟩ := h2 hc
  unfold nextP at h1
  rw [if_pos hc, e1] at h1
  refine ⟨hc, ca', h1, fun y hy => ?_, fun y hy => ?_⟩
  · by_cases hne : y = L[i]
    · subst hne; exact com_same hc
    · rw [com_other hc hne]
      rw [List.take_succ_eq_append_getElem hi, List.mem_append, List.mem_singleton] at hy
      exact h.new y (hy.resolve_right hne)
  · rw [List.take_succ_eq_append_getElem hi, List.mem_append, List.mem_singleton] at hy
    rw [com_other hc (fun e => hy (.inr e))]
    exact h.old y fun hc => hy (.inl hc)
/-- All is committed that is waited for. -/
theorem fil_closed {m0 : RowsMK} {items0 : List Item} {calls0 : List Call} {O0 : List Item} {k0 : Nat} {l : List Item} (G : GInv m0 items0) (h0 : RunI n k0 m0 ⟨n, fun _ => []⟩ items0 calls0 [] O0) (hM : MisI m0 ⟨n, fun _ => []⟩ O0 L) (hl : ∀ y, y ∈ l ↔ y ∈ L) (h : FilI n m0 l l.length k m items calls O) :
    ∀ y, (getMK m y).isSome = true → ∀ z, Rch m Q0 y z → (getMK m z).isSome = true := by
  have hT : l.take l.length = l := List.take_length
  have hnew := h.new; have hold := h.old
  rw [hT] at hnew hold
  intro y hy z hz
  induction hz with
  | refl => exact hy
  | step hr hz ih =>
    rename_i u v
    by_cases hu : u ∈ l
    · rw [noCall_waits (hnew u hu)] at hz; simp at hz
    · have hum := hold u hu
      rw [hum] at ih
      rw [waits_call hum] at hz
      have hzq : v ∈ waitsM m0 ⟨n, fun _ => []⟩ u := waits_q.2 ⟨hz, by rw [getML_new]; rfl⟩
      by_cases hv : v ∈ l
      · rw [hnew v hv]; rfl
      · rw [hold v hv]
        cases hc : (getMK m0 v).isSome with
        | true => rfl
        | false =>
          refine absurd ((hl v).2 ((hM.mem v).2 ⟨u, (h0.opn u).2 ⟨(h0.bld.is u).1 ih, by simp⟩, (reach_mem G).2 ⟨u, .refl u, hzq⟩, hc⟩)) hv
/-- Behind the pass all is done. -/
theorem fil_end {m0 : RowsMK} {items0 : List Item} {calls0 : List Call} {O0 : List Item} {k0 : Nat} {l : List Item} (hn : n ≤ 7) (h0 : RunI n k0 m0 ⟨n, fun _ => []⟩ items0 calls0 [] O0) (hM : MisI m0 ⟨n, fun _ => []⟩ O0 L) (hl : ∀ y, y ∈ l ↔ y ∈ L) (h : FilI n m0 l l.length k m items calls O)
    {q1 : RowsML} {O1 l1 : List Item} (hg : GoR m items O ⟨n, fun _ => []⟩ O q1 O1 l1) : RunI n k m q1 items calls l1 O1 ∧ O1 = [] ∧ l1.length = items.length := by
  obtain ⟨h1, h2⟩ := h.run.go hn hg
  rw [List.nil_append] at h1 h2
  have hcl := fil_closed (h0.bld.inv hn) h0 hM hl h
  have hmem : ∀ y, y ∈ l1 ↔ y ∈ items := fun y => by
    rw [h2 y, ← h1.bld.is y]
    exact ⟨fun h => h.1, fun h => ⟨h, hcl y h⟩⟩
  refine ⟨h1, ?_, ?_⟩
  · cases O1 with
    | nil => rfl
    | cons a t =>
      obtain ⟨b1, b2⟩ := (h1.opn a).1 (by simp)
      exact absurd ((hmem a).2 b1) b2
  · have hp : l1.Perm items := (List.perm_ext_iff_of_nodup h1.ok.nd h1.bld.nodup).2 hmem
    exact hp.length_eq
end
end Go.Proofs.Ytnjgjhjilolanaa
/- RunFills: when all that is missing is committed, again and again, with calls that wait for nothing, all is done in the end. -/
namespace Go.Proofs.Ytnjgjhjilolanaa
open Go.RowKit Go.Shelf
set_option linter.unusedVariables false
set_option maxRecDepth 20000
attribute [local go_sem] Oper.semAt_some
attribute [local go_sem] row_alloc row_drew row_drewN row_ext row_setCell row_setRow size_ext setRow_alloc setRow_drew loadOf storeOf piece_lit loadVal_at storeVal_at allOne_lit buildOf buildRes_some
attribute [local go_sem high] cell_alloc frozen_alloc setCell_alloc cell_ext frozen_ext cell_setRow frozen_setRow
attribute [local go_sem ↓] TDeed_ld0 TDeed_st0 TDeed_fd0 TDeed_bd0
attribute [local go_sem] TDeed_size TDeed_one TDeed_piece TDeed_c0 TDeed_c1 TDeed_c2 TDeed_c3 TDeed_c4 TDeed_c5 TDeed_set_kind TDeed_set_key TDeed_set_val TDeed_set_ver TDeed_set_ses TDeed_set_num TDeed_ld TDeed_st TDeed_f_kind TDeed_f_key TDeed_f_val TDeed_f_ver TDeed_f_ses TDeed_f_num TDeed_bd TDeed_fl TDeed_fl_kind TDeed_fl_key TDeed_fl_val TDeed_fl_ver TDeed_fl_ses TDeed_fl_num
attribute [local go_sem high] TDeed_eql TDeed_neq
attribute [local go_sem ↓] index_deps0 load_deps0 store_deps0
attribute [local go_sem] DV_piece DV_size DV_one index_deps load_deps store_deps
attribute [local go_sem high] TDeps_eql TDeps_neq
attribute [local go_sem ↓] TCall_ld0 TCall_st0 TCall_fd0 TCall_bd0
attribute [local go_sem] TCall_size TCall_one TCall_piece TCall_c0 TCall_c1 TCall_c2 TCall_c3 TCall_c4 TCall_c5 TCall_c6 TCall_c7 TCall_c8 TCall_c9 TCall_c10 TCall_c11 TCall_c12 TCall_c13 TCall_p_deed TCall_put_deed TCall_p_deps TCall_put_deps TCall_set_seq TCall_ld TCall_st TCall_f_deed TCall_f_deps TCall_f_seq TCall_bd TCall_fl TCall_fl_deed TCall_fl_deps TCall_fl_seq
attribute [local go_sem high] TCall_eql TCall_neq
attribute [local go_sem ↓] TItem_ld0 TItem_st0 TItem_fd0 TItem_bd0
attribute [local go_sem] TItem_size TItem_one TItem_piece TItem_c0 TItem_c1 TItem_set_rep TItem_set_num TItem_ld TItem_st TItem_f_rep TItem_f_num TItem_bd TItem_fl TItem_fl_rep TItem_fl_num
attribute [local go_sem high] TItem_eql TItem_neq
attribute [local go_sem ↓] TRStep_ld0 TRStep_st0 TRStep_fd0 TRStep_bd0
attribute [local go_sem] TRStep_size TRStep_one TRStep_piece TRStep_c0 TRStep_c1 TRStep_c2 TRStep_c3 TRStep_c4 TRStep_c5 TRStep_c6 TRStep_c7 TRStep_c8 TRStep_c9 TRStep_c10 TRStep_c11 TRStep_c12 TRStep_c13 TRStep_c14 TRStep_c15 TRStep_c16 TRStep_p_item TRStep_put_item TRStep_p_call TRStep_put_call TRStep_set_goes TRStep_ld TRStep_st TRStep_f_item TRStep_f_call TRStep_f_goes TRStep_bd TRStep_fl TRStep_fl_item TRStep_fl_call TRStep_fl_goes
attribute [local go_sem high] TRStep_eql TRStep_neq
theorem cll_build0 (p : Array (Nat × Value)) : Instr.build 47 p = buildS 47 p := rfl
theorem cll_build (w : World) : (buildS 47 #[]).run Try.prog w = .ok (.agg (CV noCall)) w := by kernel_rfl
attribute [local go_sem ↓] cll_build0
attribute [local go_sem] cll_build
theorem dps_index (d : Nat → Int) (r : Nat) (h : r < 7) (w : World) : (indexSem 45 (.agg (DV d)) (.int .i64 (r : Int))).run Try.prog w = .ok (.int .i64 (d r)) w := by
  obtain rfl | rfl | rfl | rfl | rfl | rfl | rfl : r = 0 ∨ r = 1 ∨ r = 2 ∨ r = 3 ∨ r = 4 ∨ r = 5 ∨ r = 6 := by omega
  all_goals kernel_rfl
section
variable {w W : World} {F : Nat → Prop} {R : List Res}
set_option maxHeartbeats 32000000 in
theorem law_fills (n : Int) (A : Option Addr) (c : Nat) (l : List RStep) (W : World) (hl : RowsIn W A 17 RSV l) :
    Calls Try.prog 8 #[.int .i64 n, .slice A l.length c] W fun e W' => e = .returned (.bool true) ∧ Below W.heap.size W W' := by
  have hlen := hl.len
  have HL := Lib.hid hl; clear hl
  have T := Sts.start0 W
  have HAL := Lib.hid (alive19 T)
  clear T
  go_enter Try.func8, Try.ntmps8
  go_wp2_with fail
  refine HAL.out.mono ?_
  clear HAL
  rintro e1 w1 ⟨rfl, T⟩
  have HT := Lib.hid T; clear T
  obtain ⟨gb, hgb⟩ : ∃ v, v = greatG n l.length := ⟨_, rfl⟩
  have HG := Lib.hid (fun w => great19 n A l.length c (by omega) w)
  rw [← hgb] at HG
  have HGB := Lib.hid hgb; clear hgb
  go_wp2_with fail
  refine (HG.out _).mono ?_
  clear HG
  rintro e2 w2 ⟨rfl, rfl⟩
  cases gb
  case true =>
    go_wp2
    go_ret
    exact ⟨rfl, HT.out.below⟩
  case false =>
    obtain ⟨hn, hl25⟩ := great_no HGB.out.symm
    have hHN := Lib.hid hn; clear hn
    go_wp2_with fail
    go_loopw [22] (fun u22 wr => ∃ i : Nat, u22 = .int .i64 i ∧ i ≤ l.length ∧ (∀ (j : Nat) (s : RStep), j < i → l[j]? = some s → ∀ r : Nat, r < 7 → n ≤ (r : Int) → s.call.deps r = 0) ∧ Sts W (fun _ => False) wr []) (fun u22 _ => l.length - (intOf u22).toNat)
    case atStart => exact ⟨0, rfl, by omega, fun j s h => by omega, HT.out⟩
    case round =>
      clear HT
      obtain ⟨i, rfl, hi, hu, T⟩ := hrel
      have HU := Lib.hid hu; clear hu
      by_cases hil : i < l.length
      · have hil' : (i : Int) < (l.length : Int) := by omega
        have hi0 : (0 : Int) ≤ (i : Int) := by omega
        cases A with
        | none => have := HL.out.nil rfl; subst this; simp at hil
        | some a =>
          have hld := HL.out.load (P := Try.prog) (T := 59) TRStep_size (by first | exact TRStep_und | exact Try.underlying59) rfl (by kernel_rfl) T.below rfl hil
          obtain ⟨s, hs⟩ : ∃ s, s = l[i] := ⟨_, rfl⟩
          have HS := Lib.hid (show l[i]? = some s by rw [hs]; exact List.getElem?_eq_getElem _)
          rw [← hs] at hld
          clear hs
          have T2 := T.new (RSV s) 59
          have hr := T2.row; have hlt := row_lt hr
          have HT := Lib.hid T2
          clear T T2
          go_upto_region 8 with fail
          generalize wr.alloc _ = w6 at *
          generalize wr.heap.size = gx at *
          clear hld
          go_wp2_with fail
          clear hr hlt
          rw [show piece (RSV s) 8 7 = DV s.call.deps from rfl]
          go_loopw [29] (fun u29 wx => ∃ r : Nat, u29 = .int .i64 r ∧ r ≤ 7 ∧ (∀ r' : Nat, r' < r → n ≤ (r' : Int) → s.call.deps r' = 0) ∧ Sts W (fun _ => False) wx [rowR gx (RSV s)]) (fun u29 _ => 7 - (intOf u29).toNat)
          case atStart => exact ⟨0, rfl, by omega, fun r' h => by omega, HT.out⟩
          case round =>
            clear HT
            obtain ⟨r, rfl, hr7, hd, T⟩ := hrel
            have HD := Lib.hid hd; clear hd
            by_cases hr8 : r < 7
            · have hidx := dps_index s.call.deps r hr8
              have hr9 : (r : Int) < 7 := by omega
              have HT := Lib.hid T; clear T
              by_cases hnr : n ≤ (r : Int)
              · by_cases hd0 : s.call.deps r = 0
                · have hd1 : (s.call.deps r == 0) = true := by rw [hd0]; rfl
                  have HD0 := Lib.hid hd0; have HNR := Lib.hid hnr
                  go_wp2
                  go_roundw
                  case rel => exact ⟨r + 1, by go_num, by omega, (fun r' h1 h2 => by
                    rcases Nat.lt_succ_iff_lt_or_eq.1 h1 with h | h
                    · exact HD.out r' h h2
                    · subst h; exact HD0.out), HT.out⟩
                  case measure => simp [intOf]; omega
                · have hd1 : (s.call.deps r == 0) = false := by rw [beq_eq_false_iff_ne]; exact hd0
                  go_wp2
                  go_ret
                  exact ⟨rfl, HT.out.below⟩
              · have HNR := Lib.hid hnr
                go_wp2
                go_roundw
                case rel => exact ⟨r + 1, by go_num, by omega, (fun r' h1 h2 => by
                  rcases Nat.lt_succ_iff_lt_or_eq.1 h1 with h | h
                  · exact HD.out r' h h2
                  · subst h; exact absurd h2 HNR.out), HT.out⟩
                case measure => simp [intOf]; omega
            · obtain rfl : r = 7 := by omega
              have HT := Lib.hid T.drop; clear T
              go_wp2_with fail
              go_roundw
              case rel => exact ⟨i + 1, by go_num, by omega, (fun j s' h1 h2 => by
                rcases Nat.lt_succ_iff_lt_or_eq.1 h1 with h | h
                · exact HU.out j s' h h2
                · subst h
                  rw [HS.out] at h2
                  injection h2 with h2
                  subst h2
                  exact HD.out), HT.out⟩
              case measure => simp [intOf]; omega
      · have hil' : ¬ (i : Int) < (l.length : Int) := by omega
        obtain rfl : i = l.length := by omega
        have hdz : ∀ s ∈ l, ∀ r : Nat, r < 7 → n ≤ (r : Int) → s.call.deps r = 0 := fun s hs => by
          obtain ⟨j, hj, rfl⟩ := List.getElem_of_mem hs
          exact HU.out j _ hj (List.getElem?_eq_getElem _)
        have HDZ := Lib.hid hdz; clear hdz HU
        have hnn : newN n = n := by unfold newN; rcases hHN.out with rfl | rfl | rfl <;> rfl
        have HN1 := Lib.hid (runNewT n (by rcases hHN.out with h | h | h <;> omega) T)
        clear T
        go_wp2_with fail
        refine HN1.out.mono ?_
        clear HN1
        rintro e3 w3 ⟨ra, rfl, T⟩
        rw [hnn] at T
        have HT := Lib.hid T; clear T hnn
        obtain ⟨q0, hq0⟩ : ∃ q, q = (⟨n, fun _ => []⟩ : RowsML) := ⟨_, rfl⟩
        have HQ0 := Lib.hid hq0
        have hR0 : RunI n 0 ⟨n, fun _ => []⟩ q0 [] [] [] [] := by rw [hq0]; exact RunI.new n
        have HR0 := Lib.hid hR0
        rw [← hq0] at HT
        clear hq0 hR0
        go_wp2_with fail
        go_loopw [46, 10] (fun u46 u10 wr => ∃ (i : Nat) (m : RowsMK) (items : List Item) (calls : List Call) (O : List Item), u46 = .int .i64 i ∧ u10 = .int .i64 items.length ∧ i ≤ l.length ∧ RunI n i m q0 items calls [] O ∧ DZ m n ∧ Sts W (fun _ => False) wr [runR ra m q0 [] O]) (fun u46 _ _ => l.length - (intOf u46).toNat)
        case atStart => exact ⟨0, _, [], [], [], rfl, rfl, by omega, HR0.out, DZ.new n, HT.out⟩
        case round =>
          clear HT
          obtain ⟨i, m, items, calls, O, rfl, rfl, hi, hR, hZ, T⟩ := hrel
          have HR := Lib.hid hR; have HZ := Lib.hid hZ; clear hR hZ
          by_cases hil : i < l.length
          · have hil' : (i : Int) < (l.length : Int) := by omega
            have hi0 : (0 : Int) ≤ (i : Int) := by omega
            cases A with
            | none => have := HL.out.nil rfl; subst this; simp at hil
            | some a =>
              have hld := HL.out.load (P := Try.prog) (T := 59) TRStep_size (by first | exact TRStep_und | exact Try.underlying59) rfl (by kernel_rfl) T.below rfl hil
              obtain ⟨s, hs⟩ : ∃ s, s = l[i] := ⟨_, rfl⟩
              have HS := Lib.hid (show s ∈ l by rw [hs]; exact List.getElem_mem _)
              rw [← hs] at hld
              clear hs
              have T2 := (T.new (RSV s) 59).ord [1, 0]
              have hlei := HR.out.bld.lei
              have hOl : O.length < 511 := by have := HR.out.olen; omega
              have hmb : 0 ≤ m.n ∧ m.n ≤ 7 := by rw [HR.out.bld.mn]; rcases hHN.out with h | h | h <;> omega
              have hr := (T2.ord [1, 0]).row; have hlt := row_lt hr
              have HC1 := Lib.hid (runCommitT hmb hOl s.item s.call T2)
              clear T T2 hOl hmb
              go_upto_region 20 with fail
              generalize wr.alloc _ = w6 at *
              generalize wr.heap.size = gx at *
              clear hld
              obtain ⟨items2, calls2, hR2, hy1, hy2⟩ := HR.out.commit s.item s.call
              have hZ2 := HZ.out.commit (x := s.item) (c := s.call) (fun r h1 h2 => HDZ.out s HS.out r h1 h2)
              have HR2 := Lib.hid hR2; have HZ2 := Lib.hid hZ2; have HY := Lib.hid (And.intro hy1 hy2)
              clear hR2 hZ2 hy1 hy2
              obtain ⟨can, hcan⟩ : ∃ v, v = canC m s.item s.call := ⟨_, rfl⟩
              rw [← hcan] at HC1
              have HCAN := Lib.hid hcan; clear hcan
              go_wp2_with fail
              refine HC1.out.mono ?_
              clear HC1 hr hlt
              rintro e7 w7 ⟨rfl, T⟩
              have T : Sts W (fun _ => False) w7 (runR ra (comC m s.item s.call) q0 [] (nextP m O s.item s.call) :: rowR gx (RSV s) :: []) := by
                unfold nextP; rw [← HCAN.out]; exact T
              have HT := Lib.hid (T.ord [1, 0]).drop
              clear T
              cases can
              case true =>
                obtain ⟨he1, he2⟩ := HY.out.1 HCAN.out.symm
                subst he1
                have hle : (items ++ [s.item]).length = items.length + 1 := by simp
                have HLE := Lib.hid hle; clear hle he2
                go_wp2
                go_roundw
                case rel => exact ⟨i + 1, _, items ++ [s.item], calls2, _, by go_num, by rw [HLE.out]; go_num, by omega, HR2.out, HZ2.out, HT.out⟩
                case measure => simp [intOf]; omega
              case false =>
                obtain ⟨he1, he2⟩ := HY.out.2 HCAN.out.symm
                subst he1
                clear he2
                go_wp2
                go_roundw
                case rel => exact ⟨i + 1, _, _, calls2, _, by go_num, rfl, by omega, HR2.out, HZ2.out, HT.out⟩
                case measure => simp [intOf]; omega
          · have hil' : ¬ (i : Int) < (l.length : Int) := by omega
            obtain rfl : i = l.length := by omega
            have hn7 : n ≤ 7 := by rcases hHN.out with h | h | h <;> omega
            have hG := HR.out.bld.inv hn7
            have hlei := HR.out.bld.lei
            have hmb : 0 ≤ m.n ∧ m.n ≤ 7 := by rw [HR.out.bld.mn]; rcases hHN.out with h | h | h <;> omega
            have hqb : 0 ≤ q0.n ∧ q0.n ≤ 7 := by rw [HR.out.bld.qn]; rcases hHN.out with h | h | h <;> omega
            have hOC : ∀ x ∈ O, (getMK m x).isSome = true ∧ (getML q0 x).isSome = false := fun x hx => by
              refine ⟨(HR.out.bld.is x).2 ((HR.out.opn x).1 hx).1, ?_⟩
              rw [HQ0.out, getML_new]; rfl
            have HM := Lib.hid (runMissT hmb hqb hG (by omega) (by have := HR.out.olen; omega) hOC T)
            have HG := Lib.hid hG
            clear T hOC hmb hG
            go_wp2_with fail
            refine HM.out.mono ?_
            clear HM
            rintro e8 w8 ⟨v, L, rfl, hM, T⟩
            have hgood := mis_good HG.out HZ.out hM
            have hlen2 : (sortO L).length ≤ 448 := by rw [sortO_length]; exact hM.len
            have hnd : (sortO L).Nodup := (sortO_perm L).nodup_iff.2 hM.nd
            have hlm : ∀ y, y ∈ sortO L ↔ y ∈ L := fun y => (sortO_perm L).mem_iff
            have HM := Lib.hid hM; have HGD := Lib.hid hgood; have HND := Lib.hid hnd; have HLM := Lib.hid hlm
            clear hM hgood hnd hlm
            obtain ⟨l2, hl2⟩ : ∃ x, x = sortO L := ⟨_, rfl⟩
            rw [← hl2] at HND HLM T hlen2
            clear hl2
            obtain ⟨A2, c2, rfl⟩ := vec_shape2 T
            obtain ⟨n2, hn2⟩ : ∃ k, k = l2.length := ⟨_, rfl⟩
            have HN2 := Lib.hid hn2
            rw [← hn2] at T hlen2
            have HT := Lib.hid T
            have hF0 : FilI n m l2 0 (l.length + 0) m items calls O := ⟨by rw [← HQ0.out]; exact HR.out, by simp, fun y _ => rfl⟩
            have HF0 := Lib.hid hF0
            rw [← hn2]
            clear T hn2 hF0
            go_wp2_with fail
            go_loopw [62, 10] (fun u62 u10 wr => ∃ (i : Nat) (m1 : RowsMK) (items1 : List Item) (calls1 : List Call) (O1 : List Item), u62 = .int .i64 i ∧ u10 = .int .i64 items1.length ∧ i ≤ n2 ∧ FilI n m l2 i (l.length + i) m1 items1 calls1 O1 ∧ Sts W (fun _ => False) wr [vecR 35 2 (.slice A2 n2 c2) n2 (vl IV l2), runR ra m1 q0 [] O1]) (fun u62 _ _ => n2 - (intOf u62).toNat)
            case atStart => exact ⟨0, _, _, _, _, rfl, rfl, Nat.zero_le _, HF0.out, HT.out⟩
            case round =>
              clear HT HF0
              obtain ⟨i, m1, items1, calls1, O1, rfl, rfl, hi2, hF, T⟩ := hrel
              have HF := Lib.hid hF
              have hlei2 := hF.run.bld.lei
              have hol2 := hF.run.olen
              clear hF
              by_cases hin : i < n2
              · have hin' : (i : Int) < (n2 : Int) := by omega
                have hi0 : (0 : Int) ≤ (i : Int) := by omega
                obtain ⟨y, hy⟩ : ∃ y, l2[i]? = some y := ⟨l2[i]'(by rw [← HN2.out]; exact hin), List.getElem?_eq_getElem _⟩
                obtain ⟨g2, rfl, hld⟩ := vec_load (P := Try.prog) (e := 35) TItem_size (by omega) TItem_und rfl (by kernel_rfl) T HN2.out hy (by omega)
                have hyL := (HLM.out y).1 (List.mem_of_getElem? hy)
                obtain ⟨hcan, calls3, hF3⟩ := HF.out.step HND.out hy (HGD.out y hyL).1 (HGD.out y hyL).2
                have T2 := (T.new (IV y) 35).ord [2, 0, 1]
                have hmb : 0 ≤ m1.n ∧ m1.n ≤ 7 := by rw [HF.out.run.bld.mn]; rcases hHN.out with h | h | h <;> omega
                have hr := T2.row1; have hlt := row_lt hr
                have HC1 := Lib.hid (runCommitT hmb (by omega) y noCall T2)
                rw [if_pos hcan, hcan] at HC1
                have HF3 := Lib.hid hF3
                clear T T2 hmb hcan hF3 hy
                go_upto_region 26 with fail
                generalize wr.alloc _ = w9 at *
                generalize wr.heap.size = gy at *
                clear hld
                go_wp2_with fail
                refine HC1.out.mono ?_
                clear HC1 hr hlt
                rintro e9 w10 ⟨rfl, T⟩
                have HT := Lib.hid ((T.ord [1, 2, 0]).drop)
                have hle : (items1 ++ [y]).length = items1.length + 1 := by simp
                have HLE := Lib.hid hle
                clear T hle
                go_wp2
                go_roundw
                case rel => exact ⟨i + 1, _, items1 ++ [y], calls3, _, by go_num, by rw [HLE.out]; go_num, by omega, HF3.out, HT.out⟩
                case measure => simp [intOf]; omega
              · have hin' : ¬ (i : Int) < (n2 : Int) := by omega
                obtain rfl : i = n2 := by omega
                have hG1 := HF.out.run.bld.inv hn7
                have hmb : 0 ≤ m1.n ∧ m1.n ≤ 7 := by rw [HF.out.run.bld.mn]; rcases hHN.out with h | h | h <;> omega
                have hOI : ∀ y ∈ O1, InI y := fun y hy => hG1.fits y ((HF.out.run.opn y).1 hy).1
                have HP := Lib.hid (passT (its := items1) (D := []) hmb hqb hG1 (by omega) (by omega) hOI (Nat.zero_le _) (T.ord [1, 0]))
                have HG1 := Lib.hid hG1
                clear T hG1 hOI
                go_wp2_with fail
                refine HP.out.mono ?_
                clear HP
                rintro e10 w11 ⟨rfl, T⟩
                obtain ⟨q1, O2, l1, hgo, T⟩ := T.goneOpen
                have hgo' := hgo
                rw [HQ0.out] at hgo'
                have hF := HF.out
                rw [HN2.out] at hF
                obtain ⟨e1, rfl, e3⟩ := fil_end hn7 (by rw [← HQ0.out]; exact HR.out) (by rw [← HQ0.out]; exact HM.out) HLM.out hF hgo'
                have hq1 : 0 ≤ q1.n ∧ q1.n ≤ 7 := by rw [e1.bld.qn]; rcases hHN.out with h | h | h <;> omega
                rw [List.nil_append] at T
                have hdl := e1.dlen
                obtain ⟨nk, hnk⟩ : ∃ k, k = items1.length := ⟨_, rfl⟩
                rw [← hnk] at e3 hdl hlei2
                have HE3 := Lib.hid e3
                have HM1 := Lib.hid (runMissT (its := items1) (O := []) hmb hq1 HG1.out (by omega) (Nat.zero_le _) (fun x hx => absurd hx (by simp)) T)
                rw [← hnk]
                clear T hgo hgo' hF e1 e3 HF hnk
                go_wp2_with fail
                refine HM1.out.mono ?_
                clear HM1
                rintro e11 w12 ⟨v3, L3, rfl, hM3, T⟩
                have hL3 : L3 = [] := by
                  cases L3 with
                  | nil => rfl
                  | cons a t =>
                    obtain ⟨x, hx, -⟩ := (hM3.mem a).1 (by simp)
                    simp at hx
                have hs3 : sortO L3 = [] := by rw [hL3]; exact List.eq_nil_of_length_eq_zero (sortO_length [])
                rw [hs3] at T
                obtain ⟨A3, c3, rfl⟩ := vec_shape2 (T : Sts W (fun _ => False) w12 (vecR 35 2 v3 0 (vl IV []) :: _))
                have HO := Lib.hid (runOpenT (O := []) (Nat.zero_le _) T.drop)
                clear T hM3 hL3 hs3
                go_wp2_with fail
                refine HO.out.mono ?_
                clear HO
                rintro e12 w13 ⟨v4, rfl, T⟩
                obtain ⟨A4, c4, rfl⟩ := vec_shape2 (T : Sts W (fun _ => False) w13 (vecR 35 2 v4 0 (vl IV []) :: _))
                have HD := Lib.hid (runDoneT (D := l1) (by rw [HE3.out]; omega) T.drop)
                clear T
                go_wp2_with fail
                refine HD.out.mono ?_
                clear HD
                rintro e13 w14 ⟨v5, rfl, T⟩
                have T5 : ∀ k, k = l1.length → ∃ L, Sts W (fun _ => False) w14 (vecR 35 2 v5 k (vl IV l1) :: L) := fun k e => by subst e; exact ⟨_, T⟩
                obtain ⟨L5, T5⟩ := T5 nk HE3.out.symm
                obtain ⟨A5, c5, rfl⟩ := vec_shape2 T5
                have HT := Lib.hid T5
                clear T T5 HE3
                go_wp2
                go_ret
                exact ⟨rfl, HT.out.below⟩
end
end Go.Proofs.Ytnjgjhjilolanaa
