/- Several texts in one. -/
import Derived.Test.YtnjgjhjilolanaaH32
import Derived.Test.YtnjgjhjilolanaaH40
import Derived.Test.YtnjgjhjilolanaaH41
import Derived.Test.YtnjgjhjilolanaaH3
/- RunDoes: behind each step what was done is all that can be, when the run went; each once, whole parts, behind all that it waits for; what is open, and missing, is the document's; a nil run. -/
namespace Go.Proofs.Ytnjgjhjilolanaa
open Go.RowKit Go.Shelf
set_option linter.unusedVariables false
set_option maxRecDepth 20000
attribute [local go_sem] Oper.semAt_some
attribute [local go_sem] row_alloc row_drew row_drewN row_ext row_setCell row_setRow size_ext setRow_alloc setRow_drew loadOf storeOf piece_lit loadVal_at storeVal_at allOne_lit buildOf buildRes_some
attribute [local go_sem high] cell_alloc frozen_alloc setCell_alloc cell_ext frozen_ext cell_setRow frozen_setRow
attribute [local go_sem ↓] TDeed_ld0 TDeed_st0 TDeed_fd0 TDeed_bd0
attribute [local go_sem] TDeed_size TDeed_one TDeed_piece TDeed_c0 TDeed_c1 TDeed_c2 TDeed_c3 TDeed_c4 TDeed_c5 TDeed_set_kind TDeed_set_key TDeed_set_val TDeed_set_ver TDeed_set_ses TDeed_set_num TDeed_ld TDeed_st TDeed_f_kind TDeed_f_key TDeed_f_val TDeed_f_ver TDeed_f_ses TDeed_f_num TDeed_bd TDeed_fl TDeed_fl_kind TDeed_fl_key TDeed_fl_val TDeed_fl_ver TDeed_fl_ses TDeed_fl_num
attribute [local go_sem high] TDeed_eql TDeed_neq
attribute [local go_sem ↓] index_deps0 load_deps0 store_deps0
attribute [local go_sem] DV_piece DV_size DV_one index_deps load_deps store_deps
attribute [local go_sem high] TDeps_eql TDeps_neq
attribute [local go_sem ↓] TCall_ld0 TCall_st0 TCall_fd0 TCall_bd0
attribute [local go_sem] TCall_size TCall_one TCall_piece TCall_c0 TCall_c1 TCall_c2 TCall_c3 TCall_c4 TCall_c5 TCall_c6 TCall_c7 TCall_c8 TCall_c9 TCall_c10 TCall_c11 TCall_c12 TCall_c13 TCall_p_deed TCall_put_deed TCall_p_deps TCall_put_deps TCall_set_seq TCall_ld TCall_st TCall_f_deed TCall_f_deps TCall_f_seq TCall_bd TCall_fl TCall_fl_deed TCall_fl_deps TCall_fl_seq
attribute [local go_sem high] TCall_eql TCall_neq
attribute [local go_sem ↓] TItem_ld0 TItem_st0 TItem_fd0 TItem_bd0
attribute [local go_sem] TItem_size TItem_one TItem_piece TItem_c0 TItem_c1 TItem_set_rep TItem_set_num TItem_ld TItem_st TItem_f_rep TItem_f_num TItem_bd TItem_fl TItem_fl_rep TItem_fl_num
attribute [local go_sem high] TItem_eql TItem_neq
attribute [local go_sem ↓] TRStep_ld0 TRStep_st0 TRStep_fd0 TRStep_bd0
attribute [local go_sem] TRStep_size TRStep_one TRStep_piece TRStep_c0 TRStep_c1 TRStep_c2 TRStep_c3 TRStep_c4 TRStep_c5 TRStep_c6 TRStep_c7 TRStep_c8 TRStep_c9 TRStep_c10 TRStep_c11 TRStep_c12 TRStep_c13 TRStep_c14 TRStep_c15 TRStep_c16 TRStep_p_item TRStep_put_item TRStep_p_call TRStep_put_call TRStep_set_goes TRStep_ld TRStep_st TRStep_f_item TRStep_f_call TRStep_f_goes TRStep_bd TRStep_fl TRStep_fl_item TRStep_fl_call TRStep_fl_goes
attribute [local go_sem high] TRStep_eql TRStep_neq
theorem cll_build0 (p : Array (Nat × Value)) : Instr.build 47 p = buildS 47 p := rfl
theorem cll_build (w : World) : (buildS 47 #[]).run Try.prog w = .ok (.agg (CV noCall)) w := by kernel_rfl
attribute [local go_sem ↓] cll_build0 doc_build0 cll_slice0 itm_slice0
attribute [local go_sem] cll_build doc_build cll_slice1 itm_slice1
def nItm : Item := ⟨0, 1⟩
theorem nItm_build0 (p : Array (Nat × Value)) : Instr.build 35 p = buildS 35 p := rfl
theorem nItm_build (w : World) : (buildS 35 #[(1, .int .i64 1)]).run Try.prog w = .ok (.agg (IV nItm)) w := by kernel_rfl
attribute [local go_sem ↓] nItm_build0
attribute [local go_sem] nItm_build
/-- The document's things, wherever its slices lie. -/
def docR (g : Nat) (items : List Item) (calls : List Call) (D : List Item) : Res := exR fun v : Value × Value × Value => packR (docL g v.1 v.2.1 v.2.2 items calls D)
theorem Sts.docOpen {w W : World} {F : Nat → Prop} {R : List Res} {g : Nat} {items : List Item} {calls : List Call} {D : List Item} (T : Sts w F W (docR g items calls D :: R)) : ∃ v : Value × Value × Value, Sts w F W (docL g v.1 v.2.1 v.2.2 items calls D ++ R) := by
  obtain ⟨v, h⟩ := Sts.open T
  exact ⟨v, h.unpack⟩
theorem Sts.docShut {w W : World} {F : Nat → Prop} {R : List Res} {g : Nat} {vi vc vd : Value} {items : List Item} {calls : List Call} {D : List Item} (T : Sts w F W (docL g vi vc vd items calls D ++ R)) : Sts w F W (docR g items calls D :: R) :=
  Sts.close (vi, vc, vd) (Sts.pack (L := docL g vi vc vd items calls D) T)
/-- What stands in the frame, at a round's head. -/
structure FrD (n : Int) (vs : Value) (len ra g4 gm i : Nat) (t : Array Value) : Prop where
  s : t.size = 253
  e0 : t.getD 0 undef = .int .i64 n
  e4 : t.getD 4 undef = .pointer (some ⟨g4, 0, none⟩)
  e5 : t.getD 5 undef = .pointer (some ⟨ra, 0, none⟩)
  e6 : t.getD 6 undef = .pointer (some ⟨gm, 0, none⟩)
  e27 : t.getD 27 undef = vs
  e28 : t.getD 28 undef = .int .i64 len
  e29 : t.getD 29 undef = .int .i64 i
/-- At a round's head. -/
def DoeI (n : Int) (vs : Value) (len ra g4 gm g : Nat) (W : World) (k : Nat) (a : Act) (wr : World) : Prop :=
  ∃ (i : Nat) (Ds : List Nat) (m : RowsMK) (q : RowsML) (items : List Item) (calls : List Call) (D O : List Item), k + i = len ∧ FrD n vs len ra g4 gm i a.tmps ∧ a.defers = Ds.map collD ∧ RunI n i m q items calls D O ∧ Srt mZ O ∧
    Sts W (fun _ => False) wr [rowR g4 #[.bool false], rowR gm #[.pointer (some ⟨g, 0, none⟩)], runR ra m q D O, docR g items calls D, marksR Ds]
theorem noOut_normalD {Q : Exit → Act → World → Prop} {a : Act} {w : World} (h : Q .normal a w) : NoOut Q .normal a w := h
theorem RunI.lens {n : Int} {k : Nat} {m : RowsMK} {q : RowsML} {items : List Item} {calls : List Call} {D O : List Item} (h : RunI n k m q items calls D O) : O.length + D.length = items.length := by
  have hp : (O ++ D).Perm items := (List.perm_ext_iff_of_nodup (by
    rw [List.nodup_append]
    exact ⟨h.ond, h.ok.nd, fun a ha b hb e => ((h.opn a).1 ha).2 (e ▸ hb)⟩) h.bld.nodup).2 fun y => by
    rw [List.mem_append, h.opn y]
    constructor
    · rintro (h1 | h1)
      · exact h1.1
      · exact (h.bld.is y).1 (h.ok.com y h1)
    · intro h1
      by_cases h2 : y ∈ D
      · exact .inr h2
      · exact .inl ⟨h1, h2⟩
  rw [← hp.length_eq, List.length_append]
/-- Behind the going of a round. -/
def DoeM (n : Int) (vs : Value) (len ra g4 gm g gx i : Nat) (s : RStep) (m : RowsMK) (items : List Item) (calls : List Call) (W : World) (a : Act) (wr : World) : Prop :=
  ∃ (Ds : List Nat) (q : RowsML) (D O : List Item), FrD n vs len ra g4 gm i a.tmps ∧ a.tmps.getD 8 undef = .pointer (some ⟨gx, 0, none⟩) ∧ a.defers = Ds.map collD ∧ RunI n (i + 1) m q items calls D O ∧ Srt mZ O ∧
    Sts W (fun _ => False) wr [docR g items calls D, rowR gx (RSV s), rowR gm #[.pointer (some ⟨g, 0, none⟩)], runR ra m q D O, rowR g4 #[.bool false], marksR Ds]
/-- What stands in the frame of a going's round. -/
structure FrG (gm g11 g12 : Nat) (t : Array Value) : Prop where
  s : t.size = 253
  e6 : t.getD 6 undef = .pointer (some ⟨gm, 0, none⟩)
  e11 : t.getD 11 undef = .pointer (some ⟨g11, 0, none⟩)
  e12 : t.getD 12 undef = .pointer (some ⟨g12, 0, none⟩)
theorem cll_load {k : Nat} {w W : World} {F : Nat → Prop} {R : List Res} {vc : Value} {calls : List Call} (T : Sts w F W (vecR 47 14 vc calls.length (vl CV calls) :: R)) (hl : calls.length ≤ 1000000) {c : Call} (hc : calls[k]? = some c) : ∃ g cp, vc = .slice (some ⟨g, 0, none⟩) calls.length cp ∧ loadVal Try.prog 47 14 W (.pointer (some ⟨g, k * 14, none⟩)) = .ok (.agg (CV c)) W := by
  obtain ⟨hk, rfl⟩ := List.getElem?_eq_some_iff.1 hc
  obtain ⟨A, cp, rfl, hA, -, h0⟩ := vec_rows TCall_size T (by omega) (by omega)
  cases A with
  | none => have := hA.nil rfl; rw [this] at hk; simp at hk
  | some a =>
    obtain ⟨g, rfl⟩ := h0 a rfl
    have h := hA.load (P := Try.prog) (T := 47) TCall_size TCall_und rfl (by kernel_rfl) (Below.refl _ _) rfl hk
    rw [add_none, Nat.zero_add] at h
    exact ⟨g, cp, rfl, h⟩
section
variable {w W : World} {F : Nat → Prop} {R : List Res}
set_option maxHeartbeats 64000000 in
theorem law_does (n : Int) (A : Option Addr) (c : Nat) (l : List RStep) (W : World) (hl : RowsIn W A 17 RSV l) :
    Calls Try.prog 9 #[.int .i64 n, .slice A l.length c] W fun e W' => e = .returned (.bool true) ∧ Below W.heap.size W W' := by
  have hlen := hl.len
  have HL := Lib.hid hl; clear hl
  refine (callsIn_wide (n := 4)).1 ?_
  refine callsIn_of_wp_marks Try.func9 rfl trivial ?_ rfl
  simp only [Try.ntmps9, List.size_toArray, List.length_cons, List.length_nil, Nat.reduceAdd, Nat.reduceSub, Array.replicate_succ, Array.replicate_zero, List.push_toArray, List.append_toArray, List.nil_append, List.cons_append]
  refine wpIn_wide.2 ?_
  have T := (Sts.start0 W).new #[.bool false] 4
  have HAL := Lib.hid (alive19 T)
  clear T
  go_wp2_with fail
  refine HAL.out.mono ?_
  clear HAL
  rintro e1 w1 ⟨rfl, T⟩
  have HT := Lib.hid T; clear T
  generalize hgs : W.heap.size = g4 at *
  obtain ⟨gb, hgb⟩ : ∃ v, v = greatG n l.length := ⟨_, rfl⟩
  have HG := Lib.hid (fun w => great19 n A l.length c (by omega) w)
  rw [← hgb] at HG
  have HGB := Lib.hid hgb; clear hgb
  go_wp2_with fail
  refine (HG.out _).mono ?_
  clear HG
  rintro e2 w2 ⟨rfl, rfl⟩
  cases gb
  case true =>
    have r4 := HT.out.row; have l4 := row_lt r4; have f4 := row_frozen r4 0
    have c4 := row_cell r4 0
    have T2 := HT.out.setCell 0 (.bool true)
    have HT2 := Lib.hid T2; clear T2
    go_wp2
    refine retM0 (results_cellR rfl rfl (row_cell HT2.out.row 0) Try.underlying4 rfl) ⟨rfl, ?_⟩ rfl
    first | exact HT2.out.below | (rw [← hgs]; exact HT2.out.below)
  case false =>
    obtain ⟨hn, hl25⟩ := great_no HGB.out.symm
    have hHN := Lib.hid hn; clear hn
    have hnn : newN n = n := by unfold newN; rcases hHN.out with rfl | rfl | rfl <;> rfl
    have HN1 := Lib.hid (runNewT n (by rcases hHN.out with h | h | h <;> omega) HT.out)
    go_wp2_with fail
    refine HN1.out.mono ?_
    clear HN1 HT
    rintro e3 w3 ⟨ra, rfl, T⟩
    rw [hnn] at T
    have T1 := (T.vecNil 35 2).vecNil 47 14
    have T2 := ((T1.vecNil 35 2).new (docC (.slice none 0 0) (.slice none 0 0) (.slice none 0 0)) 33).new #[.pointer (some ⟨w3.heap.size, 0, none⟩)] 26
    rw [World.size_alloc] at T2
    have HT := Lib.hid T2
    clear T T1 T2 hnn
    go_wp2_with fail
    generalize hw5 : World.alloc _ _ = w5 at *
    generalize w3.heap.size + 1 = gm at *
    generalize w3.heap.size = g at *
    clear hw5
    have hR0 := RunI.new n
    obtain ⟨vs, hvs⟩ : ∃ v, v = Value.slice A l.length c := ⟨_, rfl⟩
    have HVS := Lib.hid hvs
    rw [← hvs]
    clear hvs
    refine wp_loop_ghost_k (DoeI n vs l.length ra g4 gm g W) l.length ?_ ?_
    · have T5 : Sts W (fun _ => False) w5 (rowR gm #[.pointer (some ⟨g, 0, none⟩)] :: rowR g (docC (.slice none 0 0) (.slice none 0 0) (.slice none 0 0)) :: vecR 35 2 (.slice none 0 0) ([] : List Item).length (vl IV []) :: vecR 47 14 (.slice none 0 0) ([] : List Call).length (vl CV []) :: vecR 35 2 (.slice none 0 0) ([] : List Item).length (vl IV []) :: runR ra ⟨n, fun _ => []⟩ ⟨n, fun _ => []⟩ [] [] :: rowR g4 #[.bool false] :: []) := HT.out
      have T6 := (T5.ord [1, 4, 3, 2, 0, 5, 6])
      have T7 : Sts W (fun _ => False) w5 (docR g [] [] [] :: rowR gm #[.pointer (some ⟨g, 0, none⟩)] :: runR ra ⟨n, fun _ => []⟩ ⟨n, fun _ => []⟩ [] [] :: rowR g4 #[.bool false] :: []) := Sts.close (.slice none 0 0, .slice none 0 0, .slice none 0 0) (Sts.pack (L := docL g (.slice none 0 0) (.slice none 0 0) (.slice none 0 0) [] [] []) T6)
      exact ⟨0, [], _, _, [], [], [], [], rfl, ⟨rfl, rfl, rfl, rfl, rfl, rfl, rfl, rfl⟩, rfl, hR0, List.Pairwise.nil, T7.marksNil.ord [4, 2, 3, 1, 0]⟩
    clear HT hR0
    intro k0 a0 wr hrel
    obtain ⟨i, Ds, m, q, items, calls, D, O, hk, hfr, hds, hR, hS, T⟩ := hrel
    obtain ⟨t, ds⟩ := a0
    dsimp only at hfr hds
    subst hds
    obtain ⟨f, hf, ht⟩ := fr_open _ (hfr).s
    have e0 := (hfr).e0; have e4 := (hfr).e4; have e5 := (hfr).e5; have e6 := (hfr).e6; have e27 := (hfr).e27; have e28 := (hfr).e28; have e29 := (hfr).e29
    rw [hf] at e0 e4 e5 e6 e27 e28 e29
    rw [e0, e4, e5, e6, e27, e28, e29] at ht
    subst ht
    clear hf e0 e4 e5 e6 e27 e28 e29
    have HR := Lib.hid hR; have HS := Lib.hid hS; have HK := Lib.hid hk
    clear hR hS hk
    intro J K0 hJ hK0
    by_cases hil : i < l.length
    · have hil' : (i : Int) < (l.length : Int) := by omega
      have hi0 : (0 : Int) ≤ (i : Int) := by omega
      have hvs := HVS.out
      subst hvs
      cases A with
      | none => have := HL.out.nil rfl; subst this; simp at hil
      | some a =>
        have hbel : Below W.heap.size W wr := by first | exact T.below | (rw [hgs]; exact T.below)
        have hld := HL.out.load (P := Try.prog) (T := 59) TRStep_size (by first | exact TRStep_und | exact Try.underlying59) rfl (by kernel_rfl) hbel rfl hil
        generalize l[i] = s at *
        have T0 := T.ord [3, 0, 1, 2, 4]
        obtain ⟨⟨vi, vc, vd⟩, T1⟩ := Sts.docOpen T0
        have T2 : Sts W (fun _ => False) wr (rowR g (docC vi vc vd) :: vecR 35 2 vi items.length (vl IV items) :: vecR 47 14 vc calls.length (vl CV calls) :: vecR 35 2 vd D.length (vl IV D) :: rowR g4 #[.bool false] :: rowR gm #[.pointer (some ⟨g, 0, none⟩)] :: runR ra m q D O :: marksR Ds :: []) := T1
        have T3 := T2.new (RSV s) 59
        have HT := Lib.hid (T3.ord [1, 2, 3, 4, 0, 6, 7, 5, 8])
        clear T T1 T2 T3 hbel
        go_upto_region 9 with fail
        generalize wr.alloc _ = w5 at *
        generalize wr.heap.size = gx at *
        clear hld
        have hk25 := HR.out.bld.lei
        have hi25 : i < 25 := by omega
        obtain ⟨can, hcan⟩ : ∃ v, v = canC m s.item s.call := ⟨_, rfl⟩
        have hcc := HR.out.bld.can s.item s.call
        rw [← hcan] at hcc
        have HCC := Lib.hid hcc; have HCAN := Lib.hid hcan
        clear hcc hcan
        go_cut [9] from 33 to 49 (fun u9 wx => u9 = .bool can ∧ Sts W (fun _ => False) wx (rowR g (docC vi vc vd) :: vecR 35 2 vi items.length (vl IV items) :: vecR 47 14 vc calls.length (vl CV calls) :: vecR 35 2 vd D.length (vl IV D) :: rowR gx (RSV s) :: rowR gm #[.pointer (some ⟨g, 0, none⟩)] :: runR ra m q D O :: rowR g4 #[.bool false] :: marksR Ds :: []))
        case first =>
          -- SA{
          have hr := (HT.out.ord [4, 0, 1, 2, 3]).row; have hlt := row_lt hr
          have HGI := Lib.hid (ritemGood_any s.item n)
          have HGD := Lib.hid (rgood_any s.call.deps 7)
          have HAT := Lib.hid (docAtR g vi vc vd items calls D (by omega) s.item)
          obtain ⟨b1, hb1⟩ : ∃ v, v = goodI s.item n := ⟨_, rfl⟩
          obtain ⟨b2, hb2⟩ : ∃ v, v = goodD s.call.deps 7 := ⟨_, rfl⟩
          obtain ⟨ai, hai⟩ : ∃ v, v = idxI s.item items := ⟨_, rfl⟩
          rw [← hb1] at HGI
          rw [← hb2] at HGD
          rw [← hai] at HAT
          have hcc := HCC.out
          rw [← hb1, ← hb2, ← hai] at hcc
          have HCC2 := Lib.hid hcc
          clear hb1 hb2 hai hcc
          cases b1 with
          | false =>
            have hc : can = false := by rw [HCC2.out]; rfl
            have HC := Lib.hid hc; clear hc
            go_wp2_with fail
            refine (Ans.at HGI.out HT.out).mono ?_
            clear HGI hr hlt HT
            rintro e4 w6 ⟨rfl, T⟩
            have HT := Lib.hid T; clear T
            go_wp2
            go_meet
            case rel => exact ⟨by rw [HC.out], HT.out⟩
          | true =>
            go_wp2_with fail
            refine (Ans.at HGI.out HT.out).mono ?_
            clear HGI hr hlt HT
            rintro e4 w6 ⟨rfl, T⟩
            have hr := (T.ord [4, 0, 1, 2, 3]).row; have hlt := row_lt hr
            have HT := Lib.hid T; clear T
            go_wp2_with fail
            rw [show piece (RSV s) 8 7 = DV s.call.deps from rfl]
            refine (Ans.at HGD.out HT.out).mono ?_
            clear HGD hr hlt HT
            rintro e5 w7 ⟨rfl, T⟩
            have hr := (T.ord [4, 0, 1, 2, 3]).row; have hlt := row_lt hr
            have rm := (T.ord [5, 0, 1, 2, 3, 4]).row; have lm := row_lt rm; have cm := row_cell rm 0
            have HT := Lib.hid T; clear T
            cases b2 with
            | false =>
              have hc : can = false := by rw [HCC2.out]; rfl
              have HC := Lib.hid hc; clear hc
              go_wp2
              go_meet
              case rel => exact ⟨by rw [HC.out], HT.out⟩
            | true =>
              have hc : can = decide (ai < 0) := by rw [HCC2.out]; rfl
              have HC := Lib.hid hc; clear hc
              go_wp2_with fail
              refine (HAT.out.at (R := rowR gx (RSV s) :: _) HT.out).mono ?_
              clear HAT hr hlt rm lm cm
              rintro e6 w8 ⟨rfl, hb⟩
              have HT2 := Lib.hid (HT.out.pure hb)
              clear HT hb
              go_wp2
              go_meet
              case rel => exact ⟨by rw [HC.out], HT2.out⟩
          -- }SA
        case rest =>
          obtain ⟨rfl, T⟩ := hcut
          clear HT HCC
          have hmb : 0 ≤ m.n ∧ m.n ≤ 7 := by rw [HR.out.bld.mn]; rcases hHN.out with h | h | h <;> omega
          have hOl := HR.out.olen
          have T2 := T.ord [6, 0, 1, 2, 3, 4, 5]
          have hr := (T2.ord [5, 0, 1, 2, 3, 4]).row; have hlt := row_lt hr
          have HC1 := Lib.hid (runCommitT hmb (by omega) s.item s.call T2)
          rw [← HCAN.out] at HC1
          obtain ⟨items2, calls2, hR2, hy1, hy2⟩ := HR.out.commit s.item s.call
          have hS2 : Srt mZ (nextP m O s.item s.call) := by
            unfold nextP
            split
            · refine sortO_srt ?_
              have h1 := hR2.ond
              unfold nextP at h1
              rename_i hc
              rw [if_pos hc] at h1
              exact (sortO_perm _).nodup_iff.1 h1
            · exact HS.out
          have HR2 := Lib.hid hR2; have HY1 := Lib.hid hy1; have HY2 := Lib.hid hy2; have HS2 := Lib.hid hS2
          clear T T2 hmb hR2 hy1 hy2 hS2
          go_wp2_with fail
          refine HC1.out.mono ?_
          clear HC1 hr hlt
          rintro e7 w7 ⟨rfl, T⟩
          have T2 : Sts W (fun _ => False) w7 (runR ra (comC m s.item s.call) q D (nextP m O s.item s.call) :: rowR g (docC vi vc vd) :: vecR 35 2 vi items.length (vl IV items) :: vecR 47 14 vc calls.length (vl CV calls) :: vecR 35 2 vd D.length (vl IV D) :: rowR gx (RSV s) :: rowR gm #[.pointer (some ⟨g, 0, none⟩)] :: rowR g4 #[.bool false] :: marksR Ds :: []) := by
            unfold nextP; rw [← HCAN.out]; exact T
          obtain ⟨O2, hO2⟩ : ∃ v, v = nextP m O s.item s.call := ⟨_, rfl⟩
          obtain ⟨m2, hm2⟩ : ∃ v, v = comC m s.item s.call := ⟨_, rfl⟩
          have hR3 := HR2.out
          have hS3 := HS2.out
          rw [← hO2] at T2 hR3 hS3
          rw [← hm2] at T2 hR3
          have HR3 := Lib.hid hR3; have HS3 := Lib.hid hS3
          have HT := Lib.hid (T2.ord [1, 5, 6, 2, 3, 4, 0, 7, 8])
          clear T T2 hO2 hm2 hR3 hS3 HR2 HS2
          have hclen : calls.length ≤ 25 := by rw [HR.out.bld.len]; omega
          go_upto_if 58 with fail
          go_cut [] from 59 to 80 (fun wx => Sts W (fun _ => False) wx (docR g items2 calls2 D :: rowR gx (RSV s) :: rowR gm #[.pointer (some ⟨g, 0, none⟩)] :: runR ra m2 q D O2 :: rowR g4 #[.bool false] :: marksR Ds :: []))
          case first =>
            -- SB{
            have HT2 := HT; clear HT
            cases can with
            | true =>
              obtain ⟨he1, he2⟩ := HY1.out HCAN.out.symm
              subst he1 he2
              go_wp2_with fail
              have FS : ∀ W' X R', Sts W (fun _ => False) W' (rowR g X :: rowR gx (RSV s) :: rowR gm #[.pointer (some ⟨g, 0, none⟩)] :: R') → X[0]? = some vi → (W'.cell? ⟨g, 0, none⟩ = some vi ∧ row? W' gx = some (RSV s) ∧ W'.cell? ⟨gm, 0, none⟩ = some (.pointer (some ⟨g, 0, none⟩))) := fun W' X R' T h1 => ⟨by rw [row_cell T.row 0, h1], T.row1, by rw [row_cell T.row2 0]; rfl⟩
              have HFS := Lib.hid FS
              have HT0 := Lib.hid HT2.out.drew
              have S0 := HFS.out _ _ _ HT0.out rfl
              have HM := Lib.hid (show ∀ W' : World, (W'.cell? ⟨g, 0, none⟩ = some vi ∧ row? W' gx = some (RSV s) ∧ W'.cell? ⟨gm, 0, none⟩ = some (.pointer (some ⟨g, 0, none⟩))) → True from fun _ _ => trivial)
              clear HT2 FS
              go_upto_region 13 with fail
              refine wp_region_noPanic ?_
              refine wp_region_stage (fun W' => (W'.cell? ⟨g, 0, none⟩ = some vi ∧ row? W' gx = some (RSV s) ∧ W'.cell? ⟨gm, 0, none⟩ = some (.pointer (some ⟨g, 0, none⟩)))) (fun _ => True) 11 (by kernel_rfl) S0 (fun hHeld => ?_)
              clear S0
              refine tk0 0 rfl ?_
              simp only [Act.put, List.setIfInBounds_toArray, List.set_cons_zero, List.set_cons_succ]
              refine tk0 1 rfl ?_
              go_frame
              refine tk0 2 rfl ?_
              go_frame
              refine tk0 3 rfl ?_
              go_frame
              refine tk0 4 rfl ?_
              go_frame
              refine tk0 5 rfl ?_
              go_frame
              refine tk0 6 rfl ?_
              go_frame
              generalize hw7 : World.drew _ = w7 at *
              clear hw7
              refine wpAnyL_ready (rs := [7]) (by kernel_rfl) (by simp) ?_
              refine AllReadyL.cons0 (o := _) rfl (by kernel_rfl) (fun K hK => ?_) AllReadyL.nil
              have Ta := HT0.out.new (IV s.item) 35
              have HTa := Lib.hid Ta; clear Ta HT0
              go_simp
              refine hK.out _ _ ?_ (fun hHeld => ?_)
              · exact HFS.out _ _ _ HTa.out.drop rfl
              clear hK K
              refine wpAnyL_ready (rs := [8]) (by kernel_rfl) (by simp) ?_
              refine AllReadyL.cons0 (o := _) rfl (by kernel_rfl) (fun K hK => ?_) AllReadyL.nil
              have Tb := HTa.out.ord [4, 0, 1, 2, 3]
              clear HTa
              obtain ⟨i0, hi0', hz0, hz1, hz2⟩ := itm_i
              have HOK := Lib.hid (itm_one s.item)
              refine step_append_vec (by rfl) _ _ _ (by rfl) 35 i0 _ 2 16 Try.underlying30 hi0' hz0 hz1 hz2 rfl (by omega) vi items.length (vl IV items) (by rfl) Tb ⟨w7.heap.size, 0, none⟩ 1 1 (IV s.item).toList (by rfl) (by rfl) (news_row Tb.row1) HOK.out (by omega) (by unfold maxLen; omega) (by omega) ?_
              intro gv' cap1 w12 T1
              have T1 := (T1.ord [2, 3, 4, 0, 1])
              refine hK.out _ _ ?_ (fun hHeld => ?_)
              · exact HFS.out _ _ _ T1 rfl
              clear hK K Tb HOK
              refine tk1 9 HM.out rfl ?_
              simp only [Act.put, List.getElem_toArray, List.getElem_cons_succ, List.getElem_cons_zero, List.setIfInBounds_toArray, List.set_cons_zero, List.set_cons_succ]
              refine tk0 10 rfl ?_
              simp only [Act.put, List.setIfInBounds_toArray, List.set_cons_zero, List.set_cons_succ]
              have hf := row_frozen T1.row 0
              have T2 := T1.setCell 0 (.slice (some ⟨gv', 0, none⟩) (items.length + 1) cap1)
              have HT2 := Lib.hid T2; clear T1 T2
              refine wpAnyL_ready (rs := [11]) (by kernel_rfl) (by simp) ?_
              refine AllReadyL.cons1 (o := _) rfl (by kernel_rfl) (fun K hK => ?_) AllReadyL.nil
              go_simp
              refine hK.out _ _ trivial (fun hHeld => ?_)
              clear hK K hf HFS HM hi0' hz0 hz1 hz2
              refine wpAnyL_done (by kernel_rfl) ?_ _
              refine NoPanic.normal ?_
              try simp only [Exit.then]
              generalize w12.setCell _ _ = w13 at *
              have T3 : Sts W (fun _ => False) w13 (rowR g (docC (.slice (some ⟨gv', 0, none⟩) (items.length + 1) cap1) vc vd) :: rowR gx (RSV s) :: rowR gm #[.pointer (some ⟨g, 0, none⟩)] :: vecR 35 2 (.slice (some ⟨gv', 0, none⟩) (items.length + 1) cap1) (items.length + 1) (vl IV items ++ (IV s.item).toList) :: rowR w7.heap.size (IV s.item) :: vecR 47 14 vc calls.length (vl CV calls) :: vecR 35 2 vd D.length (vl IV D) :: runR ra m2 q D O2 :: rowR g4 #[.bool false] :: marksR Ds :: []) := HT2.out
              rw [show items.length + 1 = (items ++ [s.item]).length by simp, show vl IV items ++ (IV s.item).toList = vl IV (items ++ [s.item]) from (vl_snoc IV items s.item).symm] at T3
              have T4 := (T3.ord [4, 0, 1, 2, 3]).drop
              have HT := Lib.hid T4; clear HT2 T3 T4
              generalize hvi : Value.slice (some ⟨gv', 0, none⟩) (items ++ [s.item]).length cap1 = vi2 at *
              clear hvi
              have HT2 := Lib.hid (HT.out.ord [0, 1, 2, 4, 3]); clear HT
              have FS : ∀ W' X R', Sts W (fun _ => False) W' (rowR g X :: rowR gx (RSV s) :: rowR gm #[.pointer (some ⟨g, 0, none⟩)] :: R') → X[1]? = some vc → (W'.cell? ⟨g, 1, none⟩ = some vc ∧ row? W' gx = some (RSV s) ∧ W'.cell? ⟨gm, 0, none⟩ = some (.pointer (some ⟨g, 0, none⟩))) := fun W' X R' T h1 => ⟨by rw [row_cell T.row 1, h1], T.row1, by rw [row_cell T.row2 0]; rfl⟩
              have HFS := Lib.hid FS
              have HT0 := Lib.hid HT2.out.drew
              have S0 := HFS.out _ _ _ HT0.out rfl
              have HM := Lib.hid (show ∀ W' : World, (W'.cell? ⟨g, 1, none⟩ = some vc ∧ row? W' gx = some (RSV s) ∧ W'.cell? ⟨gm, 0, none⟩ = some (.pointer (some ⟨g, 0, none⟩))) → True from fun _ _ => trivial)
              clear HT2 FS
              go_upto_region 14 with fail
              refine wp_region_noPanic ?_
              refine wp_region_stage (fun W' => (W'.cell? ⟨g, 1, none⟩ = some vc ∧ row? W' gx = some (RSV s) ∧ W'.cell? ⟨gm, 0, none⟩ = some (.pointer (some ⟨g, 0, none⟩)))) (fun _ => True) 11 (by kernel_rfl) S0 (fun hHeld => ?_)
              clear S0
              refine tk0 0 rfl ?_
              simp only [Act.put, List.setIfInBounds_toArray, List.set_cons_zero, List.set_cons_succ]
              refine tk0 1 rfl ?_
              go_frame
              refine tk0 2 rfl ?_
              go_frame
              refine tk0 3 rfl ?_
              go_frame
              refine tk0 4 rfl ?_
              go_frame
              refine tk0 5 rfl ?_
              go_frame
              refine tk0 6 rfl ?_
              go_frame
              generalize hw7 : World.drew _ = w7 at *
              clear hw7
              refine wpAnyL_ready (rs := [7]) (by kernel_rfl) (by simp) ?_
              refine AllReadyL.cons0 (o := _) rfl (by kernel_rfl) (fun K hK => ?_) AllReadyL.nil
              have Ta := HT0.out.new (CV s.call) 47
              have HTa := Lib.hid Ta; clear Ta HT0
              go_simp
              refine hK.out _ _ ?_ (fun hHeld => ?_)
              · exact HFS.out _ _ _ HTa.out.drop rfl
              clear hK K
              refine wpAnyL_ready (rs := [8]) (by kernel_rfl) (by simp) ?_
              refine AllReadyL.cons0 (o := _) rfl (by kernel_rfl) (fun K hK => ?_) AllReadyL.nil
              have Tb := HTa.out.ord [4, 0, 1, 2, 3]
              clear HTa
              obtain ⟨i0, hi0', hz0, hz1, hz2⟩ := cll_i
              have HOK := Lib.hid (cll_one s.call)
              refine step_append_vec (by rfl) _ _ _ (by rfl) 47 i0 _ 14 128 Try.underlying31 hi0' hz0 hz1 hz2 rfl (by omega) vc calls.length (vl CV calls) (by rfl) Tb ⟨w7.heap.size, 0, none⟩ 1 1 (CV s.call).toList (by rfl) (by rfl) (news_row Tb.row1) HOK.out (by omega) (by unfold maxLen; omega) (by omega) ?_
              intro gv' cap1 w12 T1
              have T1 := (T1.ord [2, 3, 4, 0, 1])
              refine hK.out _ _ ?_ (fun hHeld => ?_)
              · exact HFS.out _ _ _ T1 rfl
              clear hK K Tb HOK
              refine tk1 9 HM.out rfl ?_
              simp only [Act.put, List.getElem_toArray, List.getElem_cons_succ, List.getElem_cons_zero, List.setIfInBounds_toArray, List.set_cons_zero, List.set_cons_succ]
              refine tk0 10 rfl ?_
              simp only [Act.put, List.setIfInBounds_toArray, List.set_cons_zero, List.set_cons_succ]
              have hf := row_frozen T1.row 1
              have T2 := T1.setCell 1 (.slice (some ⟨gv', 0, none⟩) (calls.length + 1) cap1)
              have HT2 := Lib.hid T2; clear T1 T2
              refine wpAnyL_ready (rs := [11]) (by kernel_rfl) (by simp) ?_
              refine AllReadyL.cons1 (o := _) rfl (by kernel_rfl) (fun K hK => ?_) AllReadyL.nil
              go_simp
              refine hK.out _ _ trivial (fun hHeld => ?_)
              clear hK K hf HFS HM hi0' hz0 hz1 hz2
              refine wpAnyL_done (by kernel_rfl) ?_ _
              refine NoPanic.normal ?_
              try simp only [Exit.then]
              generalize w12.setCell _ _ = w13 at *
              have T3 : Sts W (fun _ => False) w13 (rowR g (docC vi2 (.slice (some ⟨gv', 0, none⟩) (calls.length + 1) cap1) vd) :: rowR gx (RSV s) :: rowR gm #[.pointer (some ⟨g, 0, none⟩)] :: vecR 47 14 (.slice (some ⟨gv', 0, none⟩) (calls.length + 1) cap1) (calls.length + 1) (vl CV calls ++ (CV s.call).toList) :: rowR w7.heap.size (CV s.call) :: vecR 35 2 vi2 (items ++ [s.item]).length (vl IV (items ++ [s.item])) :: vecR 35 2 vd D.length (vl IV D) :: runR ra m2 q D O2 :: rowR g4 #[.bool false] :: marksR Ds :: []) := HT2.out
              rw [show calls.length + 1 = (calls ++ [s.call]).length by simp, show vl CV calls ++ (CV s.call).toList = vl CV (calls ++ [s.call]) from (vl_snoc CV calls s.call).symm] at T3
              have T4 := (T3.ord [4, 0, 1, 2, 3]).drop
              have HT := Lib.hid T4; clear HT2 T3 T4
              have T9 := HT.out.ord [0, 4, 3, 5, 1, 2]
              have HT2 := Lib.hid (Sts.docShut T9); clear HT T9
              go_wp2
              go_meet
              case rel => exact HT2.out
            | false =>
              obtain ⟨he1, he2⟩ := HY2.out HCAN.out.symm
              subst he1 he2
              have T9 := HT2.out.ord [0, 3, 4, 5, 1, 2]
              have HT3 := Lib.hid (Sts.docShut T9); clear HT2 T9
              go_wp2
              go_meet
              case rel => exact HT3.out
            -- }SB
          case rest =>
            clear HT HCAN HY1 HY2 HR HS
            have HT := Lib.hid hcut
            clear hcut
            have hk25 := HR3.out.bld.lei
            have hr := (HT.out.ord [1, 0]).row; have hlt := row_lt hr
            have ck := row_cell hr 16
            rw [show (RSV s)[16]? = some (.bool s.goes) from rfl] at ck
            obtain ⟨go, hgo⟩ : ∃ v, v = s.goes := ⟨_, rfl⟩
            rw [← hgo] at ck
            clear hgo
            go_upto_if 82 with fail
            refine wp_cut (DoeM n (.slice (some a) l.length c) l.length ra g4 gm g gx i s m2 items2 calls2 W) ?_ ?_
            · intro a2 w8 hcut
              obtain ⟨Ds2, q2, D2, O3, hfr, e8, hds, hR, hS, T⟩ := hcut
              -- SE{
              clear HT HR3 HS3 hr hlt ck
              obtain ⟨t2, ds2⟩ := a2
              dsimp only at hfr hds e8
              subst hds
              obtain ⟨f2, hf, ht⟩ := fr_open _ hfr.s
              have e0 := hfr.e0; have e4 := hfr.e4; have e5 := hfr.e5; have e6 := hfr.e6; have e27 := hfr.e27; have e28 := hfr.e28; have e29 := hfr.e29
              rw [hf] at e0 e4 e5 e6 e8 e27 e28 e29
              rw [e0, e4, e5, e6, e8, e27, e28, e29] at ht
              subst ht
              clear hf e0 e4 e5 e6 e8 e27 e28 e29 hfr
              have HR := Lib.hid hR; have HS := Lib.hid hS
              have hn7 : n ≤ 7 := by rcases hHN.out with h | h | h <;> omega
              have hki := hR.bld.lei
              have hOl := hR.olen
              have hDl := hR.dlen
              have hcl := hR.bld.len
              have hmb : 0 ≤ m2.n ∧ m2.n ≤ 7 := by rw [hR.bld.mn]; rcases hHN.out with h | h | h <;> omega
              have hqb : 0 ≤ q2.n ∧ q2.n ≤ 7 := by rw [hR.bld.qn]; rcases hHN.out with h | h | h <;> omega
              have hG := hR.bld.inv hn7
              have hDK : DocOk m2 q2 items2 calls2 D2 := hR.doc (by omega)
              obtain ⟨⟨vi, vc, vd⟩, T1⟩ := Sts.docOpen T
              have T2 : Sts W (fun _ => False) w8 (rowR g (docC vi vc vd) :: vecR 35 2 vi items2.length (vl IV items2) :: vecR 47 14 vc calls2.length (vl CV calls2) :: vecR 35 2 vd D2.length (vl IV D2) :: rowR gx (RSV s) :: rowR gm #[.pointer (some ⟨g, 0, none⟩)] :: runR ra m2 q2 D2 O3 :: rowR g4 #[.bool false] :: marksR Ds2 :: []) := T1
              obtain ⟨Ai, ci, rfl⟩ := vec_shape2 (T2.ord [1, 0])
              obtain ⟨Ad, cd, rfl⟩ := vec_shape2 (T2.ord [3, 0, 1, 2])
              have rm := (T2.ord [5, 0, 1, 2, 3, 4]).row; have lm := row_lt rm; have cm := row_cell rm 0
              have HM := Lib.hid (docMisT hG g _ vc _ items2 calls2 D2 hDK (by omega) T2)
              have HG := Lib.hid hG; have HDK := Lib.hid hDK
              clear T T1 T2 hR hS hG hDK
              go_wp2_with fail
              refine HM.out.mono ?_
              clear HM rm lm cm
              rintro e9 w9 ⟨vp, p, rfl, hMD, T⟩
              have HMD := Lib.hid hMD; clear hMD
              have T2 : Sts W (fun _ => False) w9 (vecR 35 2 vp p.length (vl IV p) :: rowR g (docC (.slice Ai items2.length ci) vc (.slice Ad D2.length cd)) :: vecR 35 2 (.slice Ai items2.length ci) items2.length (vl IV items2) :: vecR 47 14 vc calls2.length (vl CV calls2) :: vecR 35 2 (.slice Ad D2.length cd) D2.length (vl IV D2) :: rowR gx (RSV s) :: rowR gm #[.pointer (some ⟨g, 0, none⟩)] :: runR ra m2 q2 D2 O3 :: rowR g4 #[.bool false] :: marksR Ds2 :: []) := T
              -- [g, gx, gm, run, done, vp, items, calls, g4, marks]
              have HT := Lib.hid (T2.ord [1, 5, 6, 7, 4, 0, 2, 3])
              clear T T2
              have FS : ∀ W' R', Sts W (fun _ => False) W' (rowR g (docC (.slice Ai items2.length ci) vc (.slice Ad D2.length cd)) :: rowR gx (RSV s) :: rowR gm #[.pointer (some ⟨g, 0, none⟩)] :: R') → (W'.cell? ⟨gm, 0, none⟩ = some (.pointer (some ⟨g, 0, none⟩)) ∧ row? W' gx = some (RSV s) ∧ W'.cell? ⟨g, 2, none⟩ = some (.slice Ad D2.length cd) ∧ W'.cell? ⟨g, 0, none⟩ = some (.slice Ai items2.length ci)) := fun W' R' T => ⟨by rw [row_cell T.row2 0]; rfl, T.row1, by rw [row_cell T.row 2]; rfl, by rw [row_cell T.row 0]; rfl⟩
              have HFS := Lib.hid FS; clear FS
              go_upto_region 27 with fail
              go_cut [183] from 129 to 182 (fun u183 wx => u183 = .bool false ∧ Sts W (fun _ => False) wx (rowR g (docC (.slice Ai items2.length ci) vc (.slice Ad D2.length cd)) :: rowR gx (RSV s) :: rowR gm #[.pointer (some ⟨g, 0, none⟩)] :: runR ra m2 q2 D2 O3 :: vecR 35 2 (.slice Ad D2.length cd) D2.length (vl IV D2) :: vecR 35 2 (.slice Ai items2.length ci) items2.length (vl IV items2) :: vecR 47 14 vc calls2.length (vl CV calls2) :: rowR g4 #[.bool false] :: marksR Ds2 :: []))
              case first =>
                -- SF{
                have HT0 := Lib.hid HT.out.drew
                have S0 := HFS.out _ _ HT0.out
                clear HT
                refine wp_region_noPanic ?_
                refine wp_region_held_drew (S := fun W' => (W'.cell? ⟨gm, 0, none⟩ = some (.pointer (some ⟨g, 0, none⟩)) ∧ row? W' gx = some (RSV s) ∧ W'.cell? ⟨g, 2, none⟩ = some (.slice Ad D2.length cd) ∧ W'.cell? ⟨g, 0, none⟩ = some (.slice Ai items2.length ci))) (by kernel_rfl) S0 (fun hHeld => ?_)
                clear S0
                refine tkH 0 rfl ?_
                simp only [Act.put, List.setIfInBounds_toArray, List.set_cons_zero, List.set_cons_succ]
                refine tkH 2 rfl ?_
                go_frame
                refine tkH 3 rfl ?_
                go_frame
                refine tkH 4 rfl ?_
                go_frame
                refine tkH 5 rfl ?_
                go_frame
                refine wpAnyH_ready (rs := [1]) (by kernel_rfl) (by simp) ?_
                refine AllReadyH.cons (o := _) rfl (fun K hK => ?_) AllReadyH.nil
                go_simp
                refine (runDoneT (D := D2) (by omega) (by have T0 := HT0.out.ord [3, 0, 1, 2]; exact T0)).mono ?_
                rintro e10 w10 ⟨v1, rfl, T⟩
                have HT1 := Lib.hid (T.ord [2, 3, 4, 1, 0])
                clear T HT0
                -- [g, gx, gm, run, v1, done, vp, items, calls, g4, marks]
                refine hK.out _ _ (HFS.out _ _ (HT1).out) (fun hHeld => ?_)
                clear hK K
                refine wpAnyH_ready (rs := [6]) (by kernel_rfl) (by simp) ?_
                refine AllReadyH.cons (o := _) rfl (fun K hK => ?_) AllReadyH.nil
                go_simp
                refine (rowSameT (l := D2) (by omega) (by have T0 := HT1.out.ord [4, 5, 0, 1, 2, 3]; exact T0)).mono ?_
                rintro e11 w11 ⟨rfl, T⟩
                have HT := Lib.hid (T.ord [2, 3, 4, 5, 1, 0])
                clear T HT1
                -- [g, gx, gm, run, done, v1, vp, items, calls, g4, marks]
                refine hK.out _ _ (HFS.out _ _ (HT).out) (fun hHeld => ?_)
                clear hK K
                refine tkH 7 rfl ?_
                simp only [Act.put, List.setIfInBounds_toArray, List.set_cons_zero, List.set_cons_succ]
                refine tkH 8 rfl ?_
                go_frame
                refine tkH 9 rfl ?_
                go_frame
                refine tkH 11 rfl ?_
                go_frame
                have hOC : ∀ y ∈ O3, (getMK m2 y).isSome = true ∧ (getML q2 y).isSome = false := fun y hy => by
                  obtain ⟨h1, h2⟩ := (HR.out.opn y).1 hy
                  refine ⟨(HR.out.bld.is y).2 h1, ?_⟩
                  cases hc : (getML q2 y).isSome with
                  | false => rfl
                  | true => exact absurd ((HR.out.bld.over y).1 hc) h2
                refine wpAnyH_ready (rs := [10]) (by kernel_rfl) (by simp) ?_
                refine AllReadyH.cons (o := _) rfl (fun K hK => ?_) AllReadyH.nil
                go_simp
                refine (runMissT (its := items2) hmb hqb HG.out (by omega) (by omega) hOC (by have T0 := HT.out.ord [3, 0, 1, 2]; exact T0)).mono ?_
                clear hOC
                rintro e12 w12 ⟨v2, L, rfl, hMI, T⟩
                have hsm : sortO L = p := mis_same hMI HMD.out fun y => by
                  rw [HR.out.opn y]
                  constructor
                  · rintro ⟨h1, h2⟩
                    refine ⟨h1, ?_⟩
                    cases hc : (getML q2 y).isSome with
                    | false => rfl
                    | true => exact absurd ((HR.out.bld.over y).1 hc) h2
                  · rintro ⟨h1, h2⟩
                    exact ⟨h1, fun hc => by rw [(HR.out.bld.over y).2 hc] at h2; cases h2⟩
                have hp448 : p.length ≤ 1000 := by rw [← hsm, sortO_length]; have := hMI.len; omega
                rw [hsm] at T
                have HT1 := Lib.hid (T.ord [2, 3, 4, 1, 5, 0, 7, 6])
                clear T HT hMI hsm HMD
                -- [g, gx, gm, run, done, v2, vp, v1, items, calls, g4, marks]
                refine hK.out _ _ (HFS.out _ _ (HT1).out) (fun hHeld => ?_)
                clear hK K
                refine wpAnyH_ready (rs := [12]) (by kernel_rfl) (by simp) ?_
                refine AllReadyH.cons (o := _) rfl (fun K hK => ?_) AllReadyH.nil
                go_simp
                refine (rowSameT (l := p) (by omega) (by have T0 := HT1.out.ord [5, 6, 0, 1, 2, 3, 4]; exact T0)).mono ?_
                rintro e13 w13 ⟨rfl, T⟩
                have T2 := (T.ord [0, 1, 7, 2, 3, 4, 5, 6]).drop.drop.drop
                have HT := Lib.hid T2
                clear T T2 HT1 hp448
                -- [g, gx, gm, run, done, items, calls, g4, marks]
                refine hK.out _ _ (HFS.out _ _ (HT).out) (fun hHeld => ?_)
                clear hK K
                refine tkH 13 rfl ?_
                simp only [Act.put, List.setIfInBounds_toArray, List.set_cons_zero, List.set_cons_succ]
                refine tkH 14 rfl ?_
                go_frame
                refine tkH 15 rfl ?_
                go_frame
                refine tkH 16 rfl ?_
                go_frame
                refine tkH 19 rfl ?_
                go_frame
                refine tkH 20 rfl ?_
                go_frame
                refine tkH 21 rfl ?_
                go_frame
                refine tkH 22 rfl ?_
                go_frame
                refine tkH 23 rfl ?_
                go_frame
                refine tkH 25 rfl ?_
                go_frame
                refine tkH 26 rfl ?_
                go_frame
                refine tkH 27 rfl ?_
                go_frame
                refine tkH 28 rfl ?_
                go_frame
                refine tkH 29 rfl ?_
                go_frame
                refine wpAnyH_ready (rs := [17]) (by kernel_rfl) (by simp) ?_
                refine AllReadyH.cons (o := _) rfl (fun K hK => ?_) AllReadyH.nil
                go_simp
                refine (runOpenT (O := O3) (by omega) (by have T0 := HT.out.ord [3, 0, 1, 2]; exact T0)).mono ?_
                rintro e14 w14 ⟨v3, rfl, T⟩
                obtain ⟨A3, c3, rfl⟩ := vec_shape2 T
                have T2 := (T.ord [0, 2, 3, 4, 1]).drop
                have HT1 := Lib.hid T2
                clear T T2 HT
                refine hK.out _ _ (HFS.out _ _ (HT1).out) (fun hHeld => ?_)
                clear hK K
                have hsum : IntKind.i64.wrap ((O3.length : Int) + (D2.length : Int)) = (items2.length : Int) := by
                  have h1 := HR.out.lens
                  rw [IntKind.wrap_i64] <;> omega
                have HOA := Lib.hid (runOverT hqb s.item (by have T0 := HT1.out.ord [3, 0, 1, 2]; exact T0))
                have HOB := Lib.hid (docOverR g (.slice Ai items2.length ci) vc (.slice Ad D2.length cd) items2 calls2 D2 (by omega) s.item)
                rw [show decide (idxN s.item D2 < D2.length) = inB s.item D2 from rfl, ← HDK.out.ov s.item] at HOB
                have HAT := Lib.hid (docAtR g (.slice Ai items2.length ci) vc (.slice Ad D2.length cd) items2 calls2 D2 (by omega) s.item)
                obtain ⟨ov, hov⟩ : ∃ b, b = (getML q2 s.item).isSome := ⟨_, rfl⟩
                obtain ⟨ai, hai⟩ : ∃ b, b = idxI s.item items2 := ⟨_, rfl⟩
                have hcom := HDK.out.com s.item
                rw [← hov] at HOA HOB
                rw [← hai] at HAT hcom
                have HCOM := Lib.hid hcom
                clear hov hai hcom
                refine tkH 18 rfl ?_
                simp only [Act.put, List.setIfInBounds_toArray, List.set_cons_zero, List.set_cons_succ]
                refine tkH 24 rfl ?_
                go_frame
                refine tkH 30 rfl ?_
                go_frame
                refine tkH 31 rfl ?_
                go_frame
                refine tkH 32 rfl ?_
                go_frame
                refine tkH 33 rfl ?_
                go_frame
                refine tkH 34 rfl ?_
                go_frame
                refine tkH 35 rfl ?_
                go_frame
                refine tkH 37 rfl ?_
                go_frame
                refine tkH 38 rfl ?_
                go_frame
                refine tkH 39 rfl ?_
                go_frame
                refine wpAnyH_ready (rs := [36]) (by kernel_rfl) (by simp) ?_
                refine AllReadyH.cons (o := _) rfl (fun K hK => ?_) AllReadyH.nil
                go_simp
                refine HOA.out.mono ?_
                clear HOA
                rintro e15 w15 ⟨rfl, T⟩
                have HT := Lib.hid (T.ord [1, 2, 3, 0])
                clear T HT1
                refine hK.out _ _ (HFS.out _ _ (HT).out) (fun hHeld => ?_)
                clear hK K
                refine wpAnyH_ready (rs := [40]) (by kernel_rfl) (by simp) ?_
                refine AllReadyH.cons (o := _) rfl (fun K hK => ?_) AllReadyH.nil
                go_simp
                refine (HOB.out.at (R := rowR gx (RSV s) :: _) (by have T0 := HT.out.ord [0, 5, 6, 4, 1, 2, 3]; exact T0)).mono ?_
                clear HOB
                rintro e16 w16 ⟨rfl, hb⟩
                have HT1 := Lib.hid (HT.out.pure hb)
                clear hb HT
                refine hK.out _ _ (HFS.out _ _ (HT1).out) (fun hHeld => ?_)
                clear hK K
                have HIS := Lib.hid (runIsT hmb s.item (by have T0 := HT1.out.ord [3, 0, 1, 2]; exact T0))
                rw [HCOM.out] at HIS
                refine tkH 41 rfl ?_
                simp only [Act.put, List.setIfInBounds_toArray, List.set_cons_zero, List.set_cons_succ]
                refine tkH 42 rfl ?_
                go_frame
                refine tkH 43 rfl ?_
                go_frame
                refine tkH 44 rfl ?_
                go_frame
                refine tkH 45 rfl ?_
                go_frame
                refine tkH 46 rfl ?_
                go_frame
                refine tkH 48 rfl ?_
                go_frame
                refine tkH 49 rfl ?_
                go_frame
                refine tkH 50 rfl ?_
                go_frame
                refine wpAnyH_ready (rs := [47]) (by kernel_rfl) (by simp) ?_
                refine AllReadyH.cons (o := _) rfl (fun K hK => ?_) AllReadyH.nil
                go_simp
                refine HIS.out.mono ?_
                clear HIS
                rintro e17 w17 ⟨rfl, T⟩
                have HT := Lib.hid (T.ord [1, 2, 3, 0])
                clear T HT1
                refine hK.out _ _ (HFS.out _ _ (HT).out) (fun hHeld => ?_)
                clear hK K
                refine wpAnyH_ready (rs := [51]) (by kernel_rfl) (by simp) ?_
                refine AllReadyH.cons (o := _) rfl (fun K hK => ?_) AllReadyH.nil
                go_simp
                refine (HAT.out.at (R := rowR gx (RSV s) :: _) (by have T0 := HT.out.ord [0, 5, 6, 4, 1, 2, 3]; exact T0)).mono ?_
                clear HAT
                rintro e18 w18 ⟨rfl, hb⟩
                have HT1 := Lib.hid (HT.out.pure hb)
                clear hb HT
                refine hK.out _ _ (HFS.out _ _ (HT1).out) (fun hHeld => ?_)
                clear hK K
                refine tkH 52 rfl ?_
                simp only [Act.put, List.setIfInBounds_toArray, List.set_cons_zero, List.set_cons_succ]
                refine tkH 53 rfl ?_
                go_frame
                refine tkH 54 rfl ?_
                go_frame
                refine wpAnyH_done (by kernel_rfl) ?_ _
                refine NoPanic.normal ?_
                simp only [Exit.then]
                go_step
                go_meet
                case rel => exact ⟨rfl, HT1.out⟩
                -- }SF
              case rest =>
                obtain ⟨rfl, T⟩ := hcut
                clear HT HMD
                have HT1 := Lib.hid T; clear T
                have HOP := Lib.hid (runOpenT (O := O3) (by omega) (by have T0 := HT1.out.ord [3, 0, 1, 2]; exact T0))
                clear HT1
                go_wp2_with fail
                refine HOP.out.mono ?_
                clear HOP
                rintro e19 w19 ⟨v4, rfl, T⟩
                obtain ⟨A4, c4, rfl⟩ := vec_shape2 T
                have HT := Lib.hid T; clear T
                obtain ⟨no, hno⟩ : ∃ k, k = O3.length := ⟨_, rfl⟩
                have HNO := Lib.hid hno
                rw [← hno] at HT hOl
                rw [← hno]
                clear hno
                go_wp2_with fail
                go_loopw [187] (fun u187 wx => ∃ j : Nat, u187 = .int .i64 j ∧ j ≤ no ∧ Sts W (fun _ => False) wx (vecR 35 2 (.slice A4 no c4) no (vl IV O3) :: runR ra m2 q2 D2 O3 :: rowR g (docC (.slice Ai items2.length ci) vc (.slice Ad D2.length cd)) :: rowR gx (RSV s) :: rowR gm #[.pointer (some ⟨g, 0, none⟩)] :: vecR 35 2 (.slice Ad D2.length cd) D2.length (vl IV D2) :: vecR 35 2 (.slice Ai items2.length ci) items2.length (vl IV items2) :: vecR 47 14 vc calls2.length (vl CV calls2) :: rowR g4 #[.bool false] :: marksR Ds2 :: [])) (fun u187 _ => no - (intOf u187).toNat)
                case atStart => exact ⟨0, rfl, Nat.zero_le _, HT.out⟩
                case round =>
                  clear HT
                  obtain ⟨j, rfl, hj, T⟩ := hrel
                  by_cases hjn : j < no
                  · have hjn1 : (j : Int) < (no : Int) := by omega
                    have hj0 : (0 : Int) ≤ (j : Int) := by omega
                    obtain ⟨y, hy⟩ : ∃ y, O3[j]? = some y := ⟨O3[j]'(by rw [← HNO.out]; exact hjn), List.getElem?_eq_getElem _⟩
                    obtain ⟨gv4, rfl, hld⟩ := vec_load (P := Try.prog) (e := 35) TItem_size (by omega) TItem_und rfl (by kernel_rfl) T HNO.out hy (by omega)
                    have hym := (HR.out.opn y).1 (List.mem_of_getElem? hy)
                    have hai : ∃ ay : Nat, idxI y items2 = (ay : Int) := by
                      unfold idxI
                      rw [if_pos (idxN_lt.2 hym.1)]
                      exact ⟨_, rfl⟩
                    obtain ⟨ay, hai⟩ := hai
                    have hov : decide (idxN y D2 < D2.length) = false := decide_eq_false fun hc => hym.2 (idxN_lt.1 hc)
                    have HAT := Lib.hid (docAtR g (.slice (Ai) items2.length ci) vc (.slice Ad D2.length cd) items2 calls2 D2 (by omega) y)
                    have HOB := Lib.hid (docOverR g (.slice Ai items2.length ci) vc (.slice Ad D2.length cd) items2 calls2 D2 (by omega) y)
                    rw [hai] at HAT
                    rw [hov] at HOB
                    have hayn : ¬ (ay : Int) < 0 := by omega
                    have T2 := (T.new (IV y) 35).ord [3, 5, 0, 2, 6, 7, 8, 1, 4]
                    -- [g, gm, gy, run, done, items, calls, v4, gx, g4, marks]
                    have HT := Lib.hid T2; have HY := Lib.hid hy
                    clear T T2 hym hai hov hy
                    go_upto_region 32 with fail
                    generalize wr.alloc _ = w20 at *
                    generalize wr.heap.size = gy at *
                    clear hld
                    have FS : ∀ W' R', Sts W (fun _ => False) W' (rowR g (docC (.slice Ai items2.length ci) vc (.slice Ad D2.length cd)) :: rowR gm #[.pointer (some ⟨g, 0, none⟩)] :: rowR gy (IV y) :: R') → (W'.cell? ⟨gm, 0, none⟩ = some (.pointer (some ⟨g, 0, none⟩)) ∧ row? W' gy = some (IV y)) := fun W' R' T => ⟨by rw [row_cell T.row1 0]; rfl, T.row2⟩
                    clear HFS
                    have HFS := Lib.hid FS; clear FS
                    have HT0 := Lib.hid HT.out.drew
                    have S0 := HFS.out _ _ HT0.out
                    clear HT
                    by_cases hj1 : j = 0
                    · have hj2 : ¬ (0 : Int) < (j : Int) := by omega
                      refine wp_region_noPanic ?_
                      refine wp_region_held_drew (S := fun W' => (W'.cell? ⟨gm, 0, none⟩ = some (.pointer (some ⟨g, 0, none⟩)) ∧ row? W' gy = some (IV y))) (by kernel_rfl) S0 (fun hHeld => ?_)
                      clear S0
                      refine tkH 0 rfl ?_
                      simp only [Act.put, List.setIfInBounds_toArray, List.set_cons_zero, List.set_cons_succ]
                      refine tkH 1 rfl ?_
                      go_frame
                      refine wpAnyH_ready (rs := [2]) (by kernel_rfl) (by simp) ?_
                      refine AllReadyH.cons (o := _) rfl (fun K hK => ?_) AllReadyH.nil
                      go_simp
                      refine (HAT.out.at (R := rowR gm #[.pointer (some ⟨g, 0, none⟩)] :: _) (by have T0 := HT0.out.ord [0, 5, 6, 4, 1, 2, 3]; exact T0)).mono ?_
                      clear HAT
                      rintro e20 w21 ⟨rfl, hb⟩
                      have HT1 := Lib.hid (HT0.out.pure hb)
                      clear hb HT0
                      refine hK.out _ _ (HFS.out _ _ (HT1).out) (fun hHeld => ?_)
                      clear hK K
                      refine tkH 3 rfl ?_
                      simp only [Act.put, List.setIfInBounds_toArray, List.set_cons_zero, List.set_cons_succ]
                      refine tkH 4 rfl ?_
                      go_frame
                      refine tkH 5 rfl ?_
                      go_frame
                      refine tkH 6 rfl ?_
                      go_frame
                      refine wpAnyH_ready (rs := [7]) (by kernel_rfl) (by simp) ?_
                      refine AllReadyH.cons (o := _) rfl (fun K hK => ?_) AllReadyH.nil
                      go_simp
                      refine (HOB.out.at (R := rowR gm #[.pointer (some ⟨g, 0, none⟩)] :: _) (by have T0 := HT1.out.ord [0, 5, 6, 4, 1, 2, 3]; exact T0)).mono ?_
                      clear HOB
                      rintro e21 w22 ⟨rfl, hb⟩
                      have HT := Lib.hid (HT1.out.pure hb)
                      clear hb HT1
                      refine hK.out _ _ (HFS.out _ _ (HT).out) (fun hHeld => ?_)
                      clear hK K
                      refine tkH 8 rfl ?_
                      simp only [Act.put, List.setIfInBounds_toArray, List.set_cons_zero, List.set_cons_succ]
                      refine tkH 9 rfl ?_
                      go_frame
                      refine tkH 10 rfl ?_
                      go_frame
                      refine tkH 11 rfl ?_
                      go_frame
                      refine tkH 12 rfl ?_
                      go_frame
                      refine skH 13 rfl ?_
                      simp only [Act.put, List.setIfInBounds_toArray, List.set_cons_zero, List.set_cons_succ]
                      refine skH 14 rfl ?_
                      go_frame
                      refine skH 15 rfl ?_
                      go_frame
                      refine skH 16 rfl ?_
                      go_frame
                      refine skH 17 rfl ?_
                      go_frame
                      refine skH 18 rfl ?_
                      go_frame
                      refine skH 19 rfl ?_
                      go_frame
                      refine skH 20 rfl ?_
                      go_frame
                      refine skH 21 rfl ?_
                      go_frame
                      refine tkH 22 rfl ?_
                      simp only [Act.put, List.setIfInBounds_toArray, List.set_cons_zero, List.set_cons_succ]
                      refine tkH 23 rfl ?_
                      go_frame
                      refine wpAnyH_done (by kernel_rfl) ?_ _
                      refine NoPanic.normal ?_
                      try simp only [Exit.then]
                      clear hHeld
                      go_wp2
                      go_roundw
                      case rel => exact ⟨j + 1, by go_num, by omega, (HT.out.ord [2, 7, 3, 0, 8, 1, 4, 5, 6]).drop⟩
                      case measure => simp [intOf]; omega
                    · have hj2 : (0 : Int) < (j : Int) := by omega
                      have hj3 : 0 < j := by omega
                      obtain ⟨jp, hjp⟩ : ∃ k, k = j - 1 := ⟨_, rfl⟩
                      have hjp2 : (j : Int) - 1 = (jp : Int) := by omega
                      have hjw : IntKind.i64.wrap (jp : Int) = (jp : Int) := by rw [IntKind.wrap_i64] <;> omega
                      have hjl : (jp : Int) < (no : Int) := by omega
                      have hjg : (0 : Int) ≤ (jp : Int) := by omega
                      obtain ⟨z, hz⟩ : ∃ z, O3[jp]? = some z := ⟨O3[jp]'(by rw [← HNO.out]; omega), List.getElem?_eq_getElem _⟩
                      have hless : lessI z y = true := by
                        obtain ⟨h1, rfl⟩ := List.getElem?_eq_some_iff.1 hz
                        obtain ⟨h2, rfl⟩ := List.getElem?_eq_some_iff.1 HY.out
                        have h3 := HS.out
                        unfold Srt at h3
                        rw [List.pairwise_iff_getElem] at h3
                        have h4 := h3 jp j h1 h2 (by omega)
                        rw [← bef_less, bef_lt]
                        exact h4
                      have HLS := Lib.hid (ritemLess_any z y)
                      rw [hless] at HLS
                      have HZ := Lib.hid hz
                      clear hz hless hjp
                      refine wp_region_noPanic ?_
                      refine wp_region_held_drew (S := fun W' => (W'.cell? ⟨gm, 0, none⟩ = some (.pointer (some ⟨g, 0, none⟩)) ∧ row? W' gy = some (IV y))) (by kernel_rfl) S0 (fun hHeld => ?_)
                      clear S0
                      refine tkH 0 rfl ?_
                      simp only [Act.put, List.setIfInBounds_toArray, List.set_cons_zero, List.set_cons_succ]
                      refine tkH 1 rfl ?_
                      go_frame
                      refine wpAnyH_ready (rs := [2]) (by kernel_rfl) (by simp) ?_
                      refine AllReadyH.cons (o := _) rfl (fun K hK => ?_) AllReadyH.nil
                      go_simp
                      refine (HAT.out.at (R := rowR gm #[.pointer (some ⟨g, 0, none⟩)] :: _) (by have T0 := HT0.out.ord [0, 5, 6, 4, 1, 2, 3]; exact T0)).mono ?_
                      clear HAT
                      rintro e20 w21 ⟨rfl, hb⟩
                      have HT1 := Lib.hid (HT0.out.pure hb)
                      clear hb HT0
                      refine hK.out _ _ (HFS.out _ _ (HT1).out) (fun hHeld => ?_)
                      clear hK K
                      refine tkH 3 rfl ?_
                      simp only [Act.put, List.setIfInBounds_toArray, List.set_cons_zero, List.set_cons_succ]
                      refine tkH 4 rfl ?_
                      go_frame
                      refine tkH 5 rfl ?_
                      go_frame
                      refine tkH 6 rfl ?_
                      go_frame
                      refine wpAnyH_ready (rs := [7]) (by kernel_rfl) (by simp) ?_
                      refine AllReadyH.cons (o := _) rfl (fun K hK => ?_) AllReadyH.nil
                      go_simp
                      refine (HOB.out.at (R := rowR gm #[.pointer (some ⟨g, 0, none⟩)] :: _) (by have T0 := HT1.out.ord [0, 5, 6, 4, 1, 2, 3]; exact T0)).mono ?_
                      clear HOB
                      rintro e21 w22 ⟨rfl, hb⟩
                      have HT := Lib.hid (HT1.out.pure hb)
                      clear hb HT1
                      refine hK.out _ _ (HFS.out _ _ (HT).out) (fun hHeld => ?_)
                      clear hK K
                      refine tkH 8 rfl ?_
                      simp only [Act.put, List.setIfInBounds_toArray, List.set_cons_zero, List.set_cons_succ]
                      refine tkH 9 rfl ?_
                      go_frame
                      refine tkH 10 rfl ?_
                      go_frame
                      refine tkH 11 rfl ?_
                      go_frame
                      refine tkH 12 rfl ?_
                      go_frame
                      refine tkH 13 rfl ?_
                      go_frame
                      refine tkH 15 rfl ?_
                      go_frame
                      refine tkH 16 rfl ?_
                      go_frame
                      refine tkH 19 rfl ?_
                      go_frame
                      refine wpAnyH_ready (rs := [14]) (by kernel_rfl) (by simp) ?_
                      refine AllReadyH.cons (o := _) rfl (fun K hK => ?_) AllReadyH.nil
                      go_simp
                      refine (runOpenT (O := O3) (by rw [← HNO.out]; omega) (by have T0 := HT.out.ord [3, 0, 1, 2]; exact T0)).mono ?_
                      rintro e22 w23 ⟨v5, rfl, T⟩
                      obtain ⟨A5, c5, rfl⟩ := vec_shape2 T
                      rw [← HNO.out] at T
                      rw [← HNO.out]
                      obtain ⟨g5, rfl, hld5⟩ := vec_load (P := Try.prog) (e := 35) TItem_size (by omega) TItem_und rfl (by kernel_rfl) T HNO.out HZ.out (by omega)
                      have HT1 := Lib.hid (T.ord [2, 3, 4, 1, 0])
                      clear T HT
                      refine hK.out _ _ (HFS.out _ _ (HT1).out) (fun hHeld => ?_)
                      clear hK K
                      refine tkH 17 rfl ?_
                      simp only [Act.put, List.setIfInBounds_toArray, List.set_cons_zero, List.set_cons_succ]
                      refine wpAnyH_ready (rs := [18]) (by kernel_rfl) (by simp) ?_
                      refine AllReadyH.cons (o := _) rfl (fun K hK => ?_) AllReadyH.nil
                      go_simp
                      refine hK.out _ _ (HFS.out _ _ (HT1.out)) (fun hHeld => ?_)
                      clear hK K hld5
                      refine wpAnyH_ready (rs := [20]) (by kernel_rfl) (by simp) ?_
                      refine AllReadyH.cons (o := _) rfl (fun K hK => ?_) AllReadyH.nil
                      go_simp
                      refine (Ans.at HLS.out HT1.out).mono ?_
                      clear HLS
                      rintro e23 w24 ⟨rfl, T⟩
                      have T2 := (T.ord [4, 0, 1, 2, 3]).drop
                      refine hK.out _ _ (HFS.out _ _ T2) (fun hHeld => ?_)
                      clear hK K
                      have HT := Lib.hid T2
                      clear T T2 HT1
                      refine tkH 21 rfl ?_
                      simp only [Act.put, List.setIfInBounds_toArray, List.set_cons_zero, List.set_cons_succ]
                      refine tkH 22 rfl ?_
                      go_frame
                      refine tkH 23 rfl ?_
                      go_frame
                      refine wpAnyH_done (by kernel_rfl) ?_ _
                      refine NoPanic.normal ?_
                      try simp only [Exit.then]
                      clear hHeld
                      go_wp2
                      go_roundw
                      case rel => exact ⟨j + 1, by go_num, by omega, (HT.out.ord [2, 7, 3, 0, 8, 1, 4, 5, 6]).drop⟩
                      case measure => simp [intOf]; omega
                  · have hjn1 : ¬ (j : Int) < (no : Int) := by omega
                    have T2 := (T.ord [2, 6, 7, 5, 4, 1, 8, 9, 0, 3])
                    have T3 : Sts W (fun _ => False) wr (docR g items2 calls2 D2 :: rowR gm #[.pointer (some ⟨g, 0, none⟩)] :: runR ra m2 q2 D2 O3 :: rowR g4 #[.bool false] :: marksR Ds2 :: vecR 35 2 (.slice A4 no c4) no (vl IV O3) :: rowR gx (RSV s) :: []) := Sts.docShut T2
                    have T4 := (T3.ord [5, 6, 3, 1, 2, 0, 4]).drop.drop
                    have HT := Lib.hid T4
                    clear T T2 T3 T4
                    go_wp2
                    refine Handed.intro (l.length - (i + 1)) (by have := HK.out; omega) (hJ _ _ _ ⟨i + 1, Ds2, m2, q2, items2, calls2, D2, O3, by omega, ⟨rfl, rfl, rfl, rfl, rfl, rfl, rfl, rfl⟩, rfl, HR.out, HS.out, HT.out⟩)
              -- }SE
            · intro J1 K1 hJ1 hK1
              cases go with
              | false =>
                go_wp2
                refine Met.intro ?_
                refine hJ1 _ _ ⟨Ds, q, D, O2, ⟨rfl, rfl, rfl, rfl, rfl, rfl, rfl, rfl⟩, rfl, rfl, HR3.out, HS3.out, HT.out⟩
              | true =>
                have T0 := HT.out
                obtain ⟨⟨vi3, vc3, vd3⟩, T1⟩ := Sts.docOpen T0
                have T2 : Sts W (fun _ => False) wc (rowR g (docC vi3 vc3 vd3) :: vecR 35 2 vi3 items2.length (vl IV items2) :: vecR 47 14 vc3 calls2.length (vl CV calls2) :: vecR 35 2 vd3 D.length (vl IV D) :: rowR gx (RSV s) :: rowR gm #[.pointer (some ⟨g, 0, none⟩)] :: runR ra m2 q D O2 :: rowR g4 #[.bool false] :: marksR Ds :: []) := T1
                obtain ⟨Ad3, cd3, rfl⟩ := vec_shape2 (T2.ord [3, 0, 1, 2])
                have rg := T2.row; have lg := row_lt rg
                have cg : wc.cell? ⟨g, 2, none⟩ = some (.slice Ad3 D.length cd3) := by rw [row_cell rg 2]; rfl
                have rm := (T2.ord [5, 0, 1, 2, 3, 4]).row; have lm := row_lt rm; have cm := row_cell rm 0
                have HG := Lib.hid (runGoT (r := ra) HT.out)
                clear T0 T1 T2
                go_wp2_with fail
                refine HG.out.mono ?_
                clear HG hr hlt ck rg lg cg rm lm cm HT
                rintro e8 w8 ⟨g1, rfl, T⟩
                have T0 : Sts W (fun _ => False) w8 ([docR g items2 calls2 (D ++ []), rowR gm #[.pointer (some ⟨g, 0, none⟩)]] ++ ([rowR g1 #[.pointer (some ⟨ra, 0, none⟩)], runR ra m2 q D O2] ++ [rowR gx (RSV s), rowR g4 #[.bool false], marksR Ds])) := by
                  rw [List.append_nil]
                  have T1 := T.ord [1, 3, 0, 4, 2, 5, 6]
                  exact T1
                have HT0 := Lib.hid T0
                clear T T0
                have hn7 : n ≤ 7 := by rcases hHN.out with h | h | h <;> omega
                have hG := HR3.out.bld.inv hn7
                have hmb : 0 ≤ m2.n ∧ m2.n ≤ 7 := by rw [HR3.out.bld.mn]; rcases hHN.out with h | h | h <;> omega
                have hqb : 0 ≤ q.n ∧ q.n ≤ 7 := by rw [HR3.out.bld.qn]; rcases hHN.out with h | h | h <;> omega
                have hOl := HR3.out.olen
                have hDl := HR3.out.dlen
                have hOI : ∀ y ∈ O2, InI y := fun y hy => hG.fits y ((HR3.out.opn y).1 hy).1
                have HGI := Lib.hid hG
                clear hG
                go_wp2_with fail
                refine (wpIn_wide (n := 4)).1 ?_
                refine wp_rangeT (gf := 57) (lb := #[.pointer (some ⟨g1, 0, none⟩)]) (enc := fun x : Item => #[.agg (IV x), .agg (CV (callM m2 x))]) (O := fun xs => ∃ q1 O1, GoR m2 items2 O2 q O2 q1 O1 xs)
                  (fun pre => [docR g items2 calls2 (D ++ pre), rowR gm #[.pointer (some ⟨g, 0, none⟩)]]) (fun _ _ => [noR]) [rowR g1 #[.pointer (some ⟨ra, 0, none⟩)], runR ra m2 q D O2] [rowR g1 #[.pointer (some ⟨ra, 0, none⟩)], goneR ra m2 items2 q D O2] [rowR gx (RSV s), rowR g4 #[.bool false], marksR Ds]
                  (fun pre y a' own' => ∃ g11 g12, own' = [rowR g12 (CV (callM m2 y)), rowR g11 (IV y), docR g items2 calls2 (D ++ pre), rowR gm #[.pointer (some ⟨g, 0, none⟩)]] ∧ FrG gm g11 g12 a'.tmps)
                  rfl (enters_of Try.func57 (by kernel_rfl) rfl) (fun _ => rfl) (runGoG hmb hqb HGI.out (by omega) (by omega) hOI (by omega)) HT0.out ?assign ?body ?done ?stop
                case assign =>
                  rintro lr pre y w F W1 R K hx T1 hK
                  have T2 := ((T1.new (IV y) 35).new (CV (callM m2 y)) 47)
                  rw [World.size_alloc] at T2
                  have HT2 := Lib.hid T2
                  clear HT0 T1 T2 hx
                  gi_wp2
                  exact hK _ _ _ ⟨_, _, rfl, ⟨rfl, rfl, rfl, rfl⟩⟩ HT2.out
                case body =>
                  -- SC{
                  rintro lr pre x a3 _ w F W1 R ⟨post, q1, O1, hx⟩ ⟨g11, g12, rfl, hfg⟩ T1
                  clear HT0
                  obtain ⟨hR4, hD4⟩ := HR3.out.go hn7 hx
                  have hnd := hR4.ok.nd
                  have hxn : x ∉ D ++ pre := fun hc => by
                    rw [← List.append_assoc, List.nodup_append] at hnd
                    exact hnd.2.2 x hc x (by simp) rfl
                  have hxc : (getMK m2 x).isSome = true := hR4.ok.com x (by simp)
                  have hxi : x ∈ items2 := (hR4.bld.is x).1 hxc
                  obtain ⟨k, hk⟩ : ∃ k, k = idxN x items2 := ⟨_, rfl⟩
                  have hkl : k < items2.length := by rw [hk]; exact idxN_lt.2 hxi
                  have hcl := hR4.bld.len
                  have hcall : calls2[k]? = some (callM m2 x) := by
                    unfold callM
                    rw [hR4.bld.get x, ← hk, List.getElem?_eq_getElem (by omega)]
                    rfl
                  have hpl : (D ++ pre).length ≤ 25 := by
                    have h1 := hR4.dlen
                    rw [List.length_append, List.length_append] at h1
                    rw [List.length_append]; omega
                  obtain ⟨Dp, hDp⟩ : ∃ L, L = D ++ pre := ⟨_, rfl⟩
                  have HDP := Lib.hid hDp
                  rw [← hDp] at hxn hpl
                  have T1 : Sts w F W1 (rowR g12 (CV (callM m2 x)) :: rowR g11 (IV x) :: docR g items2 calls2 Dp :: rowR gm #[.pointer (some ⟨g, 0, none⟩)] :: rowR g1 #[.pointer (some ⟨ra, 0, none⟩)] :: goneR ra m2 items2 q D O2 :: R) := by rw [hDp]; exact T1
                  clear hDp
                  have hai : idxI x items2 = (k : Int) := by unfold idxI; rw [← hk, if_pos hkl]
                  have hov : decide (idxN x Dp < Dp.length) = false := decide_eq_false fun hc => hxn (idxN_lt.1 hc)
                  obtain ⟨t3, ds3⟩ := a3
                  obtain ⟨f, hf, ht⟩ := fr_open _ hfg.s
                  have e6 := hfg.e6; have e11 := hfg.e11; have e12 := hfg.e12
                  rw [hf] at e6 e11 e12
                  rw [e6, e11, e12] at ht
                  dsimp only at ht
                  subst ht
                  clear hf e6 e11 e12 hfg hnd hxn hD4
                  have T2 := T1.ord [2, 0, 1, 3]
                  obtain ⟨⟨vi3, vc3, vd3⟩, T3⟩ := Sts.docOpen T2
                  have T3 : Sts w F W1 (rowR g (docC vi3 vc3 vd3) :: vecR 35 2 vi3 items2.length (vl IV items2) :: vecR 47 14 vc3 calls2.length (vl CV calls2) :: vecR 35 2 vd3 Dp.length (vl IV Dp) :: rowR g12 (CV (callM m2 x)) :: rowR g11 (IV x) :: rowR gm #[.pointer (some ⟨g, 0, none⟩)] :: rowR g1 #[.pointer (some ⟨ra, 0, none⟩)] :: goneR ra m2 items2 q D O2 :: R) := T3
                  obtain ⟨gcs, cc, rfl, -⟩ := cll_load (T3.ord [2, 0, 1]) (by omega) hcall
                  have rm := (T3.ord [6, 0, 1, 2, 3, 4, 5]).row; have lm := row_lt rm; have cm := row_cell rm 0
                  have r11 := (T3.ord [5, 0, 1, 2, 3, 4]).row; have l11 := row_lt r11
                  have HAT := Lib.hid ((docAtR g vi3 (.slice (some ⟨gcs, 0, none⟩) calls2.length cc) vd3 items2 calls2 Dp (by omega) x).at (R := rowR g12 (CV (callM m2 x)) :: _) T3)
                  have HOV := Lib.hid (docOverR g vi3 (.slice (some ⟨gcs, 0, none⟩) calls2.length cc) vd3 items2 calls2 Dp (by omega) x)
                  rw [hai] at HAT
                  rw [hov] at HOV
                  have HT3 := Lib.hid T3
                  have HCALL := Lib.hid hcall; have HX := Lib.hid hx
                  have hkc : (k : Int) < (calls2.length : Int) := by omega
                  have hk0 : (0 : Int) ≤ (k : Int) := by omega
                  have hkn : ¬ (k : Int) < 0 := by omega
                  have hclen : calls2.length ≤ 25 := by omega
                  clear T1 T2 T3 hai hov hk hcall hx hR4
                  gi_wp2_with fail
                  refine ⟨trivial, ?_⟩
                  refine (CallsIn.inRound lr (callsIn_wide.2 HAT.out)).mono ?_
                  clear HAT rm lm cm r11 l11
                  rintro e9 w9 ⟨rfl, hb⟩
                  have HT := Lib.hid (HT3.out.pure hb)
                  clear hb HT3
                  have FS : ∀ W' R', Sts w F W' (rowR g (docC vi3 (.slice (some ⟨gcs, 0, none⟩) calls2.length cc) vd3) :: rowR g12 (CV (callM m2 x)) :: rowR g11 (IV x) :: rowR gm #[.pointer (some ⟨g, 0, none⟩)] :: vecR 47 14 (.slice (some ⟨gcs, 0, none⟩) calls2.length cc) calls2.length (vl CV calls2) :: R') → (W'.cell? ⟨gm, 0, none⟩ = some (.pointer (some ⟨g, 0, none⟩)) ∧ row? W' g11 = some (IV x) ∧ row? W' g12 = some (CV (callM m2 x)) ∧ W'.cell? ⟨g, 1, none⟩ = some (.slice (some ⟨gcs, 0, none⟩) calls2.length cc) ∧ loadVal Try.prog 47 14 W' (.pointer (some ⟨gcs, k * 14, none⟩)) = .ok (.agg (CV (callM m2 x))) W') := fun W' R' T => by
                    obtain ⟨g2, c2, e, h⟩ := cll_load (T.ord [4, 0, 1, 2, 3]) (by omega) HCALL.out
                    injection e with e
                    injection e with e
                    injection e with e
                    subst e
                    exact ⟨by rw [row_cell T.row3 0]; rfl, T.row2, T.row1, by rw [row_cell T.row 1]; rfl, h⟩
                  have HFS := Lib.hid FS
                  have HT0 := Lib.hid HT.out.drew
                  have S0 := HFS.out _ _ (HT0.out.ord [0, 4, 5, 6, 2, 1, 3])
                  clear FS HT
                  gi_wp2_with fail
                  refine wpIn_region_held (fun W' => (W'.cell? ⟨gm, 0, none⟩ = some (.pointer (some ⟨g, 0, none⟩)) ∧ row? W' g11 = some (IV x) ∧ row? W' g12 = some (CV (callM m2 x)) ∧ W'.cell? ⟨g, 1, none⟩ = some (.slice (some ⟨gcs, 0, none⟩) calls2.length cc) ∧ loadVal Try.prog 47 14 W' (.pointer (some ⟨gcs, k * 14, none⟩)) = .ok (.agg (CV (callM m2 x))) W')) (by kernel_rfl) (by kernel_rfl) S0 (fun hHeld => ?_)
                  clear S0
                  have heqc : eqA (CV (callM m2 x)) (CV (callM m2 x)) = true := eqA_refl _
                  refine tkH 0 rfl ?_
                  simp only [Act.put, List.setIfInBounds_toArray, List.set_cons_zero, List.set_cons_succ]
                  refine tkH 1 rfl ?_
                  go_frame
                  refine tkH 2 rfl ?_
                  go_frame
                  refine tkH 3 rfl ?_
                  go_frame
                  refine tkH 4 rfl ?_
                  go_frame
                  refine wpAnyH_ready (rs := [5]) (by kernel_rfl) (by simp) ?_
                  refine AllReadyH.cons (o := _) rfl (fun K hK => ?_) AllReadyH.nil
                  go_simp
                  refine (HOV.out.at (R := rowR g12 (CV (callM m2 x)) :: _) HT0.out).mono ?_
                  clear HOV
                  rintro e10 w10 ⟨rfl, hb⟩
                  have HT := Lib.hid (HT0.out.pure hb)
                  clear hb HT0
                  refine hK.out _ _ (HFS.out _ _ (HT.out.ord [0, 4, 5, 6, 2, 1, 3])) (fun hHeld => ?_)
                  clear hK K HFS
                  refine tkH 6 rfl ?_
                  simp only [Act.put, List.setIfInBounds_toArray, List.set_cons_zero, List.set_cons_succ]
                  refine tkH 7 rfl ?_
                  go_frame
                  refine tkH 8 rfl ?_
                  go_frame
                  refine tkH 9 rfl ?_
                  go_frame
                  refine tkH 10 rfl ?_
                  go_frame
                  refine tkH 11 rfl ?_
                  go_frame
                  refine tkH 12 rfl ?_
                  go_frame
                  refine tkH 13 rfl ?_
                  go_frame
                  refine tkH 14 rfl ?_
                  go_frame
                  refine tkH 15 rfl ?_
                  go_frame
                  refine tkH 16 rfl ?_
                  go_frame
                  refine tkH 17 rfl ?_
                  go_frame
                  refine wpAnyH_done (by kernel_rfl) ?_ _
                  refine noOut_normalD ?_
                  try simp only [Exit.then]
                  clear hHeld heqc hkc hk0 hkn
                  have FS : ∀ W' X R', Sts w F W' (rowR g X :: rowR g11 (IV x) :: rowR gm #[.pointer (some ⟨g, 0, none⟩)] :: R') → X[2]? = some vd3 → (W'.cell? ⟨g, 2, none⟩ = some vd3 ∧ row? W' g11 = some (IV x) ∧ W'.cell? ⟨gm, 0, none⟩ = some (.pointer (some ⟨g, 0, none⟩))) := fun W' X R' T h1 => ⟨by rw [row_cell T.row 2, h1], T.row1, by rw [row_cell T.row2 0]; rfl⟩
                  have HFS := Lib.hid FS
                  have HT0 := Lib.hid (HT.out.ord [0, 5, 6, 3, 1, 2, 4]).drew
                  have S0 := HFS.out _ _ _ HT0.out rfl
                  have HM := Lib.hid (show ∀ W' : World, (W'.cell? ⟨g, 2, none⟩ = some vd3 ∧ row? W' g11 = some (IV x) ∧ W'.cell? ⟨gm, 0, none⟩ = some (.pointer (some ⟨g, 0, none⟩))) → True from fun _ _ => trivial)
                  clear HT FS
                  gi_wp2_with fail
                  refine wpIn_region_stage (fun W' => (W'.cell? ⟨g, 2, none⟩ = some vd3 ∧ row? W' g11 = some (IV x) ∧ W'.cell? ⟨gm, 0, none⟩ = some (.pointer (some ⟨g, 0, none⟩)))) (fun _ => True) 10 (by kernel_rfl) (by kernel_rfl) S0 (fun hHeld => ?_)
                  clear S0
                  refine tk0 0 rfl ?_
                  simp only [Act.put, List.setIfInBounds_toArray, List.set_cons_zero, List.set_cons_succ]
                  refine tk0 1 rfl ?_
                  go_frame
                  refine tk0 2 rfl ?_
                  go_frame
                  refine tk0 3 rfl ?_
                  go_frame
                  refine tk0 4 rfl ?_
                  go_frame
                  refine tk0 5 rfl ?_
                  go_frame
                  generalize hw7 : w10.drew = w7 at *
                  clear hw7
                  refine wpAnyL_ready (rs := [6]) (by kernel_rfl) (by simp) ?_
                  refine AllReadyL.cons0 (o := _) rfl (by kernel_rfl) (fun K hK => ?_) AllReadyL.nil
                  have Ta := HT0.out.new (IV x) 35
                  have HTa := Lib.hid Ta; clear Ta HT0
                  go_simp
                  refine hK.out _ _ ?_ (fun hHeld => ?_)
                  · exact HFS.out _ _ _ HTa.out.drop rfl
                  clear hK K
                  refine wpAnyL_ready (rs := [7]) (by kernel_rfl) (by simp) ?_
                  refine AllReadyL.cons0 (o := _) rfl (by kernel_rfl) (fun K hK => ?_) AllReadyL.nil
                  have Tb := HTa.out.ord [4, 0, 1, 2, 3]
                  clear HTa
                  obtain ⟨i0, hi0', hz0, hz1, hz2⟩ := itm_i
                  have HOK := Lib.hid (itm_one x)
                  refine step_append_vec (by rfl) _ _ _ (by rfl) 35 i0 _ 2 16 Try.underlying30 hi0' hz0 hz1 hz2 rfl (by omega) vd3 Dp.length (vl IV Dp) (by rfl) Tb ⟨w7.heap.size, 0, none⟩ 1 1 (IV x).toList (by rfl) (by rfl) (news_row Tb.row1) HOK.out (by omega) (by unfold maxLen; omega) (by omega) ?_
                  intro gv' cap1 w12 T1
                  have T1 := (T1.ord [2, 3, 4, 0, 1])
                  refine hK.out _ _ ?_ (fun hHeld => ?_)
                  · exact HFS.out _ _ _ T1 rfl
                  clear hK K Tb HOK
                  refine tk1 8 HM.out rfl ?_
                  simp only [Act.put, List.getElem_toArray, List.getElem_cons_succ, List.getElem_cons_zero, List.setIfInBounds_toArray, List.set_cons_zero, List.set_cons_succ]
                  refine tk0 9 rfl ?_
                  simp only [Act.put, List.setIfInBounds_toArray, List.set_cons_zero, List.set_cons_succ]
                  have hf := row_frozen T1.row 2
                  have T2 := T1.setCell 2 (.slice (some ⟨gv', 0, none⟩) (Dp.length + 1) cap1)
                  have HT2 := Lib.hid T2; clear T1 T2
                  refine wpAnyL_ready (rs := [10]) (by kernel_rfl) (by simp) ?_
                  refine AllReadyL.cons1 (o := _) rfl (by kernel_rfl) (fun K hK => ?_) AllReadyL.nil
                  go_simp
                  refine hK.out _ _ trivial (fun hHeld => ?_)
                  clear hK K hf HFS HM hi0' hz0 hz1 hz2
                  refine wpAnyL_done (by kernel_rfl) ?_ _
                  refine noOut_normalD ?_
                  try simp only [Exit.then]
                  generalize w12.setCell _ _ = w13 at *
                  have T3 : Sts w F w13 (rowR g (docC vi3 (.slice (some ⟨gcs, 0, none⟩) calls2.length cc) (.slice (some ⟨gv', 0, none⟩) (Dp.length + 1) cap1)) :: rowR g11 (IV x) :: rowR gm #[.pointer (some ⟨g, 0, none⟩)] :: vecR 35 2 (.slice (some ⟨gv', 0, none⟩) (Dp.length + 1) cap1) (Dp.length + 1) (vl IV Dp ++ (IV x).toList) :: rowR w7.heap.size (IV x) :: vecR 35 2 vi3 items2.length (vl IV items2) :: vecR 47 14 (.slice (some ⟨gcs, 0, none⟩) calls2.length cc) calls2.length (vl CV calls2) :: rowR g12 (CV (callM m2 x)) :: rowR g1 #[.pointer (some ⟨ra, 0, none⟩)] :: goneR ra m2 items2 q D O2 :: R) := HT2.out
                  rw [show Dp.length + 1 = (Dp ++ [x]).length by simp, show vl IV Dp ++ (IV x).toList = vl IV (Dp ++ [x]) from (vl_snoc IV Dp x).symm] at T3
                  have T4 := (T3.ord [1, 4, 7, 0, 5, 6, 3, 2, 8, 9]).drop.drop.drop
                  have T5 := Sts.docShut T4
                  rw [HDP.out, List.append_assoc] at T5
                  have HT := Lib.hid T5; clear HT2 T3 T4 T5
                  gi_wp2
                  exact HT.out
                  -- }SC
                case done =>
                  -- SD{
                  rintro D1 W1 xs ⟨q1, O1, hgo⟩ T1
                  clear HT0
                  obtain ⟨hR4, hD4⟩ := HR3.out.go hn7 hgo
                  have T1 : Sts W (fun _ => False) W1 (objR D1 (.deferred (some [])) :: docR g items2 calls2 (D ++ xs) :: rowR gm #[.pointer (some ⟨g, 0, none⟩)] :: rowR g1 #[.pointer (some ⟨ra, 0, none⟩)] :: goneR ra m2 items2 q D O2 :: rowR gx (RSV s) :: rowR g4 #[.bool false] :: marksR Ds :: []) := T1
                  have T2 := ((T1.ord [4, 0, 7, 1, 2, 3, 5, 6]).goneSame hgo)
                  have T3 := (T2.ord [1, 2, 0, 3, 4, 5, 6, 7]).marksCons
                  have T4 := T3.ord [2, 0, 1, 3, 4, 5, 6]
                  obtain ⟨⟨vi3, vc3, vd3⟩, T5⟩ := Sts.docOpen T4
                  have hS4 : Srt mZ O1 := HS3.out.sublist hgo.sub
                  have HW := Lib.hid (wentT hn7 HR3.out hR4 hD4 (by omega) g vi3 vc3 vd3 T5)
                  have T6 : Sts W (fun _ => False) W1 (rowR g (docC vi3 vc3 vd3) :: vecR 35 2 vi3 items2.length (vl IV items2) :: vecR 47 14 vc3 calls2.length (vl CV calls2) :: vecR 35 2 vd3 (D ++ xs).length (vl IV (D ++ xs)) :: marksR (D1 :: Ds) :: runR ra m2 q1 (D ++ xs) O1 :: rowR gm #[.pointer (some ⟨g, 0, none⟩)] :: rowR g1 #[.pointer (some ⟨ra, 0, none⟩)] :: rowR gx (RSV s) :: rowR g4 #[.bool false] :: []) := T5
                  have rm := (T6.ord [6, 0, 1, 2, 3, 4, 5]).row; have lm := row_lt rm; have cm := row_cell rm 0
                  have HR4 := Lib.hid hR4; have HS4 := Lib.hid hS4
                  clear T1 T2 T3 T4 T5 T6 hR4 hD4 hS4 hgo
                  go_wp2_with fail
                  refine HW.out.mono ?_
                  clear HW rm lm cm
                  rintro e9 w9 ⟨rfl, T⟩
                  have T6 := Sts.docShut T
                  have HT := Lib.hid (T6.ord [0, 5, 3, 2, 6, 1, 4])
                  clear T T6
                  go_wp2
                  refine Met.intro ?_
                  refine hJ1 _ _ ⟨D1 :: Ds, q1, D ++ xs, O1, ⟨rfl, rfl, rfl, rfl, rfl, rfl, rfl, rfl⟩, rfl, rfl, HR4.out, HS4.out, ?_⟩
                  have T7 := (HT.out.ord [6, 0, 1, 2, 3, 4, 5]).drop
                  exact T7
                  -- }SD
                case stop =>
                  intro D1 c1 pre W1 T1
                  exact (Sts.no T1.drop).elim
    · -- SZ{
      have hil' : ¬ (i : Int) < (l.length : Int) := by omega
      have T0 := T.ord [4, 0, 1, 2, 3]
      have HG := Lib.hid (noRunGo T0)
      clear T T0 hJ hK0 HR HS
      go_wp2_with fail
      refine HG.out.mono ?_
      clear HG
      rintro e6 w6 ⟨g1, rfl, T⟩
      have T0 : Sts W (fun _ => False) w6 ([] ++ ([rowR g1 #[.pointer none]] ++ [marksR Ds, rowR g4 #[.bool false], rowR gm #[.pointer (some ⟨g, 0, none⟩)], runR ra m q D O, docR g items calls D])) := T
      have HT0 := Lib.hid T0
      clear T T0
      go_wp2_with fail
      refine (wpIn_wide (n := 4)).1 ?_
      refine wp_rangeT (gf := 57) (lb := #[.pointer (some ⟨g1, 0, none⟩)]) (enc := fun x : Item => #[.agg (IV x), .agg (CV noCall)]) (O := fun xs => xs = [])
        (fun _ => []) (fun _ _ => [noR]) [rowR g1 #[.pointer none]] [rowR g1 #[.pointer none]] [marksR Ds, rowR g4 #[.bool false], rowR gm #[.pointer (some ⟨g, 0, none⟩)], runR ra m q D O, docR g items calls D]
        (fun _ _ _ _ => True)
        rfl (enters_of Try.func57 (by kernel_rfl) rfl) (fun _ => rfl) (noRunGoG _) HT0.out ?assign ?body ?done ?stop
      case assign =>
        rintro lr pre y w F W1 R K ⟨post, hx⟩ T1 hK
        simp at hx
      case body =>
        rintro lr pre y a3 own3 w F W1 R ⟨post, hx⟩ _ T1
        simp at hx
      case stop =>
        intro D1 c1 pre W1 T1
        exact (Sts.no T1.drop).elim
      case done =>
        rintro D1 W1 xs rfl T1
        clear HT0
        have T1 : Sts W (fun _ => False) W1 (objR D1 (.deferred (some [])) :: rowR g1 #[.pointer none] :: marksR Ds :: rowR g4 #[.bool false] :: rowR gm #[.pointer (some ⟨g, 0, none⟩)] :: runR ra m q D O :: docR g items calls D :: []) := T1
        have T2 := (T1.ord [0, 2, 1]).marksCons
        have HC := Lib.hid (noRunCommit nItm noCall T2)
        clear T1 T2
        go_wp2_with fail
        refine HC.out.mono ?_
        clear HC
        rintro e7 w7 ⟨rfl, T⟩
        have HC := Lib.hid (noRunMissing T); clear T
        go_wp2_with fail
        refine HC.out.mono ?_
        clear HC
        rintro e8 w8 ⟨rfl, T⟩
        have HC := Lib.hid (noRunDone T); clear T
        go_wp2_with fail
        refine HC.out.mono ?_
        clear HC
        rintro e9 w9 ⟨rfl, T⟩
        have HC := Lib.hid (noRunOpen T); clear T
        go_wp2_with fail
        refine HC.out.mono ?_
        clear HC
        rintro e10 w10 ⟨rfl, T⟩
        have HC := Lib.hid (noRunOver nItm T); clear T
        go_wp2_with fail
        refine HC.out.mono ?_
        clear HC
        rintro e11 w11 ⟨rfl, T⟩
        have HC := Lib.hid (noRunIs nItm T); clear T
        go_wp2_with fail
        refine HC.out.mono ?_
        clear HC
        rintro e12 w12 ⟨rfl, T⟩
        have T2 := T.ord [2, 0, 1]
        have r4 := T2.row; have l4 := row_lt r4; have f4 := row_frozen r4 0; have c4 := row_cell r4 0
        have T3 := T2.setCell 0 (.bool true)
        have HT := Lib.hid (T3.ord [1, 0, 2]); clear T T2 T3
        go_wp2
        refine retMs (Ds := D1 :: Ds) HT.out (fun W' TW => ⟨results_cellR rfl rfl (row_cell TW.row 0) Try.underlying4 rfl, ⟨rfl, ?_⟩⟩) rfl
        first | exact TW.below | (rw [← hgs]; exact TW.below)
      -- }SZ
end
end Go.Proofs.Ytnjgjhjilolanaa
