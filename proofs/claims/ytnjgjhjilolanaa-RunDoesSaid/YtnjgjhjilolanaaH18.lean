/- Several texts in one. -/
import Derived.Test.YtnjgjhjilolanaaH16
import Derived.Test.YtnjgjhjilolanaaH17
import Derived.Deep.LoopGhost
import Derived.Test.YtnjgjhjilolanaaH9
/- Layer 18: what is to be done for an item, part by part. -/
namespace Go.Proofs.Ytnjgjhjilolanaa
open Go.RowKit Go.Shelf
set_option linter.unusedVariables false
set_option maxRecDepth 20000
attribute [local go_sem] row_alloc row_drew row_drewN row_ext row_setCell row_setRow size_ext setRow_alloc setRow_drew loadOf storeOf piece_lit loadVal_at storeVal_at allOne_lit buildOf buildRes_some
attribute [local go_sem high] cell_alloc frozen_alloc setCell_alloc cell_ext frozen_ext cell_setRow frozen_setRow
attribute [local go_sem ↓] TDeed_ld0 TDeed_st0 TDeed_fd0 TDeed_bd0
attribute [local go_sem] TDeed_size TDeed_one TDeed_piece TDeed_c0 TDeed_c1 TDeed_c2 TDeed_c3 TDeed_c4 TDeed_c5 TDeed_set_kind TDeed_set_key TDeed_set_val TDeed_set_ver TDeed_set_ses TDeed_set_num TDeed_ld TDeed_st TDeed_f_kind TDeed_f_key TDeed_f_val TDeed_f_ver TDeed_f_ses TDeed_f_num TDeed_bd TDeed_fl TDeed_fl_kind TDeed_fl_key TDeed_fl_val TDeed_fl_ver TDeed_fl_ses TDeed_fl_num
attribute [local go_sem high] TDeed_eql TDeed_neq
attribute [local go_sem ↓] index_deps0 load_deps0 store_deps0
attribute [local go_sem] DV_piece DV_size DV_one index_deps load_deps store_deps
attribute [local go_sem high] TDeps_eql TDeps_neq
attribute [local go_sem ↓] TCall_ld0 TCall_st0 TCall_fd0 TCall_bd0
attribute [local go_sem] TCall_size TCall_one TCall_piece TCall_c0 TCall_c1 TCall_c2 TCall_c3 TCall_c4 TCall_c5 TCall_c6 TCall_c7 TCall_c8 TCall_c9 TCall_c10 TCall_c11 TCall_c12 TCall_c13 TCall_p_deed TCall_put_deed TCall_p_deps TCall_put_deps TCall_set_seq TCall_ld TCall_st TCall_f_deed TCall_f_deps TCall_f_seq TCall_bd TCall_fl TCall_fl_deed TCall_fl_deps TCall_fl_seq
attribute [local go_sem high] TCall_eql TCall_neq
attribute [local go_sem ↓] TItem_ld0 TItem_st0 TItem_fd0 TItem_bd0
attribute [local go_sem] TItem_size TItem_one TItem_piece TItem_c0 TItem_c1 TItem_set_rep TItem_set_num TItem_ld TItem_st TItem_f_rep TItem_f_num TItem_bd TItem_fl TItem_fl_rep TItem_fl_num
attribute [local go_sem high] TItem_eql TItem_neq
theorem mkMapW (t : TypeId) (w : World) : (Instr.makeMap t none).run Try.prog w = .ok (.map (some w.heap.size)) (w.alloc (.map #[] 0)) := rfl
attribute [local go_sem] mkMapW
theorem wk_build0 (p : Array (Nat × Value)) : Instr.build 82 p = buildS 82 p := rfl
theorem wk_build (w : World) (b x1 x2 x3 : Nat) : (buildS 82 #[(0, .pointer (some ⟨b, 0, none⟩)), (1, .map (some x1)), (2, .map (some x2)), (3, .map (some x3))]).run Try.prog w = .ok (.agg (wkC b x1 x2 x3 (.slice none 0 0) (.slice none 0 0) (.slice none 0 0) (.slice none 0 0))) w := by kernel_rfl
attribute [local go_sem ↓] wk_build0
attribute [local go_sem] wk_build
theorem muF_len : ∀ (fr : List (Item × List Item)), fr.length ≤ muF fr
  | [] => Nat.le_refl _
  | f :: t => by
    have := muF_len t
    unfold muF at this ⊢
    simp only [List.map_cons, List.sum_cons, List.length_cons]
    omega
def noWS : WS := ⟨fun _ => none, 0, fun _ => none, fun _ => none, [], [], [], []⟩
noncomputable def startM (m : RowsMK) (q : RowsML) (x : Item) : WS := pushM m q x noWS
def OrdM (m : RowsMK) (q : RowsML) (its : List Item) (x : Item) (P : List (List Item)) (M : List Item) : Prop :=
  (((getMK m x).isSome = false ∨ (getML q x).isSome = true) ∧ P = [] ∧ M = []) ∨
  (((getMK m x).isSome = true ∧ (getML q x).isSome = false) ∧ ∃ Z ps, Ends m q (startM m q x) Z ∧ Z.fr = [] ∧ WInv m q its Z ps ∧ (Z.mi ≠ [] → P = [] ∧ M = Z.mi) ∧ (Z.mi = [] → P = Z.pa ∧ M = []))
section
variable {w W : World} {F : Nat → Prop} {R : List Res} {b gc gd : Nat} {m : RowsMK} {q : RowsML}
theorem Sts.wkOut {wk : Nat} {A : WA} {S : WS} (T : Sts w F W (wkL wk b A S ++ R)) : Sts w F W (rowR wk (wkC b A.bi A.bl A.bo A.vs A.vf A.vp A.vm) :: numR A.bi A.n1 S.ci S.ix :: numR A.bl A.n2 A.c2 S.lo :: bitR A.bo A.n3 A.c3 S.on :: vecR 35 2 A.vs S.st.length (vl IV S.st) :: frR A.vf S.fr :: paR A.vp S.pa :: vecR 35 2 A.vm S.mi.length (vl IV S.mi) :: R) := T
theorem Sts.wkFacts {wk : Nat} {A : WA} {S : WS} (T : Sts w F W (wkL wk b A S ++ R)) : row? W wk = some (wkC b A.bi A.bl A.bo A.vs A.vf A.vp A.vm) ∧ (∃ a c, A.vf = .slice a S.fr.length c) ∧ (∃ a c, A.vm = .slice a S.mi.length c) := by
  have T : Sts w F W (rowR wk (wkC b A.bi A.bl A.bo A.vs A.vf A.vp A.vm) :: numR A.bi A.n1 S.ci S.ix :: numR A.bl A.n2 A.c2 S.lo :: bitR A.bo A.n3 A.c3 S.on :: vecR 35 2 A.vs S.st.length (vl IV S.st) :: frR A.vf S.fr :: paR A.vp S.pa :: vecR 35 2 A.vm S.mi.length (vl IV S.mi) :: R) := T
  refine ⟨T.row, ?_, ?_⟩
  · obtain ⟨fv, h, T1⟩ := (T.ord [5, 0, 1, 2, 3, 4]).frOpen
    obtain ⟨a, c, hv⟩ := vec_shape2 T1
    exact ⟨a, c, by rw [hv, ← h, List.length_map]⟩
  · exact vec_shape2 (T.ord [7, 0, 1, 2, 3, 4, 5, 6])
theorem Sts.paNil {L : List Res} (T : Sts w F W L) : Sts w F W (paR (.slice none 0 0) [] :: L) :=
  Sts.paShut (pv := []) (T.vecNil 30 1)
theorem Sts.frNil {L : List Res} (T : Sts w F W L) : Sts w F W (frR (.slice none 0 0) [] :: L) :=
  Sts.frShut (fv := []) (T.vecNil 105 3)
theorem Sts.back {L M : List Res} {r : Res} (T : Sts w F W (L ++ (M ++ r :: R))) : Sts w F W (L ++ (M ++ R)) := by
  have T1 : Sts w F W (r :: ((L ++ M) ++ R)) := T.perm (by
    rw [← List.append_assoc]
    exact List.perm_middle)
  have T2 := T1.drop
  rw [List.append_assoc] at T2
  exact T2
set_option maxHeartbeats 16000000 in
theorem grOrderT {its : List Item} (hK : SortsTo its.length) (hK6 : its.length ≤ 511) (G : GInv m its) (hm : 0 ≤ m.n ∧ m.n ≤ 7) (hq : 0 ≤ q.n ∧ q.n ≤ 7) (x : Item)
    (T : Sts w F W (grL b gc gd m q ++ R)) :
    Calls Try.prog 13 #[.pointer (some ⟨b, 0, none⟩), .agg (IV x)] W fun e W' => ∃ vp vm P M, e = .returned (.tuple #[vp, vm]) ∧ OrdM m q its x P M ∧ Sts w F W' (paR vp P :: vecR 35 2 vm M.length (vl IV M) :: (grL b gc gd m q ++ R)) := by
  have T1 := T.new (IV x) 35
  have hr := T1.row; have hlt := row_lt hr
  have T1 : Sts w F (W.alloc (.cells (IV x) 35)) (rowR W.heap.size (IV x) :: rowR b #[.pointer (some ⟨gc, 0, none⟩), .pointer (some ⟨gd, 0, none⟩)] :: rowsIRK gc m :: rowsIRL gd q :: R) := T1
  have HT := Lib.hid (T1.ord [1, 2, 3, 0]); clear T1 T
  have HIS := Lib.hid (grIsR b gc gd m q hm x)
  have HOV := Lib.hid (grOverR b gc gd m q hq x)
  obtain ⟨is, his⟩ : ∃ v, v = (getMK m x).isSome := ⟨_, rfl⟩
  obtain ⟨ov, hov⟩ : ∃ v, v = (getML q x).isSome := ⟨_, rfl⟩
  rw [← his] at HIS
  rw [← hov] at HOV
  have HI := Lib.hid his; have HO := Lib.hid hov
  clear his hov
  go_enter Try.func13, Try.ntmps13
  go_wp2_with fail
  refine (HIS.out.at (R := rowR _ _ :: _) HT.out).mono ?_
  clear HIS hr hlt
  rintro e2 w2 ⟨rfl, hb⟩
  have T2 := HT.out.pure hb
  have hr := (T2.ord [3, 0, 1, 2]).row; have hlt := row_lt hr
  have HT2 := Lib.hid T2; clear T2 hb HT
  generalize W.heap.size = gx at *
  cases is
  case false =>
    go_wp2
    go_ret2
    exact ⟨_, _, [], [], rfl, .inl ⟨.inl HI.out.symm, rfl, rfl⟩, by
      have T9 := ((HT2.out.ord [3, 0, 1, 2]).drop.vecNil 35 2).paNil
      exact T9⟩
  case true =>
    go_wp2_with fail
    refine (HOV.out.at (R := rowR _ _ :: _) HT2.out).mono ?_
    clear HOV hr hlt
    rintro e3 w3 ⟨rfl, hb⟩
    have T3 := HT2.out.pure hb
    have HT := Lib.hid T3; clear T3 hb HT2
    cases ov
    case true =>
      go_wp2
      go_ret2
      exact ⟨_, _, [], [], rfl, .inl ⟨.inr HO.out.symm, rfl, rfl⟩, by
        have T9 := ((HT.out.ord [3, 0, 1, 2]).drop.vecNil 35 2).paNil
        exact T9⟩
    case false =>
      go_upto_region 4 with fail
      have T1 : Sts w F _ (numR _ 0 0 (fun _ => none) :: _) := HT.out.mapCNew (P := Try.prog) (k := 35) (kv := fun x : Item => Value.agg (IV x)) (ev := fun i : Int => Value.int .i64 i) (ok := InI)
      have T2 : Sts w F _ (numR _ 0 0 (fun _ => none) :: _) := T1.mapCNew (P := Try.prog) (k := 35) (kv := fun x : Item => Value.agg (IV x)) (ev := fun i : Int => Value.int .i64 i) (ok := InI)
      have T3 : Sts w F _ (bitR _ 0 0 (fun _ => none) :: _) := T2.mapCNew (P := Try.prog) (k := 35) (kv := fun x : Item => Value.agg (IV x)) (ev := fun i : Bool => Value.bool i) (ok := InI)
      simp only [World.size_alloc] at T3
      have T4 := T3.new (wkC b w3.heap.size (w3.heap.size + 1) (w3.heap.size + 1 + 1) (.slice none 0 0) (.slice none 0 0) (.slice none 0 0) (.slice none 0 0)) 82
      simp only [World.size_alloc] at T4
      have HT4 := Lib.hid T4
      clear T1 T2 T3 T4 HT
      generalize World.alloc _ _ = w4 at *
      generalize w3.heap.size + 1 + 1 + 1 = wk at *
      generalize w3.heap.size + 1 + 1 = bo at *
      generalize w3.heap.size + 1 = bl at *
      generalize w3.heap.size = bi at *
      have T5 := (HT4.out.vecNil 35 2).paNil.frNil.vecNil 35 2
      have T6 := T5.ord [4, 7, 6, 5, 0, 1, 2, 3, 8, 9, 10, 11]
      have HX : InI x := G.fits x (G.mem x HI.out.symm)
      have HP := Lib.hid (grPushT (R := rowR gx (IV x) :: R) (wk := wk) (N := 0) (A := ⟨bi, bl, bo, 0, 0, 0, 0, 0, .slice none 0 0, .slice none 0 0, .slice none 0 0, .slice none 0 0⟩) (S := noWS) ⟨Nat.le_refl _, Nat.le_refl _, Nat.le_refl _⟩ (by unfold maxLen; omega) (Nat.zero_le _) (Nat.zero_le _) hm hq x HX (fun i hi => G.deps x i hi) T6)
      have hr := (T6.ord [11, 0, 1, 2, 3, 4, 5, 6, 7, 8, 9, 10]).row; have hlt := row_lt hr
      clear T5 T6 HT4
      go_wp2_with fail
      refine HP.out.mono ?_
      clear HP hr hlt
      rintro e5 w5 ⟨rfl, A1, hA1, T⟩
      have T : Sts w F w5 (wkL wk b A1 (startM m q x) ++ (grL b gc gd m q ++ rowR gx (IV x) :: R)) := T
      have hx0 : x ∉ ([] : List Item) := by simp
      have hW0 : WInv m q its noWS [] := { nodup := List.nodup_nil, is := by simp, ix := by simp [noWS], ci := rfl, st := by simp [noWS], stn := List.nodup_nil, fr := List.Sublist.refl _, nx := by simp [noWS], pa := Nat.le_refl _ }
      have hW1 : WInv m q its (startM m q x) ([] ++ [x]) := hW0.push G HI.out.symm hx0
      have hmu1 : muS its.length (startM m q x) ≤ its.length * 450 := by
        have h1 := hW1.le G
        have h2 : (startM m q x).ci = 1 := rfl
        have h3 := push_mu (S := noWS) (q := q) (x := x) (K := its.length) G rfl (by show 0 + 1 ≤ _; omega)
        have h4 : muS its.length noWS = its.length * 450 := by unfold muS noWS muF; simp
        unfold startM
        omega
      have HT := Lib.hid T; have HW := Lib.hid hW1; have HMU := Lib.hid hmu1; have HA1 := Lib.hid hA1
      clear T hW0 hW1 hx0 hmu1 hA1
      go_wp2_with fail
      go_loopg [] (muS its.length (startM m q x)) (fun gk wr => ∃ (A : WA) (S : WS) (ps : List Item) (N : Nat), gk = muS its.length S ∧ WInv m q its S ps ∧ A.le N ∧ N + (its.length + 2) * muS its.length S ≤ (its.length + 2) * (its.length * 450) + 1 ∧ S.mi.length + muS its.length S ≤ its.length * 450 ∧ (∀ Z, Ends m q S Z → Ends m q (startM m q x) Z) ∧ Sts w F wr (wkL wk b A S ++ (grL b gc gd m q ++ rowR gx (IV x) :: R)))
      case atStart => exact ⟨A1, startM m q x, [] ++ [x], 0 + 1, rfl, HW.out, HA1.out, by have := Nat.mul_le_mul_left (its.length + 2) HMU.out; omega, by show 0 + _ ≤ _; have := HMU.out; omega, fun Z h => h, HT.out⟩
      case round =>
        clear HT HW HMU HA1
        obtain ⟨A, S, ps, N, hgk, hW, hA, hN, hmi, hZ, T⟩ := hrel
        obtain ⟨hr, ⟨av, cv, hvf⟩, ⟨am, cm, hvm⟩⟩ := T.wkFacts
        have hlt := row_lt hr
        obtain ⟨nf, hnf⟩ : ∃ nf, nf = S.fr.length := ⟨_, rfl⟩
        have c5 : wr.cell? ⟨wk, 5, none⟩ = some (.slice av nf cv) := by rw [row_cell hr 5, hnf, ← hvf]; rfl
        have HT := Lib.hid T; have HW := Lib.hid hW; have HA := Lib.hid hA; have HZ := Lib.hid hZ; have HGK := Lib.hid hgk; have HNN := Lib.hid hN; have HMI := Lib.hid hmi; have HVF := Lib.hid hvf; have HVM := Lib.hid hvm; have HNF := Lib.hid hnf
        clear T hW hA hZ hgk hN hmi hvf hvm hnf
        by_cases h0 : nf = 0
        · have h0' : ¬ (0 : Int) < (nf : Int) := by omega
          have h0'' : ¬ 0 < nf := by omega
          have hfr : S.fr = [] := List.eq_nil_of_length_eq_zero (by rw [← HNF.out]; exact h0)
          have HFR := Lib.hid hfr
          obtain ⟨nm, hnm⟩ : ∃ nm, nm = S.mi.length := ⟨_, rfl⟩
          have c7 : wr.cell? ⟨wk, 7, none⟩ = some (.slice am nm cm) := by rw [row_cell hr 7, hnm, ← HVM.out]; rfl
          have c6 : wr.cell? ⟨wk, 6, none⟩ = some A.vp := by rw [row_cell hr 6]; rfl
          have HNM := Lib.hid hnm
          clear hfr hnm
          by_cases h1 : nm = 0
          · have h1' : ¬ (0 : Int) < (nm : Int) := by omega
            have h1'' : ¬ 0 < nm := by omega
            generalize hvp : A.vp = vp at *
            have HVP := Lib.hid hvp; clear hvp
            go_wp2
            go_ret2
            have hmi0 : S.mi = [] := List.eq_nil_of_length_eq_zero (by rw [← HNM.out]; exact h1)
            refine ⟨_, _, rfl, S.pa, [], .inr ⟨⟨HI.out.symm, HO.out.symm⟩, S, ps, HZ.out S (Ends.done m q HFR.out), HFR.out, HW.out, fun h => absurd hmi0 h, fun _ => ⟨rfl, rfl⟩⟩, ?_⟩
            have T1 := HT.out.back.wkOut
            have T2 := (T1.ord [0, 1, 2, 3, 4, 5, 7, 6]).drop.drop.drop.drop.drop.drop.drop
            have T3 := (T2.vecNil 35 2).swap
            rw [HVP.out] at T3
            exact T3
          · have h1' : (0 : Int) < (nm : Int) := by omega
            have h1'' : 0 < nm := by omega
            have HT0 := Lib.hid HT.out.drew
            have S0 : (fun W' : World => W'.cell? ⟨wk, 7, none⟩ = some (.slice am nm cm)) wr.drew := by
              have h2 := HT0.out.wkFacts.1
              show wr.drew.cell? _ = _
              rw [row_cell h2 7, HNM.out, ← HVM.out]; rfl
            go_upto_region 8 with fail
            refine wp_region_held_drew (S := fun W' => W'.cell? ⟨wk, 7, none⟩ = some (.slice am nm cm)) (by kernel_rfl) S0 (fun hHeld => ?_)
            clear S0 HT
            refine tkH 0 rfl ?_
            simp only [Act.put, List.setIfInBounds_toArray, List.set_cons_zero, List.set_cons_succ]
            refine tkH 1 rfl ?_
            go_frame
            refine tkH 2 rfl ?_
            go_frame
            refine tkH 3 rfl ?_
            go_frame
            refine tkH 4 rfl ?_
            go_frame
            refine tkH 5 rfl ?_
            go_frame
            refine wpAnyH_done (by kernel_rfl) ?_ _
            try simp only [Exit.then]
            go_wp2
            go_ret2
            have hmi0 : S.mi ≠ [] := fun h => h1 (by rw [HNM.out, h]; rfl)
            refine ⟨_, _, rfl, [], S.mi, .inr ⟨⟨HI.out.symm, HO.out.symm⟩, S, ps, HZ.out S (Ends.done m q HFR.out), HFR.out, HW.out, fun _ => ⟨rfl, rfl⟩, fun h => absurd h hmi0⟩, ?_⟩
            have T1 := HT0.out.back.wkOut
            have T2 := (T1.ord [0, 1, 2, 3, 4, 5, 6, 7]).drop.drop.drop.drop.drop.drop.drop
            have T3 := T2.paNil
            rw [HVM.out, ← HNM.out] at T3
            rw [← HNM.out]
            exact T3
        · have h0' : (0 : Int) < (nf : Int) := by omega
          have h0'' : 0 < nf := by omega
          have hle := HW.out.le G
          have hpa := HW.out.pa
          have hmul : (its.length + 2) * (its.length * 450) ≤ 513 * (511 * 450) := Nat.mul_le_mul (by omega) (Nat.mul_le_mul_right _ hK6)
          have hNN := HNN.out
          have hMI := HMI.out
          have hmx : maxLen = 9223372036854775807 := rfl
          rcases List.eq_nil_or_concat S.fr with hfr | ⟨frs, ⟨x1, l1⟩, hfr⟩
          · exact absurd (by rw [HNF.out, hfr]; rfl) h0
          · rw [List.concat_eq_append] at hfr
            have hx1 : InI x1 := HW.out.fit G x1 (HW.out.top hfr)
            have hml : muF S.fr ≤ muS its.length S := Nat.le_add_left _ _
            have hfl0 := muF_len frs
            rw [hfr, muF_snoc] at hml
            cases l1 with
            | nil =>
              have HP := Lib.hid (grPopT (R := rowR gx (IV x) :: R) (K := its.length) (wk := wk) (N := N) (A := A) (S := S) hK (by omega) HA.out (by omega) (by omega) (by omega) hm hfr (by omega) (fun f hf => HW.out.fit G f.1 (HW.out.fr.subset (by rw [hfr]; simp; exact .inl ⟨_, hf⟩))) hx1 (HW.out.fit G) (idxN_lt.2 (HW.out.top hfr)) HT.out)
              have hmu := pop_mu (S := S) (m := m) (K := its.length) hfr
              have hmul2 : (its.length + 2) * muS its.length S = (its.length + 2) * muS its.length (popM m S frs x1) + (its.length + 2) := by rw [← hmu, Nat.mul_add, Nat.mul_one]
              have H1 := Lib.hid (show N + 1 + its.length + (its.length + 2) * muS its.length (popM m S frs x1) ≤ (its.length + 2) * (its.length * 450) + 1 by omega)
              have H2 := Lib.hid (show (popM m S frs x1).mi.length + muS its.length (popM m S frs x1) ≤ its.length * 450 by rw [pop_mi]; omega)
              have H3 := Lib.hid (show muS its.length (popM m S frs x1) < gk by rw [HGK.out]; omega)
              have HFR := Lib.hid hfr
              clear hle hpa hmul hNN hMI hmx hfr hx1 hml hfl0 hmu hmul2 HNN HMI
              go_wp2_with fail
              refine HP.out.mono ?_
              clear HP HT hr hlt c5
              rintro e6 w6 ⟨rfl, A', hA', T⟩
              have HT := Lib.hid T; have HA' := Lib.hid hA'; clear T hA'
              go_wp2
              go_roundg (muS its.length (popM m S frs x1))
              case measure => exact H3.out
              case rel => exact ⟨A', popM m S frs x1, ps, N + 1 + its.length, rfl, HW.out.pop HFR.out, HA'.out, H1.out, H2.out, fun Z h => HZ.out Z (Ends.pop HFR.out h), HT.out⟩
            | cons y l =>
              obtain ⟨ps', hW', hmu, hmi'⟩ := HW.out.next G hfr
              have hll : l.length + 1 + 1 ≤ muS its.length S := by simp at hml; omega
              have HP := Lib.hid (grNextT (R := rowR gx (IV x) :: R) (wk := wk) (N := N) (A := A) (S := S) HA.out (by omega) (by omega) (by omega) hm hq hfr (by omega) (by omega) hx1 (HW.out.nx (x1, y :: l) (by rw [hfr]; simp) y (by simp)) (fun i hi => G.deps y i hi) HT.out)
              have hmul2 : (its.length + 2) * (muS its.length (nextM m q S frs x1 y l) + 1) ≤ (its.length + 2) * muS its.length S := Nat.mul_le_mul_left _ hmu
              rw [Nat.mul_add, Nat.mul_one] at hmul2
              have H1 := Lib.hid (show N + 1 + (its.length + 2) * muS its.length (nextM m q S frs x1 y l) ≤ (its.length + 2) * (its.length * 450) + 1 by omega)
              have H2 := Lib.hid (show (nextM m q S frs x1 y l).mi.length + muS its.length (nextM m q S frs x1 y l) ≤ its.length * 450 by omega)
              have H3 := Lib.hid (show muS its.length (nextM m q S frs x1 y l) < gk by rw [HGK.out]; omega)
              have HFR := Lib.hid hfr; have HW' := Lib.hid hW'
              clear hle hpa hmul hNN hMI hmx hfr hx1 hml hfl0 hmu hmul2 HNN HMI hll hW' hmi'
              go_wp2_with fail
              refine HP.out.mono ?_
              clear HP HT hr hlt c5
              rintro e6 w6 ⟨rfl, A', hA', T⟩
              have HT := Lib.hid T; have HA' := Lib.hid hA'; clear T hA'
              go_wp2
              go_roundg (muS its.length (nextM m q S frs x1 y l))
              case measure => exact H3.out
              case rel => exact ⟨A', nextM m q S frs x1 y l, ps', N + 1, rfl, HW'.out, HA'.out, H1.out, H2.out, fun Z h => HZ.out Z (Ends.next HFR.out h), HT.out⟩
end
end Go.Proofs.Ytnjgjhjilolanaa
/- Layer 18, plain: what a graph holds behind a commit, behind a done item; the document's graph beside it. -/
namespace Go.Proofs.Ytnjgjhjilolanaa
open Go.RowKit
set_option linter.unusedVariables false
theorem setMK_n (m : RowsMK) (x : Item) (t : Call) : (setMK m x t).n = m.n := by unfold setMK; split <;> rfl
theorem putL_getK (l : List (Option Call)) (i : Nat) (t : Call) (j : Nat) : ((putLK l i t)[j]?).join = if j = i then some t else (l[j]?).join := by
  unfold putLK
  rw [List.getElem?_set]
  by_cases h : i = j
  · subst h
    rw [if_pos rfl, if_pos rfl, if_pos (by rw [List.length_append, List.length_replicate]; omega)]
    rfl
  · rw [if_neg h, if_neg (fun e => h e.symm), List.getElem?_append]
    split
    · rfl
    · rename_i hl
      rw [List.getElem?_eq_none (l := l) (by omega), List.getElem?_replicate]
      split <;> rfl
theorem getMK_set_same {m : RowsMK} {x : Item} (t : Call) (h : goodI x m.n = true) : getMK (setMK m x t) x = some t := by
  unfold getMK
  rw [setMK_n, h, if_pos rfl]
  unfold setMK
  rw [h, if_pos rfl]
  dsimp only
  rw [updF_same, putL_getK, if_pos rfl]
theorem getMK_set_other {m : RowsMK} {x y : Item} (t : Call) (h : goodI x m.n = true) (hne : x ≠ y) : getMK (setMK m x t) y = getMK m y := by
  unfold getMK
  rw [setMK_n]
  by_cases hy : goodI y m.n = true
  · rw [if_pos hy, if_pos hy]
    unfold setMK
    rw [if_pos h]
    dsimp only
    by_cases hr : y.rep.toNat = x.rep.toNat
    · rw [hr, updF_same, putL_getK, if_neg]
      intro e
      unfold goodI at h hy
      rw [decide_eq_true_iff] at h hy
      apply hne
      have h1 : x.rep = y.rep := by omega
      have h2 : x.num = y.num := by omega
      cases x; cases y; simp_all
    · rw [updF_other _ _ hr]
  · rw [if_neg hy, if_neg hy]
theorem getMK_new (n : Int) (x : Item) : getMK ⟨n, fun _ => []⟩ x = none := by unfold getMK; split <;> rfl
theorem putL_getL (l : List (Option Bool)) (i : Nat) (t : Bool) (j : Nat) : ((putLL l i t)[j]?).join = if j = i then some t else (l[j]?).join := by
  unfold putLL
  rw [List.getElem?_set]
  by_cases h : i = j
  · subst h
    rw [if_pos rfl, if_pos rfl, if_pos (by rw [List.length_append, List.length_replicate]; omega)]
    rfl
  · rw [if_neg h, if_neg (fun e => h e.symm), List.getElem?_append]
    split
    · rfl
    · rename_i hl
      rw [List.getElem?_eq_none (l := l) (by omega), List.getElem?_replicate]
      split <;> rfl
theorem getML_set_same {m : RowsML} {x : Item} (t : Bool) (h : goodI x m.n = true) : getML (setML m x t) x = some t := by
  unfold getML
  rw [setML_n, h, if_pos rfl]
  unfold setML
  rw [h, if_pos rfl]
  dsimp only
  rw [updF_same, putL_getL, if_pos rfl]
theorem getML_set_other {m : RowsML} {x y : Item} (t : Bool) (h : goodI x m.n = true) (hne : x ≠ y) : getML (setML m x t) y = getML m y := by
  unfold getML
  rw [setML_n]
  by_cases hy : goodI y m.n = true
  · rw [if_pos hy, if_pos hy]
    unfold setML
    rw [if_pos h]
    dsimp only
    by_cases hr : y.rep.toNat = x.rep.toNat
    · rw [hr, updF_same, putL_getL, if_neg]
      intro e
      unfold goodI at h hy
      rw [decide_eq_true_iff] at h hy
      apply hne
      have h1 : x.rep = y.rep := by omega
      have h2 : x.num = y.num := by omega
      cases x; cases y; simp_all
    · rw [updF_other _ _ hr]
  · rw [if_neg hy, if_neg hy]
theorem getML_new (n : Int) (x : Item) : getML ⟨n, fun _ => []⟩ x = none := by unfold getML; split <;> rfl

theorem getMK_good {m : RowsMK} {x : Item} (h : (getMK m x).isSome = true) : goodI x m.n = true := by
  unfold getMK at h
  split at h
  · assumption
  · simp at h
theorem goodI_in {x : Item} {n : Int} (h : goodI x n = true) (hn : n ≤ 7) : InI x := by
  unfold goodI at h
  rw [decide_eq_true_iff] at h
  unfold InI
  omega
theorem comC_yes {m : RowsMK} {x : Item} {c : Call} (h : canC m x c = true) : comC m x c = setMK m x c := by
  unfold canC at h
  simp at h
  unfold comC
  rw [if_pos ⟨h.1.1, by simp [h.1.2]⟩]
theorem comC_no {m : RowsMK} {x : Item} {c : Call} (h : canC m x c = false) : comC m x c = m := by
  unfold canC at h
  unfold comC
  by_cases h1 : goodD c.deps 7 = true ∧ (getMK m x).isSome = false
  · rw [if_pos h1]
    have h2 : goodI x m.n = false := by
      rw [h1.1, h1.2] at h
      simpa using h
    unfold setMK
    rw [if_neg (by simp [h2])]
  · rw [if_neg h1]
theorem canC_good {m : RowsMK} {x : Item} {c : Call} (h : canC m x c = true) : goodI x m.n = true ∧ goodD c.deps 7 = true ∧ (getMK m x).isSome = false := by
  unfold canC at h
  simp at h
  exact ⟨h.2, h.1.1, by simp [h.1.2]⟩
theorem setML_no {q : RowsML} {x : Item} {t : Bool} (h : goodI x q.n = false) : setML q x t = q := by unfold setML; rw [if_neg (by simp [h])]
theorem idxN_out {x : Item} {l : List Item} (h : x ∉ l) : idxN x l = l.length := by
  have h1 : ¬ idxN x l < l.length := fun hc => h (idxN_lt.1 hc)
  have h2 : idxN x l ≤ l.length := List.findIdx_le_length
  omega
theorem idxN_same {x : Item} {l : List Item} (h : x ∉ l) : idxN x (l ++ [x]) = l.length := idxN_split h
theorem idxN_other {x y : Item} {l : List Item} (h : x ∉ l) (e : x ≠ y) : idxN x (l ++ [y]) = l.length + 1 := by
  have : x ∉ l ++ [y] := by simp [h, e]
  rw [idxN_out this]
  simp
theorem idxN_in {x : Item} {l k : List Item} (h : x ∈ l) : idxN x (l ++ k) = idxN x l := by
  have := idxN_lt.2 h
  unfold idxN at this ⊢
  rw [List.findIdx_append, if_pos this]
/-- A graph, and the document's beside it, behind so many steps. -/
structure GBld (n : Int) (k : Nat) (m : RowsMK) (q : RowsML) (items : List Item) (calls : List Call) (dn : List Item) : Prop where
  mn : m.n = n
  qn : q.n = n
  len : calls.length = items.length
  lei : items.length ≤ k
  led : dn.length ≤ k
  nodup : items.Nodup
  dnodup : dn.Nodup
  get : ∀ x, getMK m x = calls[idxN x items]?
  good : ∀ x ∈ items, goodI x n = true
  deps : ∀ c ∈ calls, goodD c.deps 7 = true
  over : ∀ x, (getML q x).isSome = true ↔ x ∈ dn
  dgood : ∀ x ∈ dn, goodI x n = true
section
variable {n : Int} {k : Nat} {m : RowsMK} {q : RowsML} {items : List Item} {calls : List Call} {dn : List Item}
theorem GBld.new (n : Int) : GBld n 0 ⟨n, fun _ => []⟩ ⟨n, fun _ => []⟩ [] [] [] where
  mn := rfl
  qn := rfl
  len := rfl
  lei := Nat.le_refl _
  led := Nat.le_refl _
  nodup := List.nodup_nil
  dnodup := List.nodup_nil
  get x := by rw [getMK_new]; simp
  good := by simp
  deps := by simp
  over x := by rw [getML_new]; simp
  dgood := by simp
theorem GBld.is (h : GBld n k m q items calls dn) (x : Item) : (getMK m x).isSome = true ↔ x ∈ items := by
  rw [h.get, ← idxN_lt, ← h.len]
  simp
theorem GBld.mono (h : GBld n k m q items calls dn) : GBld n (k + 1) m q items calls dn := { h with lei := Nat.le_succ_of_le h.lei, led := Nat.le_succ_of_le h.led }
theorem GBld.can (h : GBld n k m q items calls dn) (x : Item) (c : Call) : canC m x c = (goodI x n && goodD c.deps 7 && decide (idxI x items < 0)) := by
  unfold canC
  rw [h.mn]
  have h1 : (!(getMK m x).isSome) = decide (idxI x items < 0) := by
    have h2 := h.is x
    rw [← idxN_lt] at h2
    unfold idxI
    cases h3 : (getMK m x).isSome with
    | true => rw [if_pos (h2.1 h3)]; simp
    | false =>
      rw [if_neg (fun h4 => by rw [h2.2 h4] at h3; simp at h3)]; simp
  rw [h1]
  cases goodI x n <;> cases goodD c.deps 7 <;> simp
theorem GBld.commit (h : GBld n k m q items calls dn) {x : Item} {c : Call} (hc : canC m x c = true) : GBld n (k + 1) (comC m x c) q (items ++ [x]) (calls ++ [c]) dn := by
  obtain ⟨hg, hd, hs⟩ := canC_good hc
  have hx : x ∉ items := fun hm => by rw [(h.is x).2 hm] at hs; simp at hs
  rw [comC_yes hc]
  exact {
    mn := by rw [setMK_n, h.mn]
    qn := h.qn
    len := by simp [h.len]
    lei := by have := h.lei; simp; omega
    led := Nat.le_succ_of_le h.led
    nodup := by
      rw [List.nodup_append]
      exact ⟨h.nodup, by simp, fun a ha b hb => by simp at hb; subst hb; exact fun e => hx (e ▸ ha)⟩
    dnodup := h.dnodup
    get := fun y => by
      by_cases e : x = y
      · subst e
        rw [getMK_set_same c hg, idxN_same hx, ← h.len]
        simp
      · rw [getMK_set_other c hg e, h.get y]
        by_cases hy : y ∈ items
        · rw [idxN_in hy, List.getElem?_append_left (by rw [h.len]; exact idxN_lt.2 hy)]
        · rw [idxN_other hy (fun e' => e e'.symm), idxN_out hy, ← h.len]
          simp
    good := fun y hy => by
      rcases List.mem_append.1 hy with hy | hy
      · exact h.good y hy
      · simp at hy; subst hy; rw [← h.mn]; exact hg
    deps := fun d hd' => by
      rcases List.mem_append.1 hd' with hy | hy
      · exact h.deps d hy
      · simp at hy; subst hy; exact hd
    over := h.over
    dgood := h.dgood }
theorem GBld.same (h : GBld n k m q items calls dn) {x : Item} {c : Call} (hc : canC m x c = false) : GBld n (k + 1) (comC m x c) q items calls dn := by
  rw [comC_no hc]; exact h.mono
theorem doneM_two (q : RowsML) (x : Item) : doneM q [x, x] = setML (setML q x true) x true := rfl
theorem GBld.done (h : GBld n k m q items calls dn) (x : Item) : GBld n (k + 1) m (doneM q [x, x]) items calls (if (goodI x n && !decide (idxN x dn < dn.length)) = true then dn ++ [x] else dn) := by
  rw [doneM_two]
  cases hg : goodI x n with
  | false =>
    have h1 : setML q x true = q := setML_no (by rw [h.qn]; exact hg)
    rw [h1, h1]
    exact h.mono
  | true =>
    have hg1 : goodI x q.n = true := by rw [h.qn]; exact hg
    have hg2 : goodI x (setML q x true).n = true := by rw [setML_n]; exact hg1
    have hov : ∀ y, (getML (setML (setML q x true) x true) y).isSome = true ↔ y = x ∨ y ∈ dn := fun y => by
      by_cases e : x = y
      · subst e; rw [getML_set_same _ hg2]; simp
      · rw [getML_set_other _ hg2 e, getML_set_other _ hg1 e]
        have := h.over y
        have e2 : ¬ y = x := fun e' => e e'.symm
        rw [this]
        simp [e2]
    by_cases hm : x ∈ dn
    · have h2 := idxN_lt.2 hm
      rw [if_neg (by simp [h2])]
      exact { h.mono with
        qn := by rw [setML_n, setML_n, h.qn]
        over := fun y => by
          rw [hov]
          constructor
          · rintro (rfl | h3)
            · exact hm
            · exact h3
          · exact .inr }
    · have h2 : ¬ idxN x dn < dn.length := fun hc => hm (idxN_lt.1 hc)
      rw [if_pos (by simp; omega)]
      exact { h.mono with
        qn := by rw [setML_n, setML_n, h.qn]
        led := by have := h.led; simp; omega
        dnodup := by
          rw [List.nodup_append]
          exact ⟨h.dnodup, by simp, fun a ha b hb => by simp at hb; subst hb; exact fun e => hm (e ▸ ha)⟩
        over := fun y => by rw [hov]; simp [or_comm]
        dgood := fun y hy => by
          rcases List.mem_append.1 hy with hy | hy
          · exact h.dgood y hy
          · simp at hy; subst hy; exact hg }
theorem GBld.inv (h : GBld n k m q items calls dn) (hn : n ≤ 7) : GInv m items where
  mem y hy := (h.is y).1 hy
  fits y hy := goodI_in (h.good y hy) hn
  deps y i hi := by
    rw [h.get]
    cases hc : calls[idxN y items]? with
    | none => simp [noCall]
    | some c =>
      have := h.deps c (List.mem_of_getElem? hc)
      simp only [Option.getD_some]
      unfold goodD at this
      rw [List.all_eq_true] at this
      have h1 := this i (by simpa using hi)
      unfold goodAt at h1
      rw [decide_eq_true_iff] at h1
      exact h1.2.1
end
end Go.Proofs.Ytnjgjhjilolanaa
/- Layer 18, plain: a search's steps taken apart; the smallest one. -/
namespace Go.Proofs.Ytnjgjhjilolanaa
open Go.RowKit
set_option linter.unusedVariables false
section
variable {m : RowsMK} {q : RowsML} {S Z : WS} {frs : List (Item × List Item)} {x y : Item} {l : List Item}
theorem snoc_inj {α : Type} {a b : List α} {x y : α} (h : a ++ [x] = b ++ [y]) : a = b ∧ x = y := by
  have h1 := List.append_inj' h rfl
  exact ⟨h1.1, by simpa using h1.2⟩
theorem Ends.done_inv (h : S.fr = []) (e : Ends m q S Z) : Z = S := by
  obtain ⟨k, hk⟩ := e
  cases k with
  | zero => exact hk.2.symm
  | succ k =>
    rcases hk with ⟨frs, x, h1, _⟩ | ⟨frs, x, y, l, h1, _⟩ <;> rw [h] at h1 <;> simp at h1
theorem Ends.pop_inv (h : S.fr = frs ++ [(x, [])]) (e : Ends m q S Z) : Ends m q (popM m S frs x) Z := by
  obtain ⟨k, hk⟩ := e
  cases k with
  | zero => have := hk.1; rw [h] at this; simp at this
  | succ k =>
    rcases hk with ⟨frs', x', h1, h2⟩ | ⟨frs', x', y', l', h1, h2⟩
    · rw [h] at h1
      obtain ⟨rfl, h3⟩ := snoc_inj h1
      simp at h3
      subst h3
      exact ⟨k, h2⟩
    · rw [h] at h1
      obtain ⟨rfl, h3⟩ := snoc_inj h1
      simp at h3
theorem Ends.next_inv (h : S.fr = frs ++ [(x, y :: l)]) (e : Ends m q S Z) : Ends m q (nextM m q S frs x y l) Z := by
  obtain ⟨k, hk⟩ := e
  cases k with
  | zero => have := hk.1; rw [h] at this; simp at this
  | succ k =>
    rcases hk with ⟨frs', x', h1, h2⟩ | ⟨frs', x', y', l', h1, h2⟩
    · rw [h] at h1
      obtain ⟨rfl, h3⟩ := snoc_inj h1
      simp at h3
    · rw [h] at h1
      obtain ⟨rfl, h3⟩ := snoc_inj h1
      simp at h3
      obtain ⟨rfl, rfl, rfl⟩ := h3
      exact ⟨k, h2⟩
end
def itB : Item := ⟨1, 1⟩
def dpA : Nat → Int := fun i => if i = 1 then 1 else 0
def dpB : Nat → Int := fun i => if i = 0 then 1 else 0
end Go.Proofs.Ytnjgjhjilolanaa
