/- Several texts in one. -/
import Derived.Test.YtnjgjhjilolanaaV18
import Derived.Test.YtnjgjhjilolanaaV20
import Derived.Test.YtnjgjhjilolanaaV21
import Derived.Deep.LoopGhost
import Derived.Test.YtnjgjhjilolanaaV1
import Derived.Test.YtnjgjhjilolanaaV16
/- Layer 18: what is to be done for an item, part by part. -/
namespace Go.Proofs.Ytnjgjhjilolanaa
open Go.RowKit Go.Shelf
set_option linter.unusedVariables false
set_option maxRecDepth 20000
attribute [local go_sem] row_alloc row_drew row_drewN row_ext row_setCell row_setRow size_ext setRow_alloc setRow_drew loadOf storeOf piece_lit loadVal_at storeVal_at allOne_lit buildOf buildRes_some
attribute [local go_sem high] cell_alloc frozen_alloc setCell_alloc cell_ext frozen_ext cell_setRow frozen_setRow
attribute [local go_sem ↓] TDeed_ld0 TDeed_st0 TDeed_fd0 TDeed_bd0
attribute [local go_sem] TDeed_size TDeed_one TDeed_piece TDeed_c0 TDeed_c1 TDeed_c2 TDeed_c3 TDeed_c4 TDeed_c5 TDeed_set_kind TDeed_set_key TDeed_set_val TDeed_set_ver TDeed_set_ses TDeed_set_num TDeed_ld TDeed_st TDeed_f_kind TDeed_f_key TDeed_f_val TDeed_f_ver TDeed_f_ses TDeed_f_num TDeed_bd TDeed_fl TDeed_fl_kind TDeed_fl_key TDeed_fl_val TDeed_fl_ver TDeed_fl_ses TDeed_fl_num
attribute [local go_sem high] TDeed_eql TDeed_neq
attribute [local go_sem ↓] index_deps0 load_deps0 store_deps0
attribute [local go_sem] DV_piece DV_size DV_one index_deps load_deps store_deps
attribute [local go_sem high] TDeps_eql TDeps_neq
attribute [local go_sem ↓] TCall_ld0 TCall_st0 TCall_fd0 TCall_bd0
attribute [local go_sem] TCall_size TCall_one TCall_piece TCall_c0 TCall_c1 TCall_c2 TCall_c3 TCall_c4 TCall_c5 TCall_c6 TCall_c7 TCall_c8 TCall_c9 TCall_c10 TCall_c11 TCall_c12 TCall_c13 TCall_p_deed TCall_put_deed TCall_p_deps TCall_put_deps TCall_set_seq TCall_ld TCall_st TCall_f_deed TCall_f_deps TCall_f_seq TCall_bd TCall_fl TCall_fl_deed TCall_fl_deps TCall_fl_seq
attribute [local go_sem high] TCall_eql TCall_neq
attribute [local go_sem ↓] TItem_ld0 TItem_st0 TItem_fd0 TItem_bd0
attribute [local go_sem] TItem_size TItem_one TItem_piece TItem_c0 TItem_c1 TItem_set_rep TItem_set_num TItem_ld TItem_st TItem_f_rep TItem_f_num TItem_bd TItem_fl TItem_fl_rep TItem_fl_num
attribute [local go_sem high] TItem_eql TItem_neq
theorem mkMapW (t : TypeId) (w : World) : (Instr.makeMap t none).run Try.prog w = .ok (.map (some w.heap.size)) (w.alloc (.map #[] 0)) := rfl
attribute [local go_sem] mkMapW
theorem wk_build0 (p : Array (Nat × Value)) : Instr.build 82 p = buildS 82 p := rfl
theorem wk_build (w : World) (b x1 x2 x3 : Nat) : (buildS 82 #[(0, .pointer (some ⟨b, 0, none⟩)), (1, .map (some x1)), (2, .map (some x2)), (3, .map (some x3))]).run Try.prog w = .ok (.agg (wkC b x1 x2 x3 (.slice none 0 0) (.slice none 0 0) (.slice none 0 0) (.slice none 0 0))) w := by kernel_rfl
attribute [local go_sem ↓] wk_build0
attribute [local go_sem] wk_build
theorem muF_len : ∀ (fr : List (Item × List Item)), fr.length ≤ muF fr
  | [] => Nat.le_refl _
  | f :: t => by
    have := muF_len t
    unfold muF at this ⊢
    simp only [List.map_cons, List.sum_cons, List.length_cons]
    omega
def noWS : WS := ⟨fun _ => none, 0, fun _ => none, fun _ => none, [], [], [], []⟩
noncomputable def startM (m : RowsMK) (q : RowsML) (x : Item) : WS := pushM m q x noWS
def OrdM (m : RowsMK) (q : RowsML) (its : List Item) (x : Item) (P : List (List Item)) (M : List Item) : Prop :=
  (((getMK m x).isSome = false ∨ (getML q x).isSome = true) ∧ P = [] ∧ M = []) ∨
  (((getMK m x).isSome = true ∧ (getML q x).isSome = false) ∧ ∃ Z ps, Ends m q (startM m q x) Z ∧ Z.fr = [] ∧ WInv m q its Z ps ∧ (Z.mi ≠ [] → P = [] ∧ M = Z.mi) ∧ (Z.mi = [] → P = Z.pa ∧ M = []))
section
variable {w W : World} {F : Nat → Prop} {R : List Res} {b gc gd : Nat} {m : RowsMK} {q : RowsML}
theorem Sts.wkOut {wk : Nat} {A : WA} {S : WS} (T : Sts w F W (wkL wk b A S ++ R)) : Sts w F W (rowR wk (wkC b A.bi A.bl A.bo A.vs A.vf A.vp A.vm) :: numR A.bi A.n1 S.ci S.ix :: numR A.bl A.n2 A.c2 S.lo :: bitR A.bo A.n3 A.c3 S.on :: vecR 35 2 A.vs S.st.length (vl IV S.st) :: frR A.vf S.fr :: paR A.vp S.pa :: vecR 35 2 A.vm S.mi.length (vl IV S.mi) :: R) := T
theorem Sts.wkFacts {wk : Nat} {A : WA} {S : WS} (T : Sts w F W (wkL wk b A S ++ R)) : row? W wk = some (wkC b A.bi A.bl A.bo A.vs A.vf A.vp A.vm) ∧ (∃ a c, A.vf = .slice a S.fr.length c) ∧ (∃ a c, A.vm = .slice a S.mi.length c) := by
  have T : Sts w F W (rowR wk (wkC b A.bi A.bl A.bo A.vs A.vf A.vp A.vm) :: numR A.bi A.n1 S.ci S.ix :: numR A.bl A.n2 A.c2 S.lo :: bitR A.bo A.n3 A.c3 S.on :: vecR 35 2 A.vs S.st.length (vl IV S.st) :: frR A.vf S.fr :: paR A.vp S.pa :: vecR 35 2 A.vm S.mi.length (vl IV S.mi) :: R) := T
  refine ⟨T.row, ?_, ?_⟩
  · obtain ⟨fv, h, T1⟩ := (T.ord [5, 0, 1, 2, 3, 4]).frOpen
    obtain ⟨a, c, hv⟩ := vec_shape2 T1
    exact ⟨a, c, by rw [hv, ← h, List.length_map]⟩
  · exact vec_shape2 (T.ord [7, 0, 1, 2, 3, 4, 5, 6])
theorem Sts.paNil {L : List Res} (T : Sts w F W L) : Sts w F W (paR (.slice none 0 0) [] :: L) :=
  Sts.paShut (pv := []) (T.vecNil 30 1)
theorem Sts.frNil {L : List Res} (T : Sts w F W L) : Sts w F W (frR (.slice none 0 0) [] :: L) :=
  Sts.frShut (fv := []) (T.vecNil 105 3)
theorem Sts.back {L M : List Res} {r : Res} (T : Sts w F W (L ++ (M ++ r :: R))) : Sts w F W (L ++ (M ++ R)) := by
  have T1 : Sts w F W (r :: ((L ++ M) ++ R)) := T.perm (by
    rw [← List.append_assoc]
    exact List.perm_middle)
  have T2 := T1.drop
  rw [List.append_assoc] at T2
  exact T2
set_option maxHeartbeats 16000000 in
theorem grOrderT {its : List Item} (hK : SortsTo its.length) (hK6 : its.length ≤ 100) (G : GInv m its) (hm : 0 ≤ m.n ∧ m.n ≤ 7) (hq : 0 ≤ q.n ∧ q.n ≤ 7) (x : Item)
    (T : Sts w F W (grL b gc gd m q ++ R)) :
    Calls Try.prog 13 #[.pointer (some ⟨b, 0, none⟩), .agg (IV x)] W fun e W' => ∃ vp vm P M, e = .returned (.tuple #[vp, vm]) ∧ OrdM m q its x P M ∧ Sts w F W' (paR vp P :: vecR 35 2 vm M.length (vl IV M) :: (grL b gc gd m q ++ R)) := by
  have T1 := T.new (IV x) 35
  have hr := T1.row; have hlt := row_lt hr
  have T1 : Sts w F (W.alloc (.cells (IV x) 35)) (rowR W.heap.size (IV x) :: rowR b #[.pointer (some ⟨gc, 0, none⟩), .pointer (some ⟨gd, 0, none⟩)] :: rowsIRK gc m :: rowsIRL gd q :: R) := T1
  have HT := Lib.hid (T1.ord [1, 2, 3, 0]); clear T1 T
  have HIS := Lib.hid (grIsR b gc gd m q hm x)
  have HOV := Lib.hid (grOverR b gc gd m q hq x)
  obtain ⟨is, his⟩ : ∃ v, v = (getMK m x).isSome := ⟨_, rfl⟩
  obtain ⟨ov, hov⟩ : ∃ v, v = (getML q x).isSome := ⟨_, rfl⟩
  rw [← his] at HIS
  rw [← hov] at HOV
  have HI := Lib.hid his; have HO := Lib.hid hov
  clear his hov
  go_enter Try.func13, Try.ntmps13
  go_wp2_with fail
  refine (HIS.out.at (R := rowR _ _ :: _) HT.out).mono ?_
  clear HIS hr hlt
  rintro e2 w2 ⟨rfl, hb⟩
  have T2 := HT.out.pure hb
  have hr := (T2.ord [3, 0, 1, 2]).row; have hlt := row_lt hr
  have HT2 := Lib.hid T2; clear T2 hb HT
  generalize W.heap.size = gx at *
  cases is
  case false =>
    go_wp2
    go_ret2
    exact ⟨_, _, [], [], rfl, .inl ⟨.inl HI.out.symm, rfl, rfl⟩, by
      have T9 := ((HT2.out.ord [3, 0, 1, 2]).drop.vecNil 35 2).paNil
      exact T9⟩
  case true =>
    go_wp2_with fail
    refine (HOV.out.at (R := rowR _ _ :: _) HT2.out).mono ?_
    clear HOV hr hlt
    rintro e3 w3 ⟨rfl, hb⟩
    have T3 := HT2.out.pure hb
    have HT := Lib.hid T3; clear T3 hb HT2
    cases ov
    case true =>
      go_wp2
      go_ret2
      exact ⟨_, _, [], [], rfl, .inl ⟨.inr HO.out.symm, rfl, rfl⟩, by
        have T9 := ((HT.out.ord [3, 0, 1, 2]).drop.vecNil 35 2).paNil
        exact T9⟩
    case false =>
      go_upto_region 4 with fail
      have T1 : Sts w F _ (numR _ 0 0 (fun _ => none) :: _) := HT.out.mapCNew (P := Try.prog) (k := 35) (kv := fun x : Item => Value.agg (IV x)) (ev := fun i : Int => Value.int .i64 i) (ok := InI)
      have T2 : Sts w F _ (numR _ 0 0 (fun _ => none) :: _) := T1.mapCNew (P := Try.prog) (k := 35) (kv := fun x : Item => Value.agg (IV x)) (ev := fun i : Int => Value.int .i64 i) (ok := InI)
      have T3 : Sts w F _ (bitR _ 0 0 (fun _ => none) :: _) := T2.mapCNew (P := Try.prog) (k := 35) (kv := fun x : Item => Value.agg (IV x)) (ev := fun i : Bool => Value.bool i) (ok := InI)
      simp only [World.size_alloc] at T3
      have T4 := T3.new (wkC b w3.heap.size (w3.heap.size + 1) (w3.heap.size + 1 + 1) (.slice none 0 0) (.slice none 0 0) (.slice none 0 0) (.slice none 0 0)) 82
      simp only [World.size_alloc] at T4
      have HT4 := Lib.hid T4
      clear T1 T2 T3 T4 HT
      generalize World.alloc _ _ = w4 at *
      generalize w3.heap.size + 1 + 1 + 1 = wk at *
      generalize w3.heap.size + 1 + 1 = bo at *
      generalize w3.heap.size + 1 = bl at *
      generalize w3.heap.size = bi at *
      have T5 := (HT4.out.vecNil 35 2).paNil.frNil.vecNil 35 2
      have T6 := T5.ord [4, 7, 6, 5, 0, 1, 2, 3, 8, 9, 10, 11]
      have HX : InI x := G.fits x (G.mem x HI.out.symm)
      have HP := Lib.hid (grPushT (R := rowR gx (IV x) :: R) (wk := wk) (N := 0) (A := ⟨bi, bl, bo, 0, 0, 0, 0, 0, .slice none 0 0, .slice none 0 0, .slice none 0 0, .slice none 0 0⟩) (S := noWS) ⟨Nat.le_refl _, Nat.le_refl _, Nat.le_refl _⟩ (by unfold maxLen; omega) (Nat.zero_le _) (Nat.zero_le _) hm hq x HX (fun i hi => G.deps x i hi) T6)
      have hr := (T6.ord [11, 0, 1, 2, 3, 4, 5, 6, 7, 8, 9, 10]).row; have hlt := row_lt hr
      clear T5 T6 HT4
      go_wp2_with fail
      refine HP.out.mono ?_
      clear HP hr hlt
      rintro e5 w5 ⟨rfl, A1, hA1, T⟩
      have T : Sts w F w5 (wkL wk b A1 (startM m q x) ++ (grL b gc gd m q ++ rowR gx (IV x) :: R)) := T
      have hx0 : x ∉ ([] : List Item) := by simp
      have hW0 : WInv m q its noWS [] := { nodup := List.nodup_nil, is := by simp, ix := by simp [noWS], ci := rfl, st := by simp [noWS], stn := List.nodup_nil, fr := List.Sublist.refl _, nx := by simp [noWS], pa := Nat.le_refl _ }
      have hW1 : WInv m q its (startM m q x) ([] ++ [x]) := hW0.push G HI.out.symm hx0
      have hmu1 : muS its.length (startM m q x) ≤ its.length * 450 := by
        have h1 := hW1.le G
        have h2 : (startM m q x).ci = 1 := rfl
        have h3 := push_mu (S := noWS) (q := q) (x := x) (K := its.length) G rfl (by show 0 + 1 ≤ _; omega)
        have h4 : muS its.length noWS = its.length * 450 := by unfold muS noWS muF; simp
        unfold startM
        omega
      have HT := Lib.hid T; have HW := Lib.hid hW1; have HMU := Lib.hid hmu1; have HA1 := Lib.hid hA1
      clear T hW0 hW1 hx0 hmu1 hA1
      go_wp2_with fail
      go_loopg [] (muS its.length (startM m q x)) (fun gk wr => ∃ (A : WA) (S : WS) (ps : List Item) (N : Nat), gk = muS its.length S ∧ WInv m q its S ps ∧ A.le N ∧ N + (its.length + 2) * muS its.length S ≤ (its.length + 2) * (its.length * 450) + 1 ∧ S.mi.length + muS its.length S ≤ its.length * 450 ∧ (∀ Z, Ends m q S Z → Ends m q (startM m q x) Z) ∧ Sts w F wr (wkL wk b A S ++ (grL b gc gd m q ++ rowR gx (IV x) :: R)))
      case atStart => exact ⟨A1, startM m q x, [] ++ [x], 0 + 1, rfl, HW.out, HA1.out, by have := Nat.mul_le_mul_left (its.length + 2) HMU.out; omega, by show 0 + _ ≤ _; have := HMU.out; omega, fun Z h => h, HT.out⟩
      case round =>
        clear HT HW HMU HA1
        obtain ⟨A, S, ps, N, hgk, hW, hA, hN, hmi, hZ, T⟩ := hrel
        obtain ⟨hr, ⟨av, cv, hvf⟩, ⟨am, cm, hvm⟩⟩ := T.wkFacts
        have hlt := row_lt hr
        obtain ⟨nf, hnf⟩ : ∃ nf, nf = S.fr.length := ⟨_, rfl⟩
        have c5 : wr.cell? ⟨wk, 5, none⟩ = some (.slice av nf cv) := by rw [row_cell hr 5, hnf, ← hvf]; rfl
        have HT := Lib.hid T; have HW := Lib.hid hW; have HA := Lib.hid hA; have HZ := Lib.hid hZ; have HGK := Lib.hid hgk; have HNN := Lib.hid hN; have HMI := Lib.hid hmi; have HVF := Lib.hid hvf; have HVM := Lib.hid hvm; have HNF := Lib.hid hnf
        clear T hW hA hZ hgk hN hmi hvf hvm hnf
        by_cases h0 : nf = 0
        · have h0' : ¬ (0 : Int) < (nf : Int) := by omega
          have h0'' : ¬ 0 < nf := by omega
          have hfr : S.fr = [] := List.eq_nil_of_length_eq_zero (by rw [← HNF.out]; exact h0)
          have HFR := Lib.hid hfr
          obtain ⟨nm, hnm⟩ : ∃ nm, nm = S.mi.length := ⟨_, rfl⟩
          have c7 : wr.cell? ⟨wk, 7, none⟩ = some (.slice am nm cm) := by rw [row_cell hr 7, hnm, ← HVM.out]; rfl
          have c6 : wr.cell? ⟨wk, 6, none⟩ = some A.vp := by rw [row_cell hr 6]; rfl
          have HNM := Lib.hid hnm
          clear hfr hnm
          by_cases h1 : nm = 0
          · have h1' : ¬ (0 : Int) < (nm : Int) := by omega
            have h1'' : ¬ 0 < nm := by omega
            generalize hvp : A.vp = vp at *
            have HVP := Lib.hid hvp; clear hvp
            go_wp2
            go_ret2
            have hmi0 : S.mi = [] := List.eq_nil_of_length_eq_zero (by rw [← HNM.out]; exact h1)
            refine ⟨_, _, rfl, S.pa, [], .inr ⟨⟨HI.out.symm, HO.out.symm⟩, S, ps, HZ.out S (Ends.done m q HFR.out), HFR.out, HW.out, fun h => absurd hmi0 h, fun _ => ⟨rfl, rfl⟩⟩, ?_⟩
            have T1 := HT.out.back.wkOut
            have T2 := (T1.ord [0, 1, 2, 3, 4, 5, 7, 6]).drop.drop.drop.drop.drop.drop.drop
            have T3 := (T2.vecNil 35 2).swap
            rw [HVP.out] at T3
            exact T3
          · have h1' : (0 : Int) < (nm : Int) := by omega
            have h1'' : 0 < nm := by omega
            have HT0 := Lib.hid HT.out.drew
            have S0 : (fun W' : World => W'.cell? ⟨wk, 7, none⟩ = some (.slice am nm cm)) wr.drew := by
              have h2 := HT0.out.wkFacts.1
              show wr.drew.cell? _ = _
              rw [row_cell h2 7, HNM.out, ← HVM.out]; rfl
            go_upto_region 8 with fail
            refine wp_region_held_drew (S := fun W' => W'.cell? ⟨wk, 7, none⟩ = some (.slice am nm cm)) (by kernel_rfl) S0 (fun hHeld => ?_)
            clear S0 HT
            refine tkH 0 rfl (v := ?_) ?_ ?_
            rotate_left
            · intro w h; (try dsimp only at h); go_simp; try with_reducible rfl
            simp only [Act.put, List.getElem_toArray, List.getElem_cons_zero, List.setIfInBounds_toArray, List.set_cons_zero, List.set_cons_succ]
            refine tkH 1 rfl (v := ?_) ?_ ?_
            rotate_left
            · intro w h; (try dsimp only at h); go_simp; try with_reducible rfl
            go_frame
            refine tkH 2 rfl (v := ?_) ?_ ?_
            rotate_left
            · intro w h; (try dsimp only at h); go_simp; try with_reducible rfl
            go_frame
            refine tkH 3 rfl (v := ?_) ?_ ?_
            rotate_left
            · intro w h; (try dsimp only at h); go_simp; try with_reducible rfl
            go_frame
            refine tkH 4 rfl (v := ?_) ?_ ?_
            rotate_left
            · intro w h; (try dsimp only at h); go_simp; try with_reducible rfl
            go_frame
            refine tkH 5 rfl (v := ?_) ?_ ?_
            rotate_left
            · intro w h; (try dsimp only at h); go_simp; try with_reducible rfl
            go_frame
            refine wpAnyH_done (by kernel_rfl) ?_ _
            try simp only [Exit.then]
            go_wp2
            go_ret2
            have hmi0 : S.mi ≠ [] := fun h => h1 (by rw [HNM.out, h]; rfl)
            refine ⟨_, _, rfl, [], S.mi, .inr ⟨⟨HI.out.symm, HO.out.symm⟩, S, ps, HZ.out S (Ends.done m q HFR.out), HFR.out, HW.out, fun _ => ⟨rfl, rfl⟩, fun h => absurd h hmi0⟩, ?_⟩
            have T1 := HT0.out.back.wkOut
            have T2 := (T1.ord [0, 1, 2, 3, 4, 5, 6, 7]).drop.drop.drop.drop.drop.drop.drop
            have T3 := T2.paNil
            rw [HVM.out, ← HNM.out] at T3
            rw [← HNM.out]
            exact T3
        · have h0' : (0 : Int) < (nf : Int) := by omega
          have h0'' : 0 < nf := by omega
          have hle := HW.out.le G
          have hpa := HW.out.pa
          have hmul : (its.length + 2) * (its.length * 450) ≤ 102 * (100 * 450) := Nat.mul_le_mul (by omega) (Nat.mul_le_mul_right _ hK6)
          have hNN := HNN.out
          have hMI := HMI.out
          have hmx : maxLen = 9223372036854775807 := rfl
          rcases List.eq_nil_or_concat S.fr with hfr | ⟨frs, ⟨x1, l1⟩, hfr⟩
          · exact absurd (by rw [HNF.out, hfr]; rfl) h0
          · rw [List.concat_eq_append] at hfr
            have hx1 : InI x1 := HW.out.fit G x1 (HW.out.top hfr)
            have hml : muF S.fr ≤ muS its.length S := Nat.le_add_left _ _
            have hfl0 := muF_len frs
            rw [hfr, muF_snoc] at hml
            cases l1 with
            | nil =>
              have HP := Lib.hid (grPopT (R := rowR gx (IV x) :: R) (K := its.length) (wk := wk) (N := N) (A := A) (S := S) hK (by omega) HA.out (by omega) (by omega) (by omega) hm hfr (by omega) (fun f hf => HW.out.fit G f.1 (HW.out.fr.subset (by rw [hfr]; simp; exact .inl ⟨_, hf⟩))) hx1 (HW.out.fit G) (idxN_lt.2 (HW.out.top hfr)) HT.out)
              have hmu := pop_mu (S := S) (m := m) (K := its.length) hfr
              have hmul2 : (its.length + 2) * muS its.length S = (its.length + 2) * muS its.length (popM m S frs x1) + (its.length + 2) := by rw [← hmu, Nat.mul_add, Nat.mul_one]
              have H1 := Lib.hid (show N + 1 + its.length + (its.length + 2) * muS its.length (popM m S frs x1) ≤ (its.length + 2) * (its.length * 450) + 1 by omega)
              have H2 := Lib.hid (show (popM m S frs x1).mi.length + muS its.length (popM m S frs x1) ≤ its.length * 450 by rw [pop_mi]; omega)
              have H3 := Lib.hid (show muS its.length (popM m S frs x1) < gk by rw [HGK.out]; omega)
              have HFR := Lib.hid hfr
              clear hle hpa hmul hNN hMI hmx hfr hx1 hml hfl0 hmu hmul2 HNN HMI
              go_wp2_with fail
              refine HP.out.mono ?_
              clear HP HT hr hlt c5
              rintro e6 w6 ⟨rfl, A', hA', T⟩
              have HT := Lib.hid T; have HA' := Lib.hid hA'; clear T hA'
              go_wp2
              go_roundg (muS its.length (popM m S frs x1))
              case measure => exact H3.out
              case rel => exact ⟨A', popM m S frs x1, ps, N + 1 + its.length, rfl, HW.out.pop HFR.out, HA'.out, H1.out, H2.out, fun Z h => HZ.out Z (Ends.pop HFR.out h), HT.out⟩
            | cons y l =>
              obtain ⟨ps', hW', hmu, hmi'⟩ := HW.out.next G hfr
              have hll : l.length + 1 + 1 ≤ muS its.length S := by simp at hml; omega
              have HP := Lib.hid (grNextT (R := rowR gx (IV x) :: R) (wk := wk) (N := N) (A := A) (S := S) HA.out (by omega) (by omega) (by omega) hm hq hfr (by omega) (by omega) hx1 (HW.out.nx (x1, y :: l) (by rw [hfr]; simp) y (by simp)) (fun i hi => G.deps y i hi) HT.out)
              have hmul2 : (its.length + 2) * (muS its.length (nextM m q S frs x1 y l) + 1) ≤ (its.length + 2) * muS its.length S := Nat.mul_le_mul_left _ hmu
              rw [Nat.mul_add, Nat.mul_one] at hmul2
              have H1 := Lib.hid (show N + 1 + (its.length + 2) * muS its.length (nextM m q S frs x1 y l) ≤ (its.length + 2) * (its.length * 450) + 1 by omega)
              have H2 := Lib.hid (show (nextM m q S frs x1 y l).mi.length + muS its.length (nextM m q S frs x1 y l) ≤ its.length * 450 by omega)
              have H3 := Lib.hid (show muS its.length (nextM m q S frs x1 y l) < gk by rw [HGK.out]; omega)
              have HFR := Lib.hid hfr; have HW' := Lib.hid hW'
              clear hle hpa hmul hNN hMI hmx hfr hx1 hml hfl0 hmu hmul2 HNN HMI hll hW' hmi'
              go_wp2_with fail
              refine HP.out.mono ?_
              clear HP HT hr hlt c5
              rintro e6 w6 ⟨rfl, A', hA', T⟩
              have HT := Lib.hid T; have HA' := Lib.hid hA'; clear T hA'
              go_wp2
              go_roundg (muS its.length (nextM m q S frs x1 y l))
              case measure => exact H3.out
              case rel => exact ⟨A', nextM m q S frs x1 y l, ps', N + 1, rfl, HW'.out, HA'.out, H1.out, H2.out, fun Z h => HZ.out Z (Ends.next HFR.out h), HT.out⟩
end
end Go.Proofs.Ytnjgjhjilolanaa
/- Layer 18, plain: a search's steps taken apart; the smallest one. -/
namespace Go.Proofs.Ytnjgjhjilolanaa
open Go.RowKit
set_option linter.unusedVariables false
section
variable {m : RowsMK} {q : RowsML} {S Z : WS} {frs : List (Item × List Item)} {x y : Item} {l : List Item}
theorem snoc_inj {α : Type} {a b : List α} {x y : α} (h : a ++ [x] = b ++ [y]) : a = b ∧ x = y := by
  have h1 := List.append_inj' h rfl
  exact ⟨h1.1, by simpa using h1.2⟩
theorem Ends.done_inv (h : S.fr = []) (e : Ends m q S Z) : Z = S := by
  obtain ⟨k, hk⟩ := e
  cases k with
  | zero => exact hk.2.symm
  | succ k =>
    rcases hk with ⟨frs, x, h1, _⟩ | ⟨frs, x, y, l, h1, _⟩ <;> rw [h] at h1 <;> simp at h1
theorem Ends.pop_inv (h : S.fr = frs ++ [(x, [])]) (e : Ends m q S Z) : Ends m q (popM m S frs x) Z := by
  obtain ⟨k, hk⟩ := e
  cases k with
  | zero => have := hk.1; rw [h] at this; simp at this
  | succ k =>
    rcases hk with ⟨frs', x', h1, h2⟩ | ⟨frs', x', y', l', h1, h2⟩
    · rw [h] at h1
      obtain ⟨rfl, h3⟩ := snoc_inj h1
      simp at h3
      subst h3
      exact ⟨k, h2⟩
    · rw [h] at h1
      obtain ⟨rfl, h3⟩ := snoc_inj h1
      simp at h3
theorem Ends.next_inv (h : S.fr = frs ++ [(x, y :: l)]) (e : Ends m q S Z) : Ends m q (nextM m q S frs x y l) Z := by
  obtain ⟨k, hk⟩ := e
  cases k with
  | zero => have := hk.1; rw [h] at this; simp at this
  | succ k =>
    rcases hk with ⟨frs', x', h1, h2⟩ | ⟨frs', x', y', l', h1, h2⟩
    · rw [h] at h1
      obtain ⟨rfl, h3⟩ := snoc_inj h1
      simp at h3
    · rw [h] at h1
      obtain ⟨rfl, h3⟩ := snoc_inj h1
      simp at h3
      obtain ⟨rfl, rfl, rfl⟩ := h3
      exact ⟨k, h2⟩
end
def itA : Item := ⟨noItem.rep, 1⟩
def itB : Item := ⟨1, 1⟩
def dpA : Nat → Int := fun i => if i = 1 then 1 else 0
def dpB : Nat → Int := fun i => if i = 0 then 1 else 0
def cA : Call := ⟨noCall.deed, dpA, noCall.seq⟩
def cB : Call := ⟨noCall.deed, dpB, noCall.seq⟩
theorem itAB : itA ≠ itB := by
  intro h
  have := congrArg Item.rep h
  simp [itA, itB, noItem] at this
theorem itemsA : itemsL dpA = [itB] := by kernel_rfl
theorem itemsB : itemsL dpB = [itA] := by kernel_rfl
theorem eqAB : eqA (IV itB) (IV itA) = false := eqA_no.2 fun h => itAB (IV_eq h).symm
theorem eqBA : eqA (IV itA) (IV itB) = false := eqA_no.2 fun h => itAB (IV_eq h)
theorem aliveB : ∃ m1 m2, comC ⟨3, fun _ => []⟩ itA cA = m1 ∧ comC m1 itB cB = m2 ∧ canC ⟨3, fun _ => []⟩ itA cA = true ∧ canC m1 itB cB = true ∧ GBld 3 2 m2 ⟨3, fun _ => []⟩ [itA, itB] [cA, cB] [] := by
  have h0 := GBld.new 3
  have c0 : canC ⟨3, fun _ => []⟩ itA cA = true := by
    rw [h0.can]
    have h1 : goodI itA 3 = true := by decide
    have h2 : goodD cA.deps 7 = true := by decide
    rw [h1, h2]
    simp [idxI]
  have h1 := h0.commit c0
  have c1 : canC (comC ⟨3, fun _ => []⟩ itA cA) itB cB = true := by
    rw [h1.can]
    have h1 : goodI itB 3 = true := by decide
    have h2 : goodD cB.deps 7 = true := by decide
    have h3 : idxN itB ([] ++ [itA]) = 1 := idxN_other (by simp) (fun h => itAB h.symm)
    rw [h1, h2]
    simp [idxI]
    have h4 : idxN itB [itA] = 1 := h3
    rw [h4]; decide
  exact ⟨_, _, rfl, rfl, c0, c1, h1.commit c1⟩
theorem alive_ord {m : RowsMK} {q : RowsML} (h : GBld 3 2 m q [itA, itB] [cA, cB] []) {P : List (List Item)} {M : List Item} (ho : OrdM m q [itA, itB] itA P M) : ∃ p : List Item, P = [p] ∧ p.length = 2 := by
  have ia : (getMK m itA).isSome = true := (h.is itA).2 (by simp)
  have ib : (getMK m itB).isSome = true := (h.is itB).2 (by simp)
  have ov : ∀ x, (getML q x).isSome = false := fun x => by
    cases hx : (getML q x).isSome with
    | false => rfl
    | true => have := (h.over x).1 hx; simp at this
  have na : idxN itA [itA, itB] = 0 := idxN_split (a := []) (c := [itB]) (by simp)
  have nb : idxN itB [itA, itB] = 1 := idxN_split (a := [itA]) (c := []) (by simp; exact fun h => itAB h.symm)
  have ga : getMK m itA = some cA := by rw [h.get, na]; rfl
  have gb : getMK m itB = some cB := by rw [h.get, nb]; rfl
  have wa : waitsM m q itA = [itB] := by
    unfold waitsM
    rw [ga]
    show (itemsL dpA).filter _ = _
    rw [itemsA]
    simp [waitB, eqAB, ov]
  have wb : waitsM m q itB = [itA] := by
    unfold waitsM
    rw [gb]
    show (itemsL dpB).filter _ = _
    rw [itemsB]
    simp [waitB, eqBA, ov]
  have pab : ∀ {β : Type} (f : Item → Option β) (v : β), putF f itA v itB = f itB := fun f v => putF_other f v (fun h => itAB h.symm)
  have pba : ∀ {β : Type} (f : Item → Option β) (v : β), putF f itB v itA = f itA := fun f v => putF_other f v itAB
  rcases ho with ⟨h1, _⟩ | ⟨_, Z, ps, hE, hfr, hW, h1, h2⟩
  · rw [ia, ov] at h1; simp at h1
  · have e0 : startM m q itA = ⟨putF (fun _ => none) itA 0, 1, putF (fun _ => none) itA 0, putF (fun _ => none) itA true, [itA], [] ++ [(itA, itB :: [])], [], []⟩ := by
      unfold startM pushM noWS; simp [wa]
    rw [e0] at hE
    have hE := hE.next_inv rfl
    have e1 : nextM m q ⟨putF (fun _ => none) itA 0, 1, putF (fun _ => none) itA 0, putF (fun _ => none) itA true, [itA], [] ++ [(itA, itB :: [])], [], []⟩ [] itA itB [] = ⟨putF (putF (fun _ => none) itA 0) itB 1, 2, putF (putF (fun _ => none) itA 0) itB 1, putF (putF (fun _ => none) itA true) itB true, [itA, itB], [(itA, [])] ++ [(itB, itA :: [])], [], []⟩ := by
      unfold nextM
      rw [if_pos ib]
      dsimp only
      rw [pab]
      unfold pushM
      simp only [pab, wb, Option.isSome_none, Bool.false_eq_true, if_false]
      rfl
    rw [e1] at hE
    have hE := hE.next_inv rfl
    have e2 : nextM m q ⟨putF (putF (fun _ => none) itA 0) itB 1, 2, putF (putF (fun _ => none) itA 0) itB 1, putF (putF (fun _ => none) itA true) itB true, [itA, itB], [(itA, [])] ++ [(itB, itA :: [])], [], []⟩ [(itA, [])] itB itA [] = ⟨putF (putF (fun _ => none) itA 0) itB 1, 2, putF (putF (putF (fun _ => none) itA 0) itB 1) itB 0, putF (putF (fun _ => none) itA true) itB true, [itA, itB], [(itA, [])] ++ [(itB, [])], [], []⟩ := by
      unfold nextM
      rw [if_pos ia]
      dsimp only
      have hx : putF (putF (fun _ => none) itA (0 : Int)) itB 1 itA = some 0 := by rw [pba, putF_same]
      rw [hx]
      dsimp only
      have hv : valB (putF (putF (fun _ => none) itA true) itB true) itA = true := by unfold valB; rw [pba, putF_same]; rfl
      rw [if_pos hv]
      have hn : valN (putF (putF (fun _ => none) itA (0 : Int)) itB 1) itB = 1 := by unfold valN; rw [putF_same]; rfl
      rw [hn]
      rfl
    rw [e2] at hE
    have hE := hE.pop_inv rfl
    have e3 : popM m ⟨putF (putF (fun _ => none) itA 0) itB 1, 2, putF (putF (putF (fun _ => none) itA 0) itB 1) itB 0, putF (putF (fun _ => none) itA true) itB true, [itA, itB], [(itA, [])] ++ [(itB, [])], [], []⟩ [(itA, [])] itB = ⟨putF (putF (fun _ => none) itA 0) itB 1, 2, putF (putF (putF (putF (fun _ => none) itA 0) itB 1) itB 0) itA 0, putF (putF (fun _ => none) itA true) itB true, [itA, itB], [] ++ [(itA, [])], [], []⟩ := by
      have hu : upM (putF (putF (putF (fun _ => none) itA (0 : Int)) itB 1) itB 0) [(itA, [])] itB = putF (putF (putF (putF (fun _ => none) itA 0) itB 1) itB 0) itA 0 := by
        have := upM_snoc (putF (putF (putF (fun _ => none) itA (0 : Int)) itB 1) itB 0) [] (itA, []) itB
        rw [List.nil_append] at this
        rw [this]
        have h1 : valN (putF (putF (putF (fun _ => none) itA (0 : Int)) itB 1) itB 0) itA = 0 := by unfold valN; rw [pba, pba, putF_same]; rfl
        have h2 : valN (putF (putF (putF (fun _ => none) itA (0 : Int)) itB 1) itB 0) itB = 0 := by unfold valN; rw [putF_same]; rfl
        dsimp only
        rw [h1, h2]
        rfl
      unfold popM
      dsimp only
      rw [hu]
      have h1 : valN (putF (putF (putF (putF (fun _ => none) itA (0 : Int)) itB 1) itB 0) itA 0) itB = 0 := by unfold valN; rw [pab, putF_same]; rfl
      have h2 : valN (putF (putF (fun _ => none) itA (0 : Int)) itB 1) itB = 1 := by unfold valN; rw [putF_same]; rfl
      rw [h1, h2, if_neg (by decide)]
      rfl
    rw [e3] at hE
    have hE := hE.pop_inv rfl
    have e4 : ∃ p : List Item, p.length = 2 ∧ (popM m ⟨putF (putF (fun _ => none) itA 0) itB 1, 2, putF (putF (putF (putF (fun _ => none) itA 0) itB 1) itB 0) itA 0, putF (putF (fun _ => none) itA true) itB true, [itA, itB], [] ++ [(itA, [])], [], []⟩ [] itA).pa = [p] ∧ (popM m ⟨putF (putF (fun _ => none) itA 0) itB 1, 2, putF (putF (putF (putF (fun _ => none) itA 0) itB 1) itB 0) itA 0, putF (putF (fun _ => none) itA true) itB true, [itA, itB], [] ++ [(itA, [])], [], []⟩ [] itA).fr = [] ∧ (popM m ⟨putF (putF (fun _ => none) itA 0) itB 1, 2, putF (putF (putF (putF (fun _ => none) itA 0) itB 1) itB 0) itA 0, putF (putF (fun _ => none) itA true) itB true, [itA, itB], [] ++ [(itA, [])], [], []⟩ [] itA).mi = [] := by
      unfold popM
      dsimp only
      rw [upM_nil]
      have h1 : valN (putF (putF (putF (putF (fun _ => none) itA (0 : Int)) itB 1) itB 0) itA 0) itA = 0 := by unfold valN; rw [putF_same]; rfl
      have h2 : valN (putF (putF (fun _ => none) itA (0 : Int)) itB 1) itA = 0 := by unfold valN; rw [pba, putF_same]; rfl
      rw [h1, h2, if_pos rfl]
      unfold partM
      dsimp only
      rw [na]
      exact ⟨_, sortM_length m _, rfl, rfl, rfl⟩
    obtain ⟨p, hp, hpa, hf, hmi⟩ := e4
    have hZ := hE.done_inv hf
    rw [hZ] at h2
    exact ⟨p, by rw [(h2 hmi).1, hpa], hp⟩
end Go.Proofs.Ytnjgjhjilolanaa
/- Layer 18: what the document tells of a graph's order, at its smallest. -/
namespace Go.Proofs.Ytnjgjhjilolanaa
open Go.RowKit Go.Shelf
set_option linter.unusedVariables false
set_option maxRecDepth 20000
attribute [local go_sem] Oper.semAt_some
attribute [local go_sem] row_alloc row_drew row_drewN row_ext row_setCell row_setRow size_ext setRow_alloc setRow_drew loadOf storeOf piece_lit loadVal_at storeVal_at allOne_lit buildOf buildRes_some
attribute [local go_sem high] cell_alloc frozen_alloc setCell_alloc cell_ext frozen_ext cell_setRow frozen_setRow
attribute [local go_sem ↓] TDeed_ld0 TDeed_st0 TDeed_fd0 TDeed_bd0
attribute [local go_sem] TDeed_size TDeed_one TDeed_piece TDeed_c0 TDeed_c1 TDeed_c2 TDeed_c3 TDeed_c4 TDeed_c5 TDeed_set_kind TDeed_set_key TDeed_set_val TDeed_set_ver TDeed_set_ses TDeed_set_num TDeed_ld TDeed_st TDeed_f_kind TDeed_f_key TDeed_f_val TDeed_f_ver TDeed_f_ses TDeed_f_num TDeed_bd TDeed_fl TDeed_fl_kind TDeed_fl_key TDeed_fl_val TDeed_fl_ver TDeed_fl_ses TDeed_fl_num
attribute [local go_sem high] TDeed_eql TDeed_neq
attribute [local go_sem ↓] index_deps0 load_deps0 store_deps0
attribute [local go_sem] DV_piece DV_size DV_one index_deps load_deps store_deps
attribute [local go_sem high] TDeps_eql TDeps_neq
attribute [local go_sem ↓] TCall_ld0 TCall_st0 TCall_fd0 TCall_bd0
attribute [local go_sem] TCall_size TCall_one TCall_piece TCall_c0 TCall_c1 TCall_c2 TCall_c3 TCall_c4 TCall_c5 TCall_c6 TCall_c7 TCall_c8 TCall_c9 TCall_c10 TCall_c11 TCall_c12 TCall_c13 TCall_p_deed TCall_put_deed TCall_p_deps TCall_put_deps TCall_set_seq TCall_ld TCall_st TCall_f_deed TCall_f_deps TCall_f_seq TCall_bd TCall_fl TCall_fl_deed TCall_fl_deps TCall_fl_seq
attribute [local go_sem high] TCall_eql TCall_neq
attribute [local go_sem ↓] TItem_ld0 TItem_st0 TItem_fd0 TItem_bd0
attribute [local go_sem] TItem_size TItem_one TItem_piece TItem_c0 TItem_c1 TItem_set_rep TItem_set_num TItem_ld TItem_st TItem_f_rep TItem_f_num TItem_bd TItem_fl TItem_fl_rep TItem_fl_num
attribute [local go_sem high] TItem_eql TItem_neq
theorem dps_build0 (p : Array (Nat × Value)) : Instr.build 45 p = buildS 45 p := rfl
theorem dps_buildA (w : World) : (buildS 45 #[(0, .int .i64 0), (1, .int .i64 1)]).run Try.prog w = .ok (.agg (DV dpA)) w := by kernel_rfl
theorem dps_buildB (w : World) : (buildS 45 #[(0, .int .i64 1)]).run Try.prog w = .ok (.agg (DV dpB)) w := by kernel_rfl
attribute [local go_sem ↓] dps_build0
attribute [local go_sem] dps_buildA dps_buildB
section
variable {w W : World} {R : List Res}
set_option maxHeartbeats 16000000 in
theorem alive18 (T : Sts w (fun _ => False) W R) :
    Calls Try.prog 10 #[] W fun e W' => e = .returned (.bool true) ∧ Sts w (fun _ => False) W' R := by
  have HNW := Lib.hid (grNewT 3 (by omega) T)
  clear T
  go_enter Try.func10, Try.ntmps10
  go_wp2_with fail
  refine HNW.out.mono ?_
  clear HNW
  rintro e1 w1 ⟨b, gc, gd, rfl, T⟩
  have T : Sts w (fun _ => False) w1 (grL b gc gd ⟨3, fun _ => []⟩ ⟨3, fun _ => []⟩ ++ R) := T
  have T2 := (T.new (IV ⟨noItem.rep, 1⟩) 35).new (IV ⟨1, 1⟩) 35
  have HT := Lib.hid T2
  clear T T2
  obtain ⟨m1, m2, hm1, hm2, c0, c1, hB⟩ := aliveB
  have HC0 := Lib.hid (grCommitD b gc gd ⟨3, fun _ => []⟩ ⟨3, fun _ => []⟩ (by dsimp only; omega) itA cA)
  have hmn : m1.n = 3 := by rw [← hm1, comC_yes c0, setMK_n]
  have HC1 := Lib.hid (grCommitD b gc gd m1 ⟨3, fun _ => []⟩ (by rw [hmn]; omega) itB cB)
  rw [c0, hm1] at HC0
  rw [c1, hm2] at HC1
  have HB := Lib.hid hB
  clear hm1 hm2 c0 c1 hB hmn
  have hrb := HT.out.row; have hra := HT.out.row1; have hlb := row_lt hrb; have hla := row_lt hra
  simp only [World.size_alloc] at hrb hlb hla HT
  go_wp2_with fail
  refine (Does.at (L := grL b gc gd _ _) (R := rowR _ _ :: _) HC0.out (by have T0 := HT.out.ord [2, 3, 4, 0, 1]; exact T0)).mono ?_
  clear HC0 HT hrb hra hlb hla
  rintro e2 w2 ⟨rfl, T⟩
  have T : Sts w (fun _ => False) w2 (rowR b #[.pointer (some ⟨gc, 0, none⟩), .pointer (some ⟨gd, 0, none⟩)] :: rowsIRK gc m1 :: rowsIRL gd ⟨3, fun _ => []⟩ :: rowR (w1.heap.size + 1) (IV ⟨1, 1⟩) :: rowR w1.heap.size (IV ⟨noItem.rep, 1⟩) :: R) := T
  have hrb := T.row3; have hra := (T.ord [4, 0, 1, 2, 3]).row; have hlb := row_lt hrb; have hla := row_lt hra
  have HT := Lib.hid T; clear T
  go_wp2_with fail
  refine (Does.at (L := grL b gc gd _ _) (R := rowR _ _ :: _) HC1.out HT.out).mono ?_
  clear HC1 HT hrb hra hlb hla
  rintro e3 w3 ⟨rfl, T⟩
  have T : Sts w (fun _ => False) w3 (rowR b #[.pointer (some ⟨gc, 0, none⟩), .pointer (some ⟨gd, 0, none⟩)] :: rowsIRK gc m2 :: rowsIRL gd ⟨3, fun _ => []⟩ :: rowR (w1.heap.size + 1) (IV ⟨1, 1⟩) :: rowR w1.heap.size (IV ⟨noItem.rep, 1⟩) :: R) := T
  have hrb := T.row3; have hra := (T.ord [4, 0, 1, 2, 3]).row; have hlb := row_lt hrb; have hla := row_lt hra
  have HO := Lib.hid (grOrderT (its := [itA, itB]) (R := rowR (w1.heap.size + 1) (IV ⟨1, 1⟩) :: rowR w1.heap.size (IV ⟨noItem.rep, 1⟩) :: R) (b := b) (gc := gc) (gd := gd) (m := m2) (q := ⟨3, fun _ => []⟩) (fun w W F R b gc gd g c m q d n h1 h2 h3 T => sorts12 w W F R b gc gd g c m q d n h1 (by simp at h2; omega) h3 T) (by simp) (HB.out.inv (by omega)) (by rw [HB.out.mn]; omega) (by dsimp only; omega) itA T)
  clear T
  go_wp2_with fail
  refine HO.out.mono ?_
  clear HO hrb hra hlb hla
  rintro e4 w4 ⟨vp, vm, P, M, rfl, hO, T⟩
  obtain ⟨p, rfl, hp⟩ := alive_ord HB.out hO
  obtain ⟨pv, hpv, T1⟩ := T.paOpen
  obtain ⟨⟨u, p'⟩, rfl, h2⟩ : ∃ f, pv = [f] ∧ f.2 = p := by
    match pv, hpv with
    | [f], h => simp at h; exact ⟨f, rfl, h⟩
  dsimp only at h2
  subst h2
  obtain ⟨g1, c1, hv, hl1, hc⟩ := vec_cell PV_size T1 (by omega) (show 0 < [(u, p')].length by simp)
  subst hv
  have hcell := hc 0 u rfl
  have T2 : Sts w (fun _ => False) w4 (vecR 35 2 u p'.length (vl IV p') :: _) := T1.drop
  obtain ⟨A2, c2, hu⟩ := vec_shape2 T2
  rw [hp] at hu
  subst hu
  have HT2 := Lib.hid T2
  clear T T1 T2 hc hpv hO HB
  simp only [Nat.zero_mul, Nat.add_zero] at hcell
  go_wp2
  go_ret
  refine ⟨rfl, ?_⟩
  have T3 : Sts w (fun _ => False) w4 (vecR 35 2 vm M.length (vl IV M) :: rowR b #[.pointer (some ⟨gc, 0, none⟩), .pointer (some ⟨gd, 0, none⟩)] :: rowsIRK gc m2 :: rowsIRL gd ⟨3, fun _ => []⟩ :: rowR (w1.heap.size + 1) (IV ⟨1, 1⟩) :: rowR w1.heap.size (IV ⟨noItem.rep, 1⟩) :: R) := HT2.out.drop
  exact T3.drop.drop.drop.drop.drop.drop
end
end Go.Proofs.Ytnjgjhjilolanaa
/- Layer 18: what is more than is played. -/
namespace Go.Proofs.Ytnjgjhjilolanaa
open Go.RowKit Go.Shelf
set_option linter.unusedVariables false
set_option maxRecDepth 20000
attribute [local go_sem] Oper.semAt_some
def greatG (n : Int) (k : Nat) : Bool := (decide (n ≠ 3) && decide (n ≠ 5) && decide (n ≠ 7)) || decide (25 < k)
theorem great18 (n : Int) (A : Option Addr) (k c : Nat) (hk : k ≤ 9223372036854775807) (w : World) : Calls Try.prog 11 #[.int .i64 n, .slice A k c] w fun e w' => e = .returned (.bool (greatG n k)) ∧ w' = w := by
  have hk' : (k : Int) ≤ 9223372036854775807 := by omega
  obtain ⟨v, hv⟩ : ∃ v, v = greatG n k := ⟨_, rfl⟩
  rw [← hv]
  have HV := Lib.hid hv; clear hv
  by_cases h25 : 25 < k
  · have h1 : (25 : Int) < (k : Int) := by omega
    have hv : v = true := by rw [HV.out, greatG, decide_eq_true h25, Bool.or_true]
    have HVV := Lib.hid hv; clear hv HV
    go_enter Try.func11, Try.ntmps11
    go_wp2
    all_goals (go_ret; refine ⟨?_, rfl⟩; rw [HVV.out]; try rfl; try simp)
  · have h1 : ¬ (25 : Int) < (k : Int) := by omega
    have hv : v = (decide (n ≠ 3) && decide (n ≠ 5) && decide (n ≠ 7)) := by rw [HV.out, greatG, decide_eq_false h25, Bool.or_false]
    have HVV := Lib.hid hv; clear hv HV
    by_cases h3 : n = 3
    · subst h3
      go_enter Try.func11, Try.ntmps11
      go_wp2
      go_ret; exact ⟨by rw [HVV.out]; rfl, rfl⟩
    · by_cases h5 : n = 5
      · subst h5
        go_enter Try.func11, Try.ntmps11
        go_wp2
        go_ret; exact ⟨by rw [HVV.out]; rfl, rfl⟩
      · by_cases h7 : n = 7
        · subst h7
          go_enter Try.func11, Try.ntmps11
          go_wp2
          go_ret; exact ⟨by rw [HVV.out]; rfl, rfl⟩
        · have b3 : (n == 3) = false := by simp [h3]
          have b5 : (n == 5) = false := by simp [h5]
          have b7 : (n == 7) = false := by simp [h7]
          have hvt : v = true := by rw [HVV.out]; simp [h3, h5, h7]
          have HVT := Lib.hid hvt; clear hvt
          go_enter Try.func11, Try.ntmps11
          go_wp2
          all_goals (go_ret; refine ⟨?_, rfl⟩; rw [HVT.out]; try rfl)
theorem great_no {n : Int} {k : Nat} (h : greatG n k = false) : (n = 3 ∨ n = 5 ∨ n = 7) ∧ k ≤ 25 := by
  unfold greatG at h
  simp at h
  constructor
  · by_cases h3 : n = 3
    · exact .inl h3
    · by_cases h5 : n = 5
      · exact .inr (.inl h5)
      · exact .inr (.inr (h.1 h3 h5))
  · omega
end Go.Proofs.Ytnjgjhjilolanaa
