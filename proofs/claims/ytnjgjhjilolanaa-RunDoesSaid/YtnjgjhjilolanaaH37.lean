/- Several texts in one. -/
import Derived.Test.YtnjgjhjilolanaaH36
import Derived.Test.YtnjgjhjilolanaaH34
import Derived.Test.YtnjgjhjilolanaaH30
import Derived.Test.YtnjgjhjilolanaaH3
import Derived.Test.YtnjgjhjilolanaaH4
/- Layer 18: what an item reaches, as the document finds it. -/
namespace Go.Proofs.Ytnjgjhjilolanaa
open Go.RowKit Go.Shelf
set_option linter.unusedVariables false
set_option maxRecDepth 20000
attribute [local go_sem] row_alloc row_drew row_drewN row_ext row_setCell row_setRow size_ext setRow_alloc setRow_drew loadOf storeOf piece_lit loadVal_at storeVal_at allOne_lit buildOf buildRes_some
attribute [local go_sem high] cell_alloc frozen_alloc setCell_alloc cell_ext frozen_ext cell_setRow frozen_setRow
attribute [local go_sem ↓] TDeed_ld0 TDeed_st0 TDeed_fd0 TDeed_bd0
attribute [local go_sem] TDeed_size TDeed_one TDeed_piece TDeed_c0 TDeed_c1 TDeed_c2 TDeed_c3 TDeed_c4 TDeed_c5 TDeed_set_kind TDeed_set_key TDeed_set_val TDeed_set_ver TDeed_set_ses TDeed_set_num TDeed_ld TDeed_st TDeed_f_kind TDeed_f_key TDeed_f_val TDeed_f_ver TDeed_f_ses TDeed_f_num TDeed_bd TDeed_fl TDeed_fl_kind TDeed_fl_key TDeed_fl_val TDeed_fl_ver TDeed_fl_ses TDeed_fl_num
attribute [local go_sem high] TDeed_eql TDeed_neq
attribute [local go_sem ↓] index_deps0 load_deps0 store_deps0
attribute [local go_sem] DV_piece DV_size DV_one index_deps load_deps store_deps
attribute [local go_sem high] TDeps_eql TDeps_neq
attribute [local go_sem ↓] TCall_ld0 TCall_st0 TCall_fd0 TCall_bd0
attribute [local go_sem] TCall_size TCall_one TCall_piece TCall_c0 TCall_c1 TCall_c2 TCall_c3 TCall_c4 TCall_c5 TCall_c6 TCall_c7 TCall_c8 TCall_c9 TCall_c10 TCall_c11 TCall_c12 TCall_c13 TCall_p_deed TCall_put_deed TCall_p_deps TCall_put_deps TCall_set_seq TCall_ld TCall_st TCall_f_deed TCall_f_deps TCall_f_seq TCall_bd TCall_fl TCall_fl_deed TCall_fl_deps TCall_fl_seq
attribute [local go_sem high] TCall_eql TCall_neq
attribute [local go_sem ↓] TItem_ld0 TItem_st0 TItem_fd0 TItem_bd0
attribute [local go_sem] TItem_size TItem_one TItem_piece TItem_c0 TItem_c1 TItem_set_rep TItem_set_num TItem_ld TItem_st TItem_f_rep TItem_f_num TItem_bd TItem_fl TItem_fl_rep TItem_fl_num
attribute [local go_sem high] TItem_eql TItem_neq
attribute [local go_sem ↓] itm_slice0
attribute [local go_sem] itm_slice1
structure DocOk (m : RowsMK) (q : RowsML) (items : List Item) (calls : List Call) (dn : List Item) : Prop where
  len : items.length ≤ 1000000
  lend : dn.length ≤ 1000000
  lc : calls.length = items.length
  get : ∀ x, getMK m x = calls[idxN x items]?
  ov : ∀ y, (getML q y).isSome = inB y dn
theorem frmI_pos {x y : Item} {k : Nat} {out : List Item} (hk : k ≠ 0) (hy : out[k - 1]? = some y) : frmI x k out = y := by
  unfold frmI
  rw [if_neg hk, hy]; rfl
/-- How far the items of a call have been gone over. -/
noncomputable def soFar (q : RowsML) (fr : Item) (d : Nat → Int) (r j : Nat) (out : List Item) : List Item := addL ((itemsTo d r ++ repL d r j).filter (waitB q fr)) out
theorem soFar_zero (q : RowsML) (fr : Item) (d : Nat → Int) (out : List Item) : soFar q fr d 0 0 out = out := rfl
theorem soFar_next (q : RowsML) (fr : Item) (d : Nat → Int) (r j : Nat) (out : List Item) : soFar q fr d r (j + 1) out = if waitB q fr ⟨(r : Int), (j : Int) + 1⟩ = true then addI (soFar q fr d r j out) ⟨(r : Int), (j : Int) + 1⟩ else soFar q fr d r j out := by
  unfold soFar
  rw [repL_succ, ← List.append_assoc, List.filter_append]
  by_cases h : waitB q fr ⟨(r : Int), (j : Int) + 1⟩ = true
  · rw [if_pos h, List.filter_cons_of_pos h, List.filter_nil, addL_snoc]
  · rw [if_neg h, List.filter_cons_of_neg h, List.filter_nil, List.append_nil]
theorem soFar_row (q : RowsML) (fr : Item) (d : Nat → Int) (r j : Nat) (out : List Item) (h : j = (d r).toNat) : soFar q fr d (r + 1) 0 out = soFar q fr d r j out := by
  subst h
  unfold soFar
  rw [itemsTo, show repL d (r + 1) 0 = [] from rfl, List.append_nil]
theorem soFar_end (m : RowsMK) (q : RowsML) (fr : Item) {c : Call} (h : getMK m fr = some c) (out : List Item) : soFar q fr c.deps 7 0 out = addL (waitsM m q fr) out := by
  unfold soFar waitsM
  rw [h, Option.getD_some, show repL c.deps 7 0 = [] from rfl, List.append_nil]
  rfl
theorem soFar_len {q : RowsML} {fr : Item} {d : Nat → Int} {r j : Nat} {out : List Item} (hn : out.Nodup) (ha : ∀ y ∈ out, y ∈ allIt) (hd : ∀ i, i < 7 → d i ≤ 64) (hr : r ≤ 7) (hj : r < 7 → j ≤ (d r).toNat) (hj7 : r = 7 → j = 0) : (soFar q fr d r j out).length ≤ 448 := by
  refine Nat.le_trans (nodup_len _ allIt (addL_nodup hn) fun y hy => ?_) allIt_len
  rcases addL_mem.1 hy with hy | hy
  · exact ha y hy
  · have hy := (List.mem_filter.1 hy).1
    rcases List.mem_append.1 hy with hy | hy
    · obtain ⟨r', h1, j', h2, rfl⟩ := (mem_itemsTo r).1 hy
      have := hd r' (by omega)
      exact (mem_itemsTo 7).2 ⟨r', by omega, j', by show j' < (64 : Int).toNat; omega, rfl⟩
    · by_cases e : r < 7
      · unfold repL at hy
        obtain ⟨j', h2, rfl⟩ := List.mem_map.1 hy
        have h2 := List.mem_range.1 h2
        have := hj e
        have := hd r e
        exact (mem_itemsTo 7).2 ⟨r, e, j', by show j' < (64 : Int).toNat; omega, rfl⟩
      · have : j = 0 := hj7 (by omega)
        subst this
        simp [repL] at hy
section
variable {w W : World} {F : Nat → Prop} {R : List Res}
theorem deps_at {gcs k cc : Nat} {vc : Value} {calls : List Call} (T : Sts w F W (vecR 47 14 vc calls.length (vl CV calls) :: R)) (hl : calls.length ≤ 1000000) {c : Call} (hc : calls[k]? = some c) : ∃ g cp, vc = .slice (some ⟨g, 0, none⟩) calls.length cp ∧ loadVal Try.prog 45 7 W (.pointer (some ⟨g, k * 14 + 6, none⟩)) = .ok (.agg (DV c.deps)) W := by
  obtain ⟨hk, rfl⟩ := List.getElem?_eq_some_iff.1 hc
  obtain ⟨A, cp, rfl, hA, -, h0⟩ := vec_rows TCall_size T (by omega) (by omega)
  cases A with
  | none => have := hA.nil rfl; rw [this] at hk; simp at hk
  | some a =>
    obtain ⟨g, rfl⟩ := h0 a rfl
    refine ⟨g, cp, rfl, ?_⟩
    rw [loadVal_at]
    refine hA.part (P := Try.prog) (T := 45) (Below.refl _ _) hk 6 7 (DV calls[k].deps) (fun i v hv => ?_) rfl Try.underlying45 rfl (by kernel_rfl)
    have hi : i < 7 := (Array.getElem?_eq_some_iff.1 hv).1
    rw [DV_get _ i hi] at hv
    rw [TCall_deps _ i hi]
    exact hv
/-- The document's things, where what is done is held in some way of its own. -/
def docX (g : Nat) (vi vc vd : Value) (items : List Item) (calls : List Call) (dX : Res) : List Res := [rowR g (docC vi vc vd), vecR 35 2 vi items.length (vl IV items), vecR 47 14 vc calls.length (vl CV calls), dX]
theorem Reads.docX {P : Program} {f : FuncId} {args : Array Value} {v vi vc vd : Value} {g : Nat} {items dn : List Item} {calls : List Call} {dX : Res} (h : Reads P f args (docL g vi vc vd items calls dn) v) (hX : ∀ F W, dX.sat F W → (vecR 35 2 vd dn.length (vl IV dn)).sat F W) : Reads P f args (docX g vi vc vd items calls dX) v := by
  rintro W G ⟨A1, B1, a1, ⟨A2, B2, a2, ⟨A3, B3, a3, ⟨A4, B4, a4, b4, d4, f4⟩, d3, f3⟩, d2, f2⟩, d1, f1⟩
  exact h W G ⟨A1, B1, a1, ⟨A2, B2, a2, ⟨A3, B3, a3, ⟨A4, B4, hX A4 W a4, b4, d4, f4⟩, d3, f3⟩, d2, f2⟩, d1, f1⟩
set_option maxHeartbeats 16000000 in
theorem docReachX {m : RowsMK} {q : RowsML} {its : List Item} (G : GInv m its) (g : Nat) (vi vc vd : Value) (items : List Item) (calls : List Call) (dn : List Item) {dX : Res} (hX : ∀ F W, dX.sat F W → (vecR 35 2 vd dn.length (vl IV dn)).sat F W) (hD : DocOk m q items calls dn) (x : Item)
    (T : Sts w F W (docX g vi vc vd items calls dX ++ R)) :
    Calls Try.prog 20 #[.pointer (some ⟨g, 0, none⟩), .agg (IV x)] W fun e W' => ∃ v, e = .returned v ∧ Sts w F W' (vecR 35 2 v (reachL m q x).length (vl IV (reachL m q x)) :: (docX g vi vc vd items calls dX ++ R)) := by
  have T1 : Sts w F W (rowR g (docC vi vc vd) :: vecR 35 2 vi items.length (vl IV items) :: vecR 47 14 vc calls.length (vl CV calls) :: dX :: R) := T
  have T2 := (T1.new (IV x) 35).vecNil 35 2
  have HT := Lib.hid T2; have HD := Lib.hid hD; have HG := Lib.hid G
  clear T T1 T2 hD G
  obtain ⟨i0, hi, hz0, hz1, hz2⟩ := itm_i
  have hr := HT.out.row1; have hlt := row_lt hr
  go_enter Try.func20, Try.ntmps20
  go_wp2_with fail
  generalize W.alloc _ = w1 at *
  generalize W.heap.size = gx at *
  go_loopw [5, 6] (fun u5 u6 wr => ∃ (k n : Nat) (kk : Int) (out : List Item), u6 = .int .i64 kk ∧ kk = (k : Int) - 1 ∧ n + k = 450 ∧ RInv m q x k out ∧ rchF m q x n k out = reachL m q x ∧ Sts w F wr (vecR 35 2 u5 out.length (vl IV out) :: rowR gx (IV x) :: rowR g (docC vi vc vd) :: vecR 35 2 vi items.length (vl IV items) :: vecR 47 14 vc calls.length (vl CV calls) :: dX :: R)) (fun _ u6 _ => 450 - (intOf u6 + 1).toNat)
  case atStart => exact ⟨0, 450, -1, [], rfl, by omega, rfl, .start, rfl, HT.out⟩
  case round =>
    clear HT hr hlt
    obtain ⟨k, n, kk, out, hrel⟩ := hrel
    obtain ⟨rfl, hkk, hn, hI, hF, T⟩ := hrel
    obtain ⟨Ao, co, rfl⟩ := vec_shape2 T
    have hol := hI.len
    have HI := Lib.hid hI; have HF := Lib.hid hF; have HKK := Lib.hid hkk; have HN := Lib.hid hn; clear hI hF
    by_cases hk : k ≤ out.length
    · have hk1 : kk < (out.length : Int) := by omega
      clear hkk hn
      have rx := T.row1; have lx := row_lt rx
      have T2 := T.new (IV x) 35
      have HT := Lib.hid T2
      clear T
      go_upto_if 21 with fail
      generalize wr.alloc _ = w2 at *
      generalize wr.heap.size = gf at *
      have HK1 := Lib.hid hk1; have HOL := Lib.hid hol
      clear rx lx hk1
      go_cut [] (fun wx => Sts w F wx (rowR gf (IV (frmI x k out)) :: vecR 35 2 (.slice Ao out.length co) out.length (vl IV out) :: rowR gx (IV x) :: rowR g (docC vi vc vd) :: vecR 35 2 vi items.length (vl IV items) :: vecR 47 14 vc calls.length (vl CV calls) :: dX :: R))
      case first =>
        by_cases h0 : 0 ≤ kk
        · have hk1 := HK1.out
          obtain ⟨y, hy⟩ : ∃ y, out[kk.toNat]? = some y := ⟨out[kk.toNat]'(by omega), List.getElem?_eq_getElem _⟩
          obtain ⟨gi, rfl, hld⟩ := vec_load (P := Try.prog) (e := 35) TItem_size (by omega) TItem_und rfl (by kernel_rfl) (HT.out.ord [1, 0]) rfl hy (by omega)
          have rf := HT.out.row; have lf := row_lt rf
          have T3 := HT.out.setRow (IV y)
          have hf : frmI x k out = y := frmI_pos (by have := HKK.out; omega) (by have := HKK.out; rw [show k - 1 = kk.toNat by omega]; exact hy)
          have HT3 := Lib.hid T3; have HFI := Lib.hid hf
          clear T3 hf hy hk
          go_wp2_with fail
          go_meet
          case rel => rw [HFI.out]; exact HT3.out
        · have hk0 : k = 0 := by have := HKK.out; omega
          have HK0 := Lib.hid hk0; clear hk0 hk
          go_wp2_with fail
          go_meet
          case rel => rw [HK0.out]; exact HT.out
      case rest =>
        clear HT
        have T := hcut
        have hn1 : ∃ n', n = n' + 1 := ⟨n - 1, by have := HN.out; omega⟩
        obtain ⟨n', rfl⟩ := hn1
        have hstep := HI.out.step HG.out hk
        have hF2 := HF.out
        rw [rchF, if_pos hk] at hF2
        generalize hfr : frmI x k out = fr at *
        have HST := Lib.hid hstep; have HF2 := Lib.hid hF2; have HK := Lib.hid hk
        have HAT := Lib.hid ((docAtR g vi vc vd items calls dn HD.out.len fr).docX hX)
        obtain ⟨ai, hai⟩ : ∃ v, v = idxI fr items := ⟨_, rfl⟩
        rw [← hai] at HAT
        have HAI := Lib.hid hai
        have rf := T.row; have lf := row_lt rf
        have HT := Lib.hid T
        clear hcut T hfr hstep hF2 hk hai HF
        go_wp2_with fail
        refine (HAT.out.at (R := rowR gf (IV fr) :: _) (by have T0 := HT.out.ord [3, 4, 5, 6, 0, 1, 2]; exact T0)).mono ?_
        clear HAT rf lf
        rintro e8 w8 ⟨rfl, hb⟩
        have T := HT.out.pure hb
        clear HT hb
        by_cases hneg : ai < 0
        · have hnone : getMK m fr = none := by
            rw [HD.out.get]
            refine List.getElem?_eq_none ?_
            have h := HAI.out
            have := HD.out.lc
            unfold idxI at h
            split at h <;> omega
          have hw : waitsM m q fr = [] := waits_none (by rw [hnone]; rfl)
          have h1 := HST.out; have h2 := HF2.out
          rw [hw] at h1 h2
          have H1 := Lib.hid h1; have H2 := Lib.hid h2; have HT := Lib.hid T.drop
          have hw2 : IntKind.i64.wrap (kk + 1) = kk + 1 := by rw [IntKind.wrap_i64] <;> (have := HKK.out; have := HOL.out; have := HK.out; omega)
          clear hnone hw h1 h2 T
          go_wp2_with fail
          go_roundw
          case rel => exact ⟨k + 1, n', kk + 1, out, rfl, by have := HKK.out; omega, by have := HN.out; omega, H1.out, H2.out, HT.out⟩
          case measure => simp [intOf]; have := HKK.out; have := HN.out; omega
        · obtain ⟨ki, hki⟩ : ∃ ki : Nat, ai = (ki : Int) := ⟨ai.toNat, by omega⟩
          obtain ⟨c, hc⟩ : ∃ c, calls[ki]? = some c ∧ getMK m fr = some c := by
            have h := HAI.out
            have hlc := HD.out.lc
            have hget := HD.out.get fr
            unfold idxI at h
            split at h
            · rename_i hlt
              have e : ki = idxN fr items := by omega
              rw [hget, ← e]
              have hk : ki < calls.length := by omega
              exact ⟨calls[ki], List.getElem?_eq_getElem hk, List.getElem?_eq_getElem hk⟩
            · omega
          obtain ⟨hc, hgc⟩ := hc
          obtain ⟨gcs, cc, rfl, hld⟩ := deps_at (gcs := 0) (cc := 0) (T.ord [5, 0, 1, 2, 3, 4, 6]) (by rw [HD.out.lc]; exact HD.out.len) hc
          have hkl := (List.getElem?_eq_some_iff.1 hc).1
          have hkl1 : (ki : Int) < (calls.length : Int) := by omega
          have hkl0 : (0 : Int) ≤ (ki : Int) := by omega
          subst hki
          have T2 := T.new (DV c.deps) 45
          have rg := (T.ord [3, 0, 1, 2]).row; have lg := row_lt rg
          have cg : w8.cell? ⟨g, 1, none⟩ = some (.slice (some ⟨gcs, 0, none⟩) calls.length cc) := by rw [row_cell rg 1]; rfl
          have hde : addL (waitsM m q fr) out = soFar q fr c.deps 7 0 out := (soFar_end m q fr hgc out).symm
          have hd64 : ∀ i, i < 7 → c.deps i ≤ 64 := fun i hi => by have := HG.out.deps fr i hi; rw [hgc] at this; exact this
          have hst := HST.out; have hf2 := HF2.out
          rw [hde] at hst hf2
          have HT := Lib.hid T2; have HST2 := Lib.hid hst; have HF3 := Lib.hid hf2; have H64 := Lib.hid hd64; have HGC := Lib.hid hgc
          clear T T2 hc hst hf2 hde hd64 hgc HST HF2
          go_upto_region 11 with fail
          generalize w8.alloc _ = w9 at *
          generalize w8.heap.size = gd at *
          clear hld rg lg cg hkl hkl1 hkl0
          go_wp2_with fail
          go_loopw [5, 10] (fun u5 u10 wx => ∃ (r : Nat) (o1 : List Item), u10 = .int .i64 r ∧ r ≤ 7 ∧ o1 = soFar q fr c.deps r 0 out ∧ Sts w F wx (vecR 35 2 u5 o1.length (vl IV o1) :: rowR gd (DV c.deps) :: rowR gf (IV fr) :: rowR gx (IV x) :: rowR g (docC vi (.slice (some ⟨gcs, 0, none⟩) calls.length cc) vd) :: vecR 35 2 vi items.length (vl IV items) :: vecR 47 14 (.slice (some ⟨gcs, 0, none⟩) calls.length cc) calls.length (vl CV calls) :: dX :: R)) (fun _ u10 _ => 7 - (intOf u10).toNat)
          case atStart => exact ⟨0, out, rfl, by omega, (soFar_zero q fr c.deps out).symm, HT.out.ord [2, 0, 1, 3]⟩
          case round =>
            clear HT
            obtain ⟨r, o1, hrel⟩ := hrel
            obtain ⟨rfl, hr7, ho1, T⟩ := hrel
            by_cases hr : r < 7
            · have hr1 : (r : Int) < 7 := by omega
              have hr0 : (0 : Int) ≤ (r : Int) := by omega
              have HT := Lib.hid T; have HO1 := Lib.hid ho1
              clear T ho1
              go_wp2_with fail
              go_loopw [5, 11] (fun u5 u11 wy => ∃ (j : Nat) (o2 : List Item), u11 = .int .i64 ((j : Int) + 1) ∧ j ≤ (c.deps r).toNat ∧ o2 = soFar q fr c.deps r j out ∧ Sts w F wy (vecR 35 2 u5 o2.length (vl IV o2) :: rowR gd (DV c.deps) :: rowR gf (IV fr) :: rowR gx (IV x) :: rowR g (docC vi (.slice (some ⟨gcs, 0, none⟩) calls.length cc) vd) :: vecR 35 2 vi items.length (vl IV items) :: vecR 47 14 (.slice (some ⟨gcs, 0, none⟩) calls.length cc) calls.length (vl CV calls) :: dX :: R)) (fun _ u11 _ => (c.deps r).toNat + 1 - (intOf u11).toNat)
              case atStart => exact ⟨0, o1, by go_num, by omega, HO1.out, HT.out⟩
              case round =>
                clear HT
                obtain ⟨j, o2, hrel⟩ := hrel
                obtain ⟨rfl, hj, ho2, T⟩ := hrel
                have h64 := H64.out r hr
                have hol2 : o2.length ≤ 448 := by rw [ho2]; exact soFar_len HI.out.nd HI.out.all H64.out (by omega) (fun _ => hj) (by omega)
                have rd := T.row1; have ld := row_lt rd; have cd := row_cell rd r
                rw [DV_get c.deps r hr] at cd
                have HO2 := Lib.hid ho2
                clear ho2
                by_cases hjd : j < (c.deps r).toNat
                · have hjd1 : (j : Int) + 1 ≤ c.deps r := by omega
                  have hw3 : IntKind.i64.wrap ((j : Int) + 1 + 1) = ((j + 1 : Nat) : Int) + 1 := by rw [IntKind.wrap_i64] <;> omega
                  have hnext := soFar_next q fr c.deps r j out
                  rw [← HO2.out] at hnext
                  have hIVy : #[.int .i64 (r : Int), .int .i64 ((j : Int) + 1)] = IV ⟨(r : Int), (j : Int) + 1⟩ := rfl
                  have T2 := T.new (IV ⟨(r : Int), (j : Int) + 1⟩) 35
                  have HT := Lib.hid T2; have HNX := Lib.hid hnext; have HIV := Lib.hid hIVy
                  clear T T2 hnext hIVy
                  go_upto_region 18 with fail
                  generalize (⟨(r : Int), (j : Int) + 1⟩ : Item) = y at *
                  generalize wr.alloc _ = w10 at *
                  generalize wr.heap.size = gy at *
                  have ry := HT.out.row; have ly := row_lt ry
                  have rf := (HT.out.ord [3, 0, 1, 2]).row; have lf := row_lt rf
                  have HOV := Lib.hid ((docOverR g vi (.slice (some ⟨gcs, 0, none⟩) calls.length cc) vd items calls dn HD.out.lend y).docX hX)
                  rw [show decide (idxN y dn < dn.length) = inB y dn from rfl] at HOV
                  have hwb : waitB q fr y = ((!eqA (IV y) (IV fr)) && (!inB y dn)) := by unfold waitB; rw [HD.out.ov y]
                  rw [hwb] at HNX
                  clear hwb
                  cases heq : eqA (IV y) (IV fr)
                  case true =>
                    rw [heq] at HNX
                    clear HOV
                    have hnx := HNX.out
                    rw [if_neg (by simp)] at hnx
                    have HN2 := Lib.hid hnx
                    clear hnx HNX
                    go_wp2_with fail
                    go_roundw
                    case rel => exact ⟨j + 1, o2, by go_num, by omega, HN2.out.symm, HT.out.drop⟩
                    case measure => simp [intOf]; omega
                  case false =>
                    rw [heq] at HNX
                    generalize inB y dn = ov at *
                    go_wp2_with fail
                    refine (HOV.out.at (R := rowR gy (IV y) :: _) (by have T0 := HT.out.ord [5, 6, 7, 8, 0, 1, 2, 3, 4]; exact T0)).mono ?_
                    clear HOV ry ly rf lf
                    rintro e11 w11 ⟨rfl, hb⟩
                    have T := HT.out.pure hb
                    have ry := T.row; have ly := row_lt ry
                    have rf := (T.ord [3, 0, 1, 2]).row; have lf := row_lt rf
                    clear HT hb
                    have HT := Lib.hid T
                    clear T
                    cases ov
                    case true =>
                      have hnx := HNX.out
                      rw [if_neg (by simp)] at hnx
                      have HN2 := Lib.hid hnx
                      clear hnx HNX
                      go_wp2_with fail
                      go_roundw
                      case rel => exact ⟨j + 1, o2, by go_num, by omega, HN2.out.symm, HT.out.drop⟩
                      case measure => simp [intOf]; omega
                    case false =>
                      obtain ⟨Ao2, co2, rfl⟩ := vec_shape2 (HT.out.ord [1, 0])
                      have HHS := Lib.hid (docHasR (.slice Ao2 o2.length co2) o2 (by omega) y)
                      have hai : addI o2 y = if inB y o2 = true then o2 else o2 ++ [y] := rfl
                      rw [hai] at HNX
                      clear hai
                      generalize inB y o2 = hs at *
                      go_wp2_with fail
                      refine (HHS.out.at1 (by have T0 := HT.out.ord [1, 0]; exact T0)).mono ?_
                      clear HHS ry ly rf lf
                      rintro e12 w12 ⟨rfl, hb⟩
                      have T := HT.out.pure hb
                      have ry := T.row; have ly := row_lt ry
                      have rf := (T.ord [3, 0, 1, 2]).row; have lf := row_lt rf
                      have rd := (T.ord [2, 0, 1, 3]).row; have ld := row_lt rd
                      clear HT hb
                      have HT := Lib.hid T
                      clear T
                      cases hs
                      case true =>
                        have hnx := HNX.out
                        rw [if_pos rfl, if_pos (by decide)] at hnx
                        have HN2 := Lib.hid hnx
                        clear hnx HNX
                        go_wp2_with fail
                        go_roundw
                        case rel => exact ⟨j + 1, o2, by go_num, by omega, HN2.out.symm, HT.out.drop⟩
                        case measure => simp [intOf]; omega
                      case false =>
                        have HR := Lib.hid (Ans.of_eq (rhas_any c.deps r ((j : Int) + 1)) (show Value.bool (hasD c.deps r ((j : Int) + 1)) = .bool true by unfold hasD; rw [decide_eq_true]; exact ⟨by omega, by omega, by omega, by rw [Int.toNat_natCast]; omega⟩))
                        rw [HIV.out] at HR
                        go_wp2_with fail
                        refine (Ans.at HR.out HT.out).mono ?_
                        clear HR ry ly rf lf rd ld HT
                        rintro e13 w13 ⟨rfl, T⟩
                        have ry := T.row; have ly := row_lt ry
                        have TA := T.new (IV y) 35
                        have hnw := Lib.hid (news_row TA.row)
                        have TA := Lib.hid (TA.ord [2, 0, 1, 3])
                        have h63 : o2.length + 1 ≤ maxLen := by unfold maxLen; omega
                        have hby : (o2.length + 1) * 16 ≤ 140737488355328 := by omega
                        have HOK := Lib.hid (itm_one y)
                        clear T
                        go_wp2_with (at_builtin; refine wpList_append_vec rfl _ _ 30 rfl 35 i0 (.agg (IV noItem)) 2 16 Try.underlying30 hi hz0 hz1 hz2 rfl (by decide) _ _ _ rfl TA.out ⟨_, 0, none⟩ 1 1 (IV y).toList rfl rfl hnw.out HOK.out ?c3 ?c4 ?_)
                        case c3 => exact h63
                        case c4 => exact hby
                        intro v14 w14 T14
                        obtain ⟨A14, c14, rfl⟩ := vec_shape2 T14
                        rw [show o2.length + 1 = (o2 ++ [y]).length by simp, show vl IV o2 ++ (IV y).toList = vl IV (o2 ++ [y]) from (vl_snoc IV o2 y).symm] at T14
                        have T15 := (T14.ord [1, 2, 0]).drop.drop
                        have HT := Lib.hid T15
                        have hnx := HNX.out
                        rw [if_pos (by decide), if_neg (by simp)] at hnx
                        have HN2 := Lib.hid hnx
                        have hl1 : o2.length + 1 = (o2 ++ [y]).length := by simp
                        clear TA hnw ry ly h63 hby T14 T15 hnx HNX
                        rw [hl1]
                        clear hl1
                        go_wp2_with fail
                        go_roundw
                        case rel => exact ⟨j + 1, o2 ++ [y], by go_num, by omega, HN2.out.symm, HT.out⟩
                        case measure => simp [intOf]; omega
                · have hjd1 : ¬ (j : Int) + 1 ≤ c.deps r := by omega
                  have hj2 : j = (c.deps r).toNat := by omega
                  have hro := soFar_row q fr c.deps r j out hj2
                  rw [← HO2.out] at hro
                  have HRO := Lib.hid hro; have HT := Lib.hid T
                  clear T hro
                  go_wp2_with fail
                  go_roundw
                  case rel => exact ⟨r + 1, o2, by go_num, by omega, HRO.out.symm, HT.out⟩
                  case measure => simp [intOf]; omega
            · have hr1 : ¬ (r : Int) < 7 := by omega
              obtain rfl : r = 7 := by omega
              have HT := Lib.hid (T.ord [1, 2, 0]).drop.drop; have HO1 := Lib.hid ho1
              have hw2 : IntKind.i64.wrap (kk + 1) = kk + 1 := by rw [IntKind.wrap_i64] <;> (have := HKK.out; have := HOL.out; have := HK.out; omega)
              clear T ho1
              go_wp2_with fail
              go_roundw
              case rel => exact ⟨k + 1, n', kk + 1, o1, rfl, by have := HKK.out; omega, by have := HN.out; omega, by rw [HO1.out]; exact HST2.out, by rw [HO1.out]; exact HF3.out, HT.out⟩
              case measure => simp [intOf]; have := HKK.out; have := HN.out; omega
    · have hk1 : ¬ kk < (out.length : Int) := by omega
      have hr1 := HF.out
      rw [rchF_end n k out (by omega)] at hr1
      have HR1 := Lib.hid hr1; have HT := Lib.hid T
      clear T hr1 hkk hn
      go_wp2_with fail
      go_ret
      refine ⟨_, rfl, ?_⟩
      rw [← HR1.out]
      have T9 := (HT.out.ord [1, 0]).drop
      exact T9
theorem docReachT {m : RowsMK} {q : RowsML} {its : List Item} (G : GInv m its) (g : Nat) (vi vc vd : Value) (items : List Item) (calls : List Call) (dn : List Item) (hD : DocOk m q items calls dn) (x : Item)
    (T : Sts w F W (docL g vi vc vd items calls dn ++ R)) :
    Calls Try.prog 20 #[.pointer (some ⟨g, 0, none⟩), .agg (IV x)] W fun e W' => ∃ v, e = .returned v ∧ Sts w F W' (vecR 35 2 v (reachL m q x).length (vl IV (reachL m q x)) :: (docL g vi vc vd items calls dn ++ R)) :=
  docReachX G g vi vc vd items calls dn (fun _ _ h => h) hD x T
end
end Go.Proofs.Ytnjgjhjilolanaa
/- append of a slice that comes in to a slice of the call's own. Nothing of the program stands here. -/
namespace Go.Proofs.Ytnjgjhjilolanaa
open Go.RowKit
set_option linter.unusedVariables false
theorem addr_add' (a : Addr) (o i : Nat) : (a.add o).add i = a.add (o + i) := by
  cases a
  unfold Addr.add
  by_cases h : o = 0
  · simp [h]
  · by_cases h2 : i = 0
    · simp [h2]
    · simp [h, h2, Nat.add_assoc]
section
variable {P : Program} {w W : World} {F : Nat → Prop} {R : List Res}
/-- append of nothing. -/
theorem run_append_none (W : World) (t ty e : TypeId) (i : TypeInfo) (ht : P.underlying t = some (.slice e)) (hi : P.info? e = some i) (b : Option Addr) (n cap c : Nat) (A : Option Addr) (hn : n ≤ cap) :
    (Builtin.append_ #[t, t] ty #[.slice b n cap, .slice A 0 c]).run P W = .ok (.slice b n cap) W := by
  have hz : ∀ size, (Builtin.firstCells size 0 (.slice A 0 c)).run P W = .ok #[] W := fun size => by
    cases A with
    | none => rfl
    | some a => simp [Builtin.firstCells, loadCells, loadCellsFrom]
  have hst : ∀ a : Addr, (storeCells a ([] : List Value)).run P W = .ok () W := fun a => by simp [storeCells]
  unfold Builtin.append_
  cases b <;> simp [Sem.run_bind, run_underlying ht W, sizeOf, typeInfo, hi, Builtin.lenOf, hn, hz, hst]
theorem step_append_in {α : Type} {V : α → Array Value} {ops : Array Oper} {o : Oper} {a : Act} {K : Act → World → Prop} {Q : Exit → Act → World → Prop} {E : Prop} (hgd : o.guard = none) (s x : Operand) (t : TypeId)
    (ho : o.op = .call { callee := .builtin .append, args := #[s, x], argTypes := #[t, t] })
    (e : TypeId) (i : TypeInfo) (z : Value) (size bytes : Nat) (ht : P.underlying t = some (.slice e)) (hi : P.info? e = some i) (hz : i.zero = some z)
    (hsize : i.size = size) (hby : i.bytes = bytes) (hzs : z.cells.size = size) (hsz : 0 < size)
    (g0 c0 n : Nat) (xs : List Value) (hs : a.eval s = .slice (some ⟨g0, 0, none⟩) n c0) (T : Sts w F W (vecR e size (.slice (some ⟨g0, 0, none⟩) n c0) n xs :: R))
    (A : Option Addr) (c : Nat) (l : List α) {w0 : World} (hx : a.eval x = .slice A l.length c) (hr : RowsIn w0 A size V l) (hb : Below w0.heap.size w0 W) (hV : ∀ x, (V x).size = size) (h1 : ∀ x ∈ l, ∀ u ∈ (V x).toList, u.oneCell' = true)
    (h63 : n + l.length ≤ maxLen) (hbytes : (n + l.length) * bytes ≤ 140737488355328)
    (h : ∀ g cap w', Sts w F w' (vecR e size (.slice (some ⟨g, 0, none⟩) (n + l.length) cap) (n + l.length) (xs ++ vl V l) :: R) → K (a.put o.dst (.slice (some ⟨g, 0, none⟩) (n + l.length) cap)) w') :
    if Region.wanted o (yielded ops a.tmps) = true then Oper.wp P o a W K Q else E := by
  cases A with
  | none =>
    have := hr.nil rfl
    subst this
    have hn : n ≤ c0 := by
      rcases T.vec.2 with ⟨h, _⟩ | ⟨g, cap, cur, h, _, _, h3, _⟩
      · cases h
      · injection h with _ _ h
        subst h; exact h3
    have hrun := run_append_none (P := P) W t o.type e i ht hi (some ⟨g0, 0, none⟩) n c0 c none hn
    have hT := h g0 c0 W (by simpa [vl_nil] using T)
    rw [if_pos (by unfold Region.wanted; rw [hgd])]
    unfold Oper.wp execOp
    simp only [ho, resolve, invoke, builtin, Sem.run_bind, Sem.run_pure, Result.andThen_ok, List.map_toArray, List.map_cons, List.map_nil, hs, hx, List.length_nil, hrun]
    exact hT
  | some ad =>
    by_cases hl : l = []
    · subst hl
      have hn : n ≤ c0 := by
        rcases T.vec.2 with ⟨h, _⟩ | ⟨g, cap, cur, h, _, _, h3, _⟩
        · cases h
        · injection h with _ _ h
          subst h; exact h3
      have hrun := run_append_none (P := P) W t o.type e i ht hi (some ⟨g0, 0, none⟩) n c0 c (some ad) hn
      have hT := h g0 c0 W (by simpa [vl_nil] using T)
      rw [if_pos (by unfold Region.wanted; rw [hgd])]
      unfold Oper.wp execOp
      simp only [ho, resolve, invoke, builtin, Sem.run_bind, Sem.run_pure, Result.andThen_ok, List.map_toArray, List.map_cons, List.map_nil, hs, hx, List.length_nil, hrun]
      exact hT
    · have hpos : 0 < l.length := List.length_pos_iff.2 hl
      refine step_append_vec hgd s x t ho e i z size bytes ht hi hz hsize hby hzs hsz (.slice (some ⟨g0, 0, none⟩) n c0) n xs hs T ad l.length c (vl V l) hx ?_ ?_ ?_ hpos h63 hbytes h
      · unfold vl
        rw [Array.length_toList, flatV_size hV]
      · intro j u hj
        unfold vl at hj
        rw [Array.getElem?_toList] at hj
        have hjs : j < l.length * size := by
          have := (Array.getElem?_eq_some_iff.1 hj).1
          rwa [flatV_size hV] at this
        have hq : j / size < l.length := Nat.div_lt_of_lt_mul (by rw [Nat.mul_comm]; exact hjs)
        have hm : j % size < size := Nat.mod_lt _ hsz
        have he : j / size * size + j % size = j := by rw [Nat.mul_comm]; exact Nat.div_add_mod j size
        have h2 := flatV_get hV l (j / size) hq (j % size) hm
        rw [he, hj] at h2
        have h3 := hr.cell ad rfl (j / size) hq (j % size) u h2.symm
        rw [addr_add', he] at h3
        exact (hb.cell (World.block_lt_of_cell? w0 _ h3)).trans h3
      · intro u hu
        unfold vl at hu
        rw [Array.mem_toList_iff] at hu
        obtain ⟨j, hj, rfl⟩ := Array.mem_iff_getElem.1 hu
        have hjs : j < l.length * size := by rwa [flatV_size hV] at hj
        have hq : j / size < l.length := Nat.div_lt_of_lt_mul (by rw [Nat.mul_comm]; exact hjs)
        have hm : j % size < size := Nat.mod_lt _ hsz
        have he : j / size * size + j % size = j := by rw [Nat.mul_comm]; exact Nat.div_add_mod j size
        have h2 := flatV_get hV l (j / size) hq (j % size) hm
        rw [he, Array.getElem?_eq_getElem hj] at h2
        refine h1 _ (List.getElem_mem hq) _ ?_
        rw [Array.mem_toList_iff]
        exact Array.mem_iff_getElem?.2 ⟨_, h2.symm⟩
end
end Go.Proofs.Ytnjgjhjilolanaa
/- Layer 18: an item's part, as the document finds it. -/
namespace Go.Proofs.Ytnjgjhjilolanaa
open Go.RowKit Go.Shelf
set_option linter.unusedVariables false
set_option maxRecDepth 20000
attribute [local go_sem] row_alloc row_drew row_drewN row_ext row_setCell row_setRow size_ext setRow_alloc setRow_drew loadOf storeOf piece_lit loadVal_at storeVal_at allOne_lit buildOf buildRes_some
attribute [local go_sem high] cell_alloc frozen_alloc setCell_alloc cell_ext frozen_ext cell_setRow frozen_setRow
attribute [local go_sem ↓] TDeed_ld0 TDeed_st0 TDeed_fd0 TDeed_bd0
attribute [local go_sem] TDeed_size TDeed_one TDeed_piece TDeed_c0 TDeed_c1 TDeed_c2 TDeed_c3 TDeed_c4 TDeed_c5 TDeed_set_kind TDeed_set_key TDeed_set_val TDeed_set_ver TDeed_set_ses TDeed_set_num TDeed_ld TDeed_st TDeed_f_kind TDeed_f_key TDeed_f_val TDeed_f_ver TDeed_f_ses TDeed_f_num TDeed_bd TDeed_fl TDeed_fl_kind TDeed_fl_key TDeed_fl_val TDeed_fl_ver TDeed_fl_ses TDeed_fl_num
attribute [local go_sem high] TDeed_eql TDeed_neq
attribute [local go_sem ↓] index_deps0 load_deps0 store_deps0
attribute [local go_sem] DV_piece DV_size DV_one index_deps load_deps store_deps
attribute [local go_sem high] TDeps_eql TDeps_neq
attribute [local go_sem ↓] TCall_ld0 TCall_st0 TCall_fd0 TCall_bd0
attribute [local go_sem] TCall_size TCall_one TCall_piece TCall_c0 TCall_c1 TCall_c2 TCall_c3 TCall_c4 TCall_c5 TCall_c6 TCall_c7 TCall_c8 TCall_c9 TCall_c10 TCall_c11 TCall_c12 TCall_c13 TCall_p_deed TCall_put_deed TCall_p_deps TCall_put_deps TCall_set_seq TCall_ld TCall_st TCall_f_deed TCall_f_deps TCall_f_seq TCall_bd TCall_fl TCall_fl_deed TCall_fl_deps TCall_fl_seq
attribute [local go_sem high] TCall_eql TCall_neq
attribute [local go_sem ↓] TItem_ld0 TItem_st0 TItem_fd0 TItem_bd0
attribute [local go_sem] TItem_size TItem_one TItem_piece TItem_c0 TItem_c1 TItem_set_rep TItem_set_num TItem_ld TItem_st TItem_f_rep TItem_f_num TItem_bd TItem_fl TItem_fl_rep TItem_fl_num
attribute [local go_sem high] TItem_eql TItem_neq
attribute [local go_sem ↓] itm_slice0
attribute [local go_sem] itm_slice1
theorem itm_sliceE (w : World) : (buildSem 30 0 #[]).run Try.prog w = .ok (.slice (some ⟨w.heap.size, 0, none⟩) 0 0) (w.alloc (.cells #[] 35)) := by kernel_rfl
attribute [local go_sem] itm_sliceE
theorem step_append_inE {α : Type} {V : α → Array Value} {P : Program} {w W : World} {F : Nat → Prop} {R : List Res} {ops : Array Oper} {o : Oper} {a : Act} {K : Act → World → Prop} {Q : Exit → Act → World → Prop} {E : Prop} (hgd : o.guard = none) (s x : Operand) (t : TypeId)
    (ho : o.op = .call { callee := .builtin .append, args := #[s, x], argTypes := #[t, t] })
    (e : TypeId) (i : TypeInfo) (z : Value) (size bytes : Nat) (ht : P.underlying t = some (.slice e)) (hi : P.info? e = some i) (hz : i.zero = some z)
    (hsize : i.size = size) (hby : i.bytes = bytes) (hzs : z.cells.size = size) (hsz : 0 < size)
    (g0 c0 n : Nat) (xs : List Value) (hs : a.eval s = .slice (some ⟨g0, 0, none⟩) n c0) (T : Sts w F W (vecR e size (.slice (some ⟨g0, 0, none⟩) n c0) n xs :: R))
    (A : Option Addr) (c m : Nat) (l : List α) (hm : l.length = m) (hx : a.eval x = .slice A m c) (hr : RowsIn W A size V l) (hV : ∀ x, (V x).size = size) (h1 : ∀ x, ∀ u ∈ (V x).toList, u.oneCell' = true)
    (h63 : n + m ≤ maxLen) (hbytes : (n + m) * bytes ≤ 140737488355328)
    (h : ∀ g cap w', Sts w F w' (vecR e size (.slice (some ⟨g, 0, none⟩) (n + m) cap) (n + m) (xs ++ vl V l) :: R) → K (a.put o.dst (.slice (some ⟨g, 0, none⟩) (n + m) cap)) w') :
    if Region.wanted o (yielded ops a.tmps) = true then Oper.wp P o a W K Q else E := by
  subst hm
  exact step_append_in hgd s x t ho e i z size bytes ht hi hz hsize hby hzs hsz g0 c0 n xs hs T A c l hx hr (Below.refl _ _) hV (fun x _ => h1 x) h63 hbytes h
/-- A slice of the call's own lies at its address. -/
theorem vec_in {α : Type} {V : α → Array Value} {size : Nat} (hV : ∀ x, (V x).size = size) {e : TypeId} {A : Option Addr} {n c : Nat} {l : List α} {w W : World} {F : Nat → Prop} {R : List Res} (hn : l.length = n) (T : Sts w F W (vecR e size (.slice A n c) n (vl V l) :: R)) (h0 : 0 < size) (hl : n ≤ 1000000) : RowsIn W A size V l := by
  subst hn
  obtain ⟨A', c', hv, hA, -, -⟩ := vec_rows hV T h0 (by omega)
  injection hv with e1
  subst e1
  exact hA
theorem RowsIn.cutIf {α : Type} {w : World} {g n cp k : Nat} {V : α → Array Value} {l : List α} (h : RowsIn w (some ⟨g, 0, none⟩) n V l) (hl : l.length ≤ cp) : RowsIn w (if cp = k then some ⟨g, 0, none⟩ else some ⟨g, k * n, none⟩) n V (l.drop k) := by
  split
  · rename_i e
    have hd : l.drop k = [] := List.drop_eq_nil_of_le (by omega)
    rw [hd]
    exact ⟨fun h => rfl, fun a ha j hj => by simp at hj, by simp⟩
  · have h1 := h.cut k
    rw [add_none, Nat.zero_add] at h1
    exact h1
theorem vl_one {α : Type} (V : α → Array Value) (x : α) : vl V [x] = (V x).toList := by
  have := vl_snoc V [] x
  rw [vl_nil] at this
  exact this
theorem insL_at {m : RowsMK} {p : List Item} {y : Item} {k : Nat} (hk : k ≤ p.length) (hb : ∀ j z, j < k → p[j]? = some z → befB m z y = true) (he : ∀ z, p[k]? = some z → befB m z y = false) : insL m p y = p.take k ++ y :: p.drop k := by
  have h1 : p.takeWhile (fun z => befB m z y) = p.take k ∧ p.dropWhile (fun z => befB m z y) = p.drop k := by
    have ha : ∀ z ∈ p.take k, befB m z y = true := fun z hz => by
      obtain ⟨j, hj, rfl⟩ := List.getElem_of_mem hz
      rw [List.length_take] at hj
      rw [List.getElem_take]
      exact hb j _ (by omega) (List.getElem?_eq_getElem _)
    have hs : p = p.take k ++ p.drop k := (List.take_append_drop k p).symm
    have hd : (p.drop k).takeWhile (fun z => befB m z y) = [] ∧ (p.drop k).dropWhile (fun z => befB m z y) = p.drop k := by
      cases hh : p.drop k with
      | nil => exact ⟨rfl, rfl⟩
      | cons a t =>
        have : p[k]? = some a := by
          have := congrArg (·[0]?) hh
          simpa using this
        have := he a this
        rw [List.takeWhile_cons_of_neg (by simp [this]), List.dropWhile_cons_of_neg (by simp [this])]
        exact ⟨rfl, rfl⟩
    constructor
    · conv => lhs; rw [hs]
      rw [List.takeWhile_append_of_pos ha, hd.1, List.append_nil]
    · conv => lhs; rw [hs]
      rw [List.dropWhile_append_of_pos ha, hd.2]
  unfold insL
  rw [h1.1, h1.2]
theorem insL_len (m : RowsMK) (p : List Item) (y : Item) : (insL m p y).length = p.length + 1 := by
  have h := congrArg List.length (List.takeWhile_append_dropWhile (p := fun z => befB m z y) (l := p))
  unfold insL
  rw [List.length_append] at h
  rw [List.length_append, List.length_cons]
  omega
section
variable {w W : World} {F : Nat → Prop} {R : List Res}
end
end Go.Proofs.Ytnjgjhjilolanaa
/- Layer 18, plain: what the document's search leaves. No walk stands here. -/
namespace Go.Proofs.Ytnjgjhjilolanaa
open Go.RowKit
set_option linter.unusedVariables false
structure OvOk (its : List Item) (s : OvS) : Prop where
  nd : s.1.Nodup
  mem : ∀ y ∈ s.1, y ∈ its
/-- What is seen grows, what is told no faster. -/
def OvG (s t : OvS) : Prop := s.1 <+: t.1 ∧ t.2.length + s.1.length ≤ s.2.length + t.1.length
theorem OvG.refl (s : OvS) : OvG s s := ⟨List.prefix_refl _, Nat.le_refl _⟩
theorem OvG.trans {s t u : OvS} (h : OvG s t) (k : OvG t u) : OvG s u := ⟨h.1.trans k.1, by have := h.2; have := k.2; omega⟩
section
variable {m : RowsMK} {q : RowsML} {its : List Item} {x0 : Item} {pt : Item → List Item}
theorem OvOk.len {s : OvS} (h : OvOk its s) : s.1.length ≤ its.length := nodup_len _ _ h.nd h.mem
theorem OvOk.add {s : OvS} (h : OvOk its s) {x : Item} (hn : x ∉ s.1) (hm : x ∈ its) : OvOk its (s.1 ++ [x], s.2) where
  nd := by
    rw [List.nodup_append]
    exact ⟨h.nd, by simp, fun a ha b hb => by simp at hb; subst hb; exact fun e => hn (e ▸ ha)⟩
  mem y hy := by
    rcases List.mem_append.1 hy with hy | hy
    · exact h.mem y hy
    · simp at hy; subst hy; exact hm
end
end Go.Proofs.Ytnjgjhjilolanaa
