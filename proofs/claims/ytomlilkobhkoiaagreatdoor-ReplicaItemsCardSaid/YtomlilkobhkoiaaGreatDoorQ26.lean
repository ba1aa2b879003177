/- Several texts in one. -/
import Derived.Test.YtomlilkobhkoiaaGreatDoorQ25
import Derived.Test.YtomlilkobhkoiaaGreatDoorQ23
import Derived.Test.YtomlilkobhkoiaaGreatDoorQ7
import Derived.Test.YtomlilkobhkoiaaGreatDoorQ22
/- Layer 12: up to which items a deed waits (Space.Way). -/
namespace Go.Proofs.YtomlilkobhkoiaaGreatDoor
open Go.RowKit Go.Shelf
set_option linter.unusedVariables false
set_option maxRecDepth 20000
attribute [local go_sem] Oper.semAt_some
attribute [local go_sem] row_alloc row_drew row_drewN row_ext row_setCell row_setRow size_ext setRow_alloc setRow_drew loadOf storeOf piece_lit loadVal_at storeVal_at allOne_lit buildOf buildRes_some
attribute [local go_sem high] cell_alloc frozen_alloc setCell_alloc cell_ext frozen_ext cell_setRow frozen_setRow
attribute [local go_sem ↓] TDeed_ld0 TDeed_st0 TDeed_fd0 TDeed_bd0
attribute [local go_sem] TDeed_size TDeed_one TDeed_piece TDeed_c0 TDeed_c1 TDeed_c2 TDeed_c3 TDeed_c4 TDeed_c5 TDeed_set_kind TDeed_set_key TDeed_set_val TDeed_set_ver TDeed_set_ses TDeed_set_num TDeed_ld TDeed_st TDeed_f_kind TDeed_f_key TDeed_f_val TDeed_f_ver TDeed_f_ses TDeed_f_num TDeed_bd TDeed_fl TDeed_fl_kind TDeed_fl_key TDeed_fl_val TDeed_fl_ver TDeed_fl_ses TDeed_fl_num
attribute [local go_sem high] TDeed_eql TDeed_neq
attribute [local go_sem ↓] index_deps0 load_deps0 store_deps0
attribute [local go_sem] DV_piece DV_size DV_one index_deps load_deps store_deps
attribute [local go_sem high] TDeps_eql TDeps_neq
attribute [local go_sem ↓] TCall_ld0 TCall_st0 TCall_fd0 TCall_bd0
attribute [local go_sem] TCall_size TCall_one TCall_piece TCall_c0 TCall_c1 TCall_c2 TCall_c3 TCall_c4 TCall_c5 TCall_c6 TCall_c7 TCall_c8 TCall_c9 TCall_c10 TCall_c11 TCall_c12 TCall_c13 TCall_p_deed TCall_put_deed TCall_p_deps TCall_put_deps TCall_set_seq TCall_ld TCall_st TCall_f_deed TCall_f_deps TCall_f_seq TCall_bd TCall_fl TCall_fl_deed TCall_fl_deps TCall_fl_seq
attribute [local go_sem high] TCall_eql TCall_neq
attribute [local go_sem ↓] TItem_ld0 TItem_st0 TItem_fd0 TItem_bd0
attribute [local go_sem] TItem_size TItem_one TItem_piece TItem_c0 TItem_c1 TItem_set_rep TItem_set_num TItem_ld TItem_st TItem_f_rep TItem_f_num TItem_bd TItem_fl TItem_fl_rep TItem_fl_num
attribute [local go_sem high] TItem_eql TItem_neq
attribute [local go_sem ↓] TBallot_ld0 TBallot_st0 TBallot_fd0 TBallot_bd0
attribute [local go_sem] TBallot_size TBallot_one TBallot_piece TBallot_c0 TBallot_c1 TBallot_set_round TBallot_set_rep TBallot_ld TBallot_st TBallot_f_round TBallot_f_rep TBallot_bd TBallot_fl TBallot_fl_round TBallot_fl_rep
attribute [local go_sem high] TBallot_eql TBallot_neq
attribute [local go_sem ↓] TInst_ld0 TInst_st0 TInst_fd0 TInst_bd0
attribute [local go_sem] TInst_size TInst_one TInst_piece TInst_c0 TInst_c1 TInst_c2 TInst_c3 TInst_c4 TInst_c5 TInst_c6 TInst_c7 TInst_c8 TInst_c9 TInst_c10 TInst_c11 TInst_c12 TInst_c13 TInst_c14 TInst_c15 TInst_c16 TInst_c17 TInst_c18 TInst_c19 TInst_p_prom TInst_put_prom TInst_p_vote TInst_put_vote TInst_set_status TInst_p_call TInst_put_call TInst_set_same TInst_ld TInst_st TInst_f_prom TInst_f_vote TInst_f_status TInst_f_call TInst_f_same TInst_bd TInst_fl TInst_fl_prom TInst_fl_vote TInst_fl_status TInst_fl_call TInst_fl_same
attribute [local go_sem high] TInst_eql TInst_neq
attribute [local go_sem] nv_deed
structure WayR where
 out : Nat → Int
 seq : Int
def noWay : WayR := ⟨fun _ => 0, 0⟩
def lowI (x y : Int) : Int := if y < x then y else x
def maxI (x y : Int) : Int := if y > x then y else x
noncomputable def wayStep (m : RowsM) (d : Deed) (but : Item) (q : WayR) (x : Item) : WayR :=
 if eqA (IV x) (IV but) = false ∧ clashB ((getM m x).getD noInst).call.deed d = true then ⟨withD q.out x.rep x.num, maxI q.seq (lowI (((getM m x).getD noInst).call.seq + 1) 1099511627776)⟩ else q
noncomputable def wayM (m : RowsM) (d : Deed) (but : Item) (xs : List Item) : WayR := xs.foldl (wayStep m d but) noWay
theorem wayM_snoc (m : RowsM) (d : Deed) (but : Item) (xs : List Item) (x : Item) : wayM m d but (xs ++ [x]) = wayStep m d but (wayM m d but xs) x := by unfold wayM; rw [List.foldl_append]; rfl
abbrev nearV (c1 c2 : Nat) : Value := .func (.func 86) #[] #[.pointer (some ⟨c1, 0, none⟩), .pointer (some ⟨c2, 0, none⟩)]
section
variable {w W : World} {F : Nat → Prop} {R : List Res} {s lg p g bk bs : Nat} {I : Idx} {D : List UInt8} {safe : Nat} {m : RowsM}
theorem nearT (T : Sts w F W R) (s : Nat) (d : Deed) : Calls Tryz.prog 47 #[.pointer (some ⟨s, 0, none⟩), .agg (EV d)] W fun e W' => ∃ c1 c2, e = .returned (nearV c1 c2) ∧ Sts w F W' (rowR c1 #[.pointer (some ⟨s, 0, none⟩)] :: rowR c2 (EV d) :: R) := by
 have T1 := (T.new #[.pointer (some ⟨s, 0, none⟩)] 37).new (EV d) 31
 rw [World.size_alloc] at T1
 have HT := Lib.hid (T1.ord [1, 0]); clear T1 T
 go_enter Tryz.func47, Tryz.ntmps47
 go_wp2
 go_ret
 exact ⟨_, _, rfl, HT.out⟩
theorem near_log {c1 c2 : Nat} {d : Deed} {W0 : World} {H : Nat → Prop} (hS : Sat W0 (nearL s lg bk bs c1 c2 I d) H) : ∀ w F W R, Sts w F W (pinR H W0 :: R) → W.cell? ⟨s, 0, none⟩ = some (.pointer (some ⟨lg, 0, none⟩)) := by
 have T := Sts.start hS
 unfold nearL at T
 obtain ⟨v, T⟩ := (T.ord [2, 0, 1]).idxOpen
 obtain ⟨G, hG1, hG2⟩ := Sts.among hS T
 intro w F W R TP
 have T5 := Sts.start (TP.pinned hG1 hG2)
 exact row_cell T5.row 0
theorem results_row2 {P : Program} {fn : Func} {tmps : Array Value} {w : World} {p u : Tmp} {T : TypeId} {n : Nat} {d : TypeDesc} (X : Array Value) {g : Nat} (hu : P.underlying T = some d) (hd : d.isRow = true)
  (hi : (P.info? T).map (·.size) = some n) (hr : fn.results = #[.cell p T, .tmp u]) (hp : tmps.getD p undef = .pointer (some ⟨g, 0, none⟩)) (hX : X.size = n) (hrow : row? w g = some X) :
  (results fn tmps).run P w = .ok (.tuple #[.agg X, tmps.getD u undef]) w := by
 obtain ⟨t, ht⟩ := row_some hrow
 have hp' : tmps[p]?.getD undef = .pointer (some ⟨g, 0, none⟩) := by simpa using hp
 simp [results, hr, hp', asAddr, run_loadVar_row w g t T X (0, 0) d ht hu (by cases d <;> first | rfl | exact hd) (by rw [hi, hX])]
theorem Sts.rowsNe {a b : Nat} {X Y : Array Value} (T : Sts w F W (rowR a X :: rowR b Y :: R)) : ¬ a = b := fun e => by
 obtain ⟨⟨G, ⟨A, B, ha, ⟨C, D', hc, _, _, hB⟩, hd, _⟩, _⟩, _⟩ := T
 exact hd a ((ha.1 a).2 rfl) ((hB a).2 (.inl ((hc.1 a).2 e)))
def WayPost (w : World) (F : Nat → Prop) (L : List Res) (m : RowsM) (d : Deed) (but : Item) (O : List Item → Prop) (e : Ending) (W' : World) : Prop :=
 ∃ xs, O xs ∧ e = .returned (.tuple #[.agg (DV (wayM m d but xs).out), .int .i64 (wayM m d but xs).seq]) ∧ Sts w F W' L
set_option maxHeartbeats 8000000 in
theorem spWayT (hm : RowsOk m) (hg : RowsGood m) (d : Deed) (but : Item) (O : List Item → Prop)
  (hO : ∀ c1 c2 W0 H, Sat W0 (nearL s lg bk bs c1 c2 I d) H → GivesD Tryz.prog 86 #[.pointer (some ⟨c1, 0, none⟩), .pointer (some ⟨c2, 0, none⟩)] (fun x : Item => #[.agg (IV x)]) [pinR H W0] O)
  (hk : d.key.size ≤ maxLen) (T : Sts w F W (spL s lg p g bk bs I D safe m ++ R)) :
  Calls Tryz.prog 22 #[.pointer (some ⟨s, 0, none⟩), .agg (EV d), .agg (IV but)] W (WayPost w F (spL s lg p g bk bs I D safe m ++ R) m d but O) := by
 refine (callsIn_wide (n := 4)).1 ?_
 refine callsIn_of_wp_marks Tryz.func22 rfl trivial ?_ rfl
 simp only [Tryz.ntmps22, List.size_toArray, List.length_cons, List.length_nil, Nat.reduceAdd, Nat.reduceSub, Array.replicate_succ, Array.replicate_zero, List.push_toArray, List.append_toArray, List.nil_append, List.cons_append]
 refine wpIn_wide.2 ?_
 have T1 := (((((T.new #[.pointer (some ⟨s, 0, none⟩)] 37).new (EV d) 31).new (IV but) 33).new (DV fun _ => 0) 66).new (DV fun _ => 0) 66).new #[.int .i64 0] 3
 simp only [World.size_alloc] at T1
 have HT := Lib.hid T1; clear T1 T
 go_wp2_with fail
 refine (nearT HT.out s d).mono ?_
 clear HT
 rintro e w1 ⟨c1, c2, rfl, T⟩
 have T : Sts w F w1 (rowR c1 #[.pointer (some ⟨s, 0, none⟩)] :: rowR c2 (EV d) :: rowR (W.heap.size + 1 + 1 + 1 + 1 + 1) #[.int .i64 0] :: rowR (W.heap.size + 1 + 1 + 1 + 1) (DV fun _ => 0) :: rowR (W.heap.size + 1 + 1 + 1) (DV fun _ => 0) :: rowR (W.heap.size + 1 + 1) (IV but) :: rowR (W.heap.size + 1) (EV d) :: rowR W.heap.size #[.pointer (some ⟨s, 0, none⟩)] :: idxR s lg bk bs I :: rowR lg (ledCells p g m.n) :: plR p D safe :: rowsIR g m :: R) := T
 generalize W.heap.size + 1 + 1 + 1 + 1 + 1 = b9 at *
 generalize W.heap.size + 1 + 1 + 1 + 1 = b8 at *
 generalize W.heap.size + 1 + 1 + 1 = b6 at *
 generalize W.heap.size + 1 + 1 = b5 at *
 generalize W.heap.size + 1 = b4 at *
 generalize W.heap.size = b3 at *
 have HT := Lib.hid T; clear T
 go_wp2_with fail
 have T := HT.out.ord [0, 1, 8, 3, 2, 7, 6, 5, 9, 10, 11, 4]
 clear HT
 obtain ⟨H, hS, T2⟩ := Sts.pin (L := nearL s lg bk bs c1 c2 I d) T
 have hlog := near_log hS
 have T3 := T2.perm (perm_pre (M := [pinR H w1]) (X := [rowR b8 (DV (wayM m d but []).out), rowR b9 #[.int .i64 (wayM m d but []).seq], rowR b3 #[.pointer (some ⟨s, 0, none⟩)], rowR b4 (EV d), rowR b5 (IV but), rowR lg (ledCells p g m.n), plR p D safe, rowsIR g m]) (R := rowR b6 (DV fun _ => 0) :: R))
 have HLOG := Lib.hid hlog; have HS := Lib.hid hS
 clear T T2 hlog
 refine (wpIn_wide (n := 4)).1 ?_
 refine wp_rangeD (gf := 86) (lb := #[.pointer (some ⟨c1, 0, none⟩), .pointer (some ⟨c2, 0, none⟩)]) (enc := fun x : Item => #[.agg (IV x)]) (O := O)
  (fun xs => [rowR b8 (DV (wayM m d but xs).out), rowR b9 #[.int .i64 (wayM m d but xs).seq], rowR b3 #[.pointer (some ⟨s, 0, none⟩)], rowR b4 (EV d), rowR b5 (IV but), rowR lg (ledCells p g m.n), plR p D safe, rowsIR g m]) (fun _ _ => [noR]) [pinR H w1] (rowR b6 (DV fun _ => 0) :: R)
  (fun xs x a' own' => ∃ b10, own' = [rowR b10 (IV x), rowR b8 (DV (wayM m d but xs).out), rowR b9 #[.int .i64 (wayM m d but xs).seq], rowR b3 #[.pointer (some ⟨s, 0, none⟩)], rowR b4 (EV d), rowR b5 (IV but), rowR lg (ledCells p g m.n), plR p D safe, rowsIR g m] ∧ a' = { tmps := #[.pointer (some ⟨s, 0, none⟩), .agg (EV d), .agg (IV but), .pointer (some ⟨b3, 0, none⟩), .pointer (some ⟨b4, 0, none⟩), .pointer (some ⟨b5, 0, none⟩), .pointer (some ⟨b6, 0, none⟩), .int .i64 0, .pointer (some ⟨b8, 0, none⟩), .pointer (some ⟨b9, 0, none⟩), .pointer (some ⟨b10, 0, none⟩), undef, .pointer (some ⟨s, 0, none⟩), .bool false, undef, undef, .pointer (some ⟨s, 0, none⟩), .agg (EV d), nearV c1 c2, .agg (IV x), undef, undef, undef, undef, undef, undef, undef, undef, undef, undef, undef, undef, undef, undef, undef, undef, undef, undef, undef, undef, undef, undef, undef, undef, undef, undef, undef, undef], defers := [] })
  rfl (enters_of Tryz.func86 (by kernel_rfl) rfl) (fun _ => rfl) (hO c1 c2 w1 H HS.out) T3 ?assign ?body ?done ?stop
 case assign =>
  intro lr xs x w F W1 R K hx T1 hK
  have T2 := T1.new (IV x) 33
  have HT2 := Lib.hid T2
  clear T1 T2 T3
  gi_wp2
  exact hK _ _ _ ⟨_, rfl, rfl⟩ HT2.out
 case body =>
  rintro lr xs x _ _ w F W1 R hx ⟨b10, rfl, rfl⟩ T1
  clear T3
  have T1 : Sts w F W1 (rowR b10 (IV x) :: rowR b8 (DV (wayM m d but xs).out) :: rowR b9 #[.int .i64 (wayM m d but xs).seq] :: rowR b3 #[.pointer (some ⟨s, 0, none⟩)] :: rowR b4 (EV d) :: rowR b5 (IV but) :: rowR lg (ledCells p g m.n) :: plR p D safe :: rowsIR g m :: pinR H w1 :: R) := T1
  have hat := ledAtR lg p g D safe m hm x
  have hsn := wayM_snoc m d but xs x
  unfold wayStep at hsn
  generalize wayM m d but xs = q at *
  have hi0 : ∃ i0, i0 = (getM m x).getD noInst := ⟨_, rfl⟩
  obtain ⟨i0, hi0⟩ := hi0
  rw [← hi0] at hat hsn
  have hkey : i0.call.deed.key.size ≤ maxLen := by
   rw [hi0]
   cases hgm : getM m x with
   | none => exact Nat.zero_le _
   | some t => have := (goodN_in (hg _ _ hgm) hm.n.2).call.deed.txt; simp only [Option.getD]; unfold maxLen; omega
  have hcl := clash_any i0.call.deed d hkey hk
  have hseq : 0 ≤ i0.call.seq ∧ i0.call.seq ≤ 1099511627776 := by
   rw [hi0]
   cases hgm : getM m x with
   | none => exact ⟨by decide, by decide⟩
   | some t =>
    have h1 := hg _ _ hgm
    simp only [Option.getD]
    unfold goodN goodC at h1
    simp only [Bool.and_eq_true, decide_eq_true_eq] at h1
    exact ⟨h1.1.2.1.2, h1.1.2.2⟩
  have HSQ := Lib.hid hseq
  have HCL := Lib.hid hcl; clear hcl hkey hseq
  have HSN := Lib.hid hsn; have HAT := Lib.hid hat; have HI0 := Lib.hid hi0
  clear hsn hat hi0
  have T2 := T1.ord [3, 9, 0, 1, 2, 4, 5, 6, 7, 8]
  have FS : ∀ W' R', Sts w F W' (rowR b3 #[.pointer (some ⟨s, 0, none⟩)] :: pinR H w1 :: rowR b10 (IV x) :: R') → (W'.cell? ⟨b3, 0, none⟩ = some (.pointer (some ⟨s, 0, none⟩)) ∧ W'.cell? ⟨s, 0, none⟩ = some (.pointer (some ⟨lg, 0, none⟩)) ∧ row? W' b10 = some (IV x)) := fun W' R' T => ⟨row_cell T.row 0, HLOG.out _ _ _ _ T.drop, T.row2⟩
  have S0 := FS _ _ T2.drew
  have HFS := Lib.hid FS; have HT := Lib.hid T2; clear FS T1 T2
  gi_wp2_with fail
  rename_i K7 hK7
  have H7 : ∀ b11 W2, Sts w F W2 (rowR b11 (NV i0) :: rowR b3 #[.pointer (some ⟨s, 0, none⟩)] :: pinR H w1 :: rowR b10 (IV x) :: rowR b8 (DV q.out) :: rowR b9 #[.int .i64 q.seq] :: rowR b4 (EV d) :: rowR b5 (IV but) :: rowR lg (ledCells p g m.n) :: plR p D safe :: rowsIR g m :: R) → K7 { tmps := #[.pointer (some ⟨s, 0, none⟩), .agg (EV d), .agg (IV but), .pointer (some ⟨b3, 0, none⟩), .pointer (some ⟨b4, 0, none⟩), .pointer (some ⟨b5, 0, none⟩), .pointer (some ⟨b6, 0, none⟩), .int .i64 0, .pointer (some ⟨b8, 0, none⟩), .pointer (some ⟨b9, 0, none⟩), .pointer (some ⟨b10, 0, none⟩), .pointer (some ⟨b11, 0, none⟩), .pointer (some ⟨s, 0, none⟩), .bool false, undef, undef, .pointer (some ⟨s, 0, none⟩), .agg (EV d), nearV c1 c2, .agg (IV x), .pointer (some ⟨s, 0, none⟩), .pointer (some ⟨s, 0, none⟩), .pointer (some ⟨s, 0, none⟩), .pointer (some ⟨lg, 0, none⟩), .agg (IV x), .agg (NV i0), undef, undef, undef, undef, undef, undef, undef, undef, undef, undef, undef, undef, undef, undef, undef, undef, undef, undef, undef, undef, undef, undef], defers := [] } W2 := by
   intro b11 W2 T
   refine hK7 _ _ ?_
   have r1 := T.row; have l1 := row_lt r1; have r2 := (T.ord [3, 0, 1, 2]).row; have l2 := row_lt r2
   have r3 := (T.ord [6, 0, 1, 2, 3, 4, 5]).row; have l3 := row_lt r3; have r4 := (T.ord [7, 0, 1, 2, 3, 4, 5, 6]).row; have l4 := row_lt r4
   have HT := Lib.hid T; clear T
   cases he : eqA (IV x) (IV but)
   case true =>
    have hs2 := HSN.out
    rw [he, if_neg (by simp)] at hs2
    have HS2 := Lib.hid hs2; clear hs2
    gi_wp2_with fail
    refine ⟨trivial, ?_⟩
    gi_wp2
    show Sts w F _ ([rowR b8 (DV (wayM m d but (xs ++ [x])).out), rowR b9 #[.int .i64 (wayM m d but (xs ++ [x])).seq], rowR b3 #[.pointer (some ⟨s, 0, none⟩)], rowR b4 (EV d), rowR b5 (IV but), rowR lg (ledCells p g m.n), plR p D safe, rowsIR g m] ++ ([pinR H w1] ++ R))
    rw [HS2.out]
    have T9 := HT.out.ord [0, 3, 4, 5, 1, 6, 7, 8, 9, 10, 2]
    exact T9.drop.drop
   case false =>
    gi_wp2_with fail
    refine ⟨trivial, ?_⟩
    refine (CallsIn.inRound lr (callsIn_wide.2 (Ans.at HCL.out HT.out))).mono ?_
    clear HT HCL r1 l1 r2 l2 r3 l3 r4 l4
    rintro e W3 ⟨rfl, T⟩
    cases hc : clashB i0.call.deed d
    case false =>
     have hs2 := HSN.out
     rw [hc, if_neg (by simp)] at hs2
     have HS2 := Lib.hid hs2; have HT := Lib.hid T; clear hs2 T
     gi_wp2
     show Sts w F _ ([rowR b8 (DV (wayM m d but (xs ++ [x])).out), rowR b9 #[.int .i64 (wayM m d but (xs ++ [x])).seq], rowR b3 #[.pointer (some ⟨s, 0, none⟩)], rowR b4 (EV d), rowR b5 (IV but), rowR lg (ledCells p g m.n), plR p D safe, rowsIR g m] ++ ([pinR H w1] ++ R))
     rw [HS2.out]
     have T9 := HT.out.ord [0, 3, 4, 5, 1, 6, 7, 8, 9, 10, 2]
     exact T9.drop.drop
    case true =>
     have hs2 := HSN.out
     rw [if_pos ⟨he, hc⟩] at hs2
     have HS2 := Lib.hid hs2; have HT := Lib.hid T; clear hs2 T
     have hsq := HSQ.out
     have hsq1 : -9223372036854775808 ≤ i0.call.seq + 1 ∧ i0.call.seq + 1 < 9223372036854775808 := by omega
     have hwith : Ans Tryz.prog 50 #[.agg (DV q.out), .agg (IV x)] (.agg (DV (withD q.out x.rep x.num))) := with_any q.out x.rep x.num
     have hwr : IntKind.i64.wrap (i0.call.seq + 1) = i0.call.seq + 1 := by rw [IntKind.wrap_i64]; omega
     have HWITH := Lib.hid hwith; clear hwith
     have T := HT.out.ord [0, 3, 4, 5, 1, 2, 6, 7, 8, 9, 10]
     have FS0 : ∀ W' R', Sts w F W' (rowR b11 (NV i0) :: rowR b10 (IV x) :: rowR b8 (DV q.out) :: R') → (row? W' b8 = some (DV q.out) ∧ row? W' b10 = some (IV x) ∧ W'.cell? ⟨b11, 18, none⟩ = some (.int .i64 i0.call.seq)) := fun W' R' T => ⟨T.row2, T.row1, row_cell T.row 18⟩
     have FS1 : ∀ W' R', Sts w F W' (rowR b11 (NV i0) :: R') → W'.cell? ⟨b11, 18, none⟩ = some (.int .i64 i0.call.seq) := fun W' R' T => row_cell T.row 18
     have hm0 : ∀ W', (row? W' b8 = some (DV q.out) ∧ row? W' b10 = some (IV x) ∧ W'.cell? ⟨b11, 18, none⟩ = some (.int .i64 i0.call.seq)) → W'.cell? ⟨b11, 18, none⟩ = some (.int .i64 i0.call.seq) := fun _ h => h.2.2
     have S0 := FS0 _ _ T.drew
     have HM := Lib.hid hm0; have HF0 := Lib.hid FS0; have HF1 := Lib.hid FS1; have HT5 := Lib.hid T.drew; clear hm0 FS0 FS1 T HT
     gi_wp2_with fail
     refine wpIn_region_stage (fun W' => row? W' b8 = some (DV q.out) ∧ row? W' b10 = some (IV x) ∧ W'.cell? ⟨b11, 18, none⟩ = some (.int .i64 i0.call.seq)) (fun W' => W'.cell? ⟨b11, 18, none⟩ = some (.int .i64 i0.call.seq)) 10 (by kernel_rfl) (by kernel_rfl) S0 (fun hHeld => ?_)
     clear S0
     refine tk0 0 rfl ?_
     simp only [Act.put, List.setIfInBounds_toArray, List.set_cons_zero, List.set_cons_succ]
     refine tk0 1 rfl ?_
     go_frame
     refine tk1 4 HM.out rfl ?_
     simp only [Act.put, List.setIfInBounds_toArray, List.set_cons_zero, List.set_cons_succ]
     refine tk1 5 HM.out rfl ?_
     go_frame
     refine tk1 6 HM.out rfl ?_
     go_frame
     refine tk1 7 HM.out rfl ?_
     go_frame
     refine tk1 8 HM.out rfl ?_
     go_frame
     refine wpAnyL_ready (rs := [2, 3]) (by kernel_rfl) (by simp) ?_
     refine AllReadyL.cons0 (o := _) rfl (by kernel_rfl) (fun K hK => ?_) ?_
     ·go_simp
      refine (Ans.at HWITH.out HT5.out).mono ?_
      rintro e w6 ⟨rfl, T⟩
      refine hK.out _ _ (HF0.out _ _ T) (fun hHeld => ?_)
      clear hK K HT5
      have HT5 := Lib.hid T; clear T
      refine wpAnyL_ready (rs := [3, 10]) (by kernel_rfl) (by simp) ?_
      refine AllReadyL.cons0 (o := _) rfl (by kernel_rfl) (fun K hK => ?_) ?_
      ·have c9 := (HT5.out.ord [3, 0, 1, 2]).row; have c9 := row_cell c9 0
       go_simp
       refine hK.out _ _ (HF0.out _ _ HT5.out) (fun hHeld => ?_)
       clear hK K c9
       refine tk1 9 HM.out rfl ?_
       simp only [Act.put, List.setIfInBounds_toArray, List.set_cons_zero, List.set_cons_succ]
       refine wpAnyL_ready (rs := [10]) (by kernel_rfl) (by simp) ?_
       refine AllReadyL.cons1 (o := _) rfl (by kernel_rfl) (fun K hK => ?_) AllReadyL.nil
       have r8 := (HT5.out.ord [2, 0, 1]).row; have l8 := row_lt r8
       have T6 := ((HT5.out.ord [2, 0, 1]).setRow (DV (withD q.out x.rep x.num))).ord [1, 2, 0]
       have HT6 := Lib.hid T6; clear T6 HT5
       go_simp
       refine hK.out _ _ (HF1.out _ _ HT6.out) (fun hHeld => ?_)
       clear hK K r8 l8
       generalize w6.setRow b8 _ = w8 at *
       have r9 := (HT6.out.ord [3, 0, 1, 2]).row; have l9 := row_lt r9; have f9 := row_frozen r9 0; have c9 := row_cell r9 0
       have T7 := ((HT6.out.ord [3, 0, 1, 2]).setCell 0 (.int .i64 (maxI q.seq (lowI (i0.call.seq + 1) 1099511627776)))).ord [1, 2, 3, 0]
       have HT7 := Lib.hid T7; clear T7 HT6
       refine wpAnyL_ready (rs := [11]) (by kernel_rfl) (by simp) ?_
       refine AllReadyL.cons1 (o := _) rfl (by kernel_rfl) (fun K hK => ?_) AllReadyL.nil
       go_simp
       refine hK.out _ _ (HF1.out _ _ HT7.out) (fun hHeld => ?_)
       clear hK K r9 l9 f9 c9
       refine wpAnyL_done (by kernel_rfl) ?_ _
       refine noOut_normal ?_
       show Sts w F _ ([rowR b8 (DV (wayM m d but (xs ++ [x])).out), rowR b9 #[.int .i64 (wayM m d but (xs ++ [x])).seq], rowR b3 #[.pointer (some ⟨s, 0, none⟩)], rowR b4 (EV d), rowR b5 (IV but), rowR lg (ledCells p g m.n), plR p D safe, rowsIR g m] ++ ([pinR H w1] ++ R))
       rw [HS2.out]
       have T8 := HT7.out.ord [0, 1, 2, 3, 4, 6, 7, 8, 9, 10, 5]
       exact T8.drop.drop
      ·refine AllReadyL.cons1 (o := _) rfl (by kernel_rfl) (fun K hK => ?_) AllReadyL.nil
       have r8 := (HT5.out.ord [2, 0, 1]).row; have l8 := row_lt r8
       have T6 := ((HT5.out.ord [2, 0, 1]).setRow (DV (withD q.out x.rep x.num))).ord [1, 2, 0]
       have HT6 := Lib.hid T6; clear T6 HT5
       go_simp
       refine hK.out _ _ (HF1.out _ _ HT6.out) (fun hHeld => ?_)
       clear hK K r8 l8
       generalize w6.setRow b8 _ = w8 at *
       refine wpAnyL_ready (rs := [3]) (by kernel_rfl) (by simp) ?_
       refine AllReadyL.cons1 (o := _) rfl (by kernel_rfl) (fun K hK => ?_) AllReadyL.nil
       have c9 := (HT6.out.ord [3, 0, 1, 2]).row; have c9 := row_cell c9 0
       go_simp
       refine hK.out _ _ (HF1.out _ _ HT6.out) (fun hHeld => ?_)
       clear hK K c9
       refine tk2 9 HM.out rfl ?_
       simp only [Act.put, List.setIfInBounds_toArray, List.set_cons_zero, List.set_cons_succ]
       have r9 := (HT6.out.ord [3, 0, 1, 2]).row; have l9 := row_lt r9; have f9 := row_frozen r9 0; have c9 := row_cell r9 0
       have T7 := ((HT6.out.ord [3, 0, 1, 2]).setCell 0 (.int .i64 (maxI q.seq (lowI (i0.call.seq + 1) 1099511627776)))).ord [1, 2, 3, 0]
       have HT7 := Lib.hid T7; clear T7 HT6
       refine wpAnyL_ready (rs := [11]) (by kernel_rfl) (by simp) ?_
       refine AllReadyL.cons1 (o := _) rfl (by kernel_rfl) (fun K hK => ?_) AllReadyL.nil
       go_simp
       refine hK.out _ _ (HF1.out _ _ HT7.out) (fun hHeld => ?_)
       clear hK K r9 l9 f9 c9
       refine wpAnyL_done (by kernel_rfl) ?_ _
       refine noOut_normal ?_
       show Sts w F _ ([rowR b8 (DV (wayM m d but (xs ++ [x])).out), rowR b9 #[.int .i64 (wayM m d but (xs ++ [x])).seq], rowR b3 #[.pointer (some ⟨s, 0, none⟩)], rowR b4 (EV d), rowR b5 (IV but), rowR lg (ledCells p g m.n), plR p D safe, rowsIR g m] ++ ([pinR H w1] ++ R))
       rw [HS2.out]
       have T8 := HT7.out.ord [0, 1, 2, 3, 4, 6, 7, 8, 9, 10, 5]
       exact T8.drop.drop
     ·refine AllReadyL.cons0 (o := _) rfl (by kernel_rfl) (fun K hK => ?_) AllReadyL.nil
      have c9 := (HT5.out.ord [3, 0, 1, 2]).row; have c9 := row_cell c9 0
      go_simp
      refine hK.out _ _ (HF0.out _ _ HT5.out) (fun hHeld => ?_)
      clear hK K c9
      refine tk1 9 HM.out rfl ?_
      simp only [Act.put, List.setIfInBounds_toArray, List.set_cons_zero, List.set_cons_succ]
      refine wpAnyL_ready (rs := [2]) (by kernel_rfl) (by simp) ?_
      refine AllReadyL.cons0 (o := _) rfl (by kernel_rfl) (fun K hK => ?_) AllReadyL.nil
      go_simp
      refine (Ans.at HWITH.out HT5.out).mono ?_
      rintro e w6 ⟨rfl, T⟩
      refine hK.out _ _ (HF0.out _ _ T) (fun hHeld => ?_)
      clear hK K HT5
      have HT5 := Lib.hid T; clear T
      refine wpAnyL_ready (rs := [10]) (by kernel_rfl) (by simp) ?_
      refine AllReadyL.cons1 (o := _) rfl (by kernel_rfl) (fun K hK => ?_) AllReadyL.nil
      have r8 := (HT5.out.ord [2, 0, 1]).row; have l8 := row_lt r8
      have T6 := ((HT5.out.ord [2, 0, 1]).setRow (DV (withD q.out x.rep x.num))).ord [1, 2, 0]
      have HT6 := Lib.hid T6; clear T6 HT5
      go_simp
      refine hK.out _ _ (HF1.out _ _ HT6.out) (fun hHeld => ?_)
      clear hK K r8 l8
      generalize w6.setRow b8 _ = w8 at *
      have r9 := (HT6.out.ord [3, 0, 1, 2]).row; have l9 := row_lt r9; have f9 := row_frozen r9 0; have c9 := row_cell r9 0
      have T7 := ((HT6.out.ord [3, 0, 1, 2]).setCell 0 (.int .i64 (maxI q.seq (lowI (i0.call.seq + 1) 1099511627776)))).ord [1, 2, 3, 0]
      have HT7 := Lib.hid T7; clear T7 HT6
      refine wpAnyL_ready (rs := [11]) (by kernel_rfl) (by simp) ?_
      refine AllReadyL.cons1 (o := _) rfl (by kernel_rfl) (fun K hK => ?_) AllReadyL.nil
      go_simp
      refine hK.out _ _ (HF1.out _ _ HT7.out) (fun hHeld => ?_)
      clear hK K r9 l9 f9 c9
      refine wpAnyL_done (by kernel_rfl) ?_ _
      refine noOut_normal ?_
      show Sts w F _ ([rowR b8 (DV (wayM m d but (xs ++ [x])).out), rowR b9 #[.int .i64 (wayM m d but (xs ++ [x])).seq], rowR b3 #[.pointer (some ⟨s, 0, none⟩)], rowR b4 (EV d), rowR b5 (IV but), rowR lg (ledCells p g m.n), plR p D safe, rowsIR g m] ++ ([pinR H w1] ++ R))
      rw [HS2.out]
      have T8 := HT7.out.ord [0, 1, 2, 3, 4, 6, 7, 8, 9, 10, 5]
      exact T8.drop.drop
  have HH7 := Lib.hid H7; clear H7
  have hm0 : ∀ W', (W'.cell? ⟨b3, 0, none⟩ = some (.pointer (some ⟨s, 0, none⟩)) ∧ W'.cell? ⟨s, 0, none⟩ = some (.pointer (some ⟨lg, 0, none⟩)) ∧ row? W' b10 = some (IV x)) → True := fun _ _ => trivial
  have HM := Lib.hid hm0; clear hm0
  refine wpIn_region_stage (fun W' => W'.cell? ⟨b3, 0, none⟩ = some (.pointer (some ⟨s, 0, none⟩)) ∧ W'.cell? ⟨s, 0, none⟩ = some (.pointer (some ⟨lg, 0, none⟩)) ∧ row? W' b10 = some (IV x)) (fun _ => True) 7 (by kernel_rfl) (by kernel_rfl) S0 (fun hHeld => ?_)
  clear S0
  refine tk0 0 rfl ?_
  simp only [Act.put, List.setIfInBounds_toArray, List.set_cons_zero, List.set_cons_succ]
  refine tk0 1 rfl ?_
  go_frame
  refine tk0 2 rfl ?_
  go_frame
  refine tk0 3 rfl ?_
  go_frame
  refine tk0 4 rfl ?_
  go_frame
  refine wpAnyL_ready (rs := [5, 6]) (by kernel_rfl) (by simp) ?_
  refine AllReadyL.cons0 (o := _) rfl (by kernel_rfl) (fun K hK => ?_) ?_
  ·go_simp
   refine (Reads.at (L := [rowR lg (ledCells p g m.n), plR p D safe, rowsIR g m]) HAT.out (HT.out.drew.ord [7, 8, 9, 0, 1, 2, 3, 4, 5, 6])).mono ?_
   rintro e w2 ⟨rfl, hb⟩
   have T2 := HT.out.drew.pure hb
   clear hb HT
   refine hK.out _ _ (HFS.out _ _ T2) (fun hHeld => ?_)
   clear hK K
   refine wpAnyL_ready (rs := [6]) (by kernel_rfl) (by simp) ?_
   refine AllReadyL.cons0 (o := _) rfl (by kernel_rfl) (fun K hK => ?_) AllReadyL.nil
   have Ta := T2.new (NV noInst) 70
   have HTa := Lib.hid Ta; have HT2 := Lib.hid T2; clear Ta T2
   go_simp
   refine hK.out _ _ ?_ (fun hHeld => ?_)
   ·exact HFS.out _ _ HTa.out.drop
   clear hK K
   refine wpAnyL_ready (rs := [7]) (by kernel_rfl) (by simp) ?_
   refine AllReadyL.cons1 (o := _) rfl (by kernel_rfl) (fun K hK => ?_) AllReadyL.nil
   have T9 := HT2.out.new (NV i0) 70
   have HT9 := Lib.hid T9; clear T9
   go_simp
   refine hK.out _ _ trivial (fun hHeld => ?_)
   clear hK K HTa HT2
   refine wpAnyL_done (by kernel_rfl) ?_ _
   refine noOut_normal ?_
   exact HH7.out _ _ HT9.out
  ·refine AllReadyL.cons0 (o := _) rfl (by kernel_rfl) (fun K hK => ?_) AllReadyL.nil
   have Ta := HT.out.drew.new (NV noInst) 70
   rw [size_drew] at Ta
   have HTa := Lib.hid Ta; clear Ta HT
   go_simp
   refine hK.out _ _ ?_ (fun hHeld => ?_)
   ·exact HFS.out _ _ HTa.out.drop
   clear hK K
   refine wpAnyL_ready (rs := [5]) (by kernel_rfl) (by simp) ?_
   refine AllReadyL.cons0 (o := _) rfl (by kernel_rfl) (fun K hK => ?_) AllReadyL.nil
   go_simp
   refine (Reads.at (L := [rowR lg (ledCells p g m.n), plR p D safe, rowsIR g m]) HAT.out (HTa.out.ord [8, 9, 10, 0, 1, 2, 3, 4, 5, 6, 7])).mono ?_
   rintro e w2 ⟨rfl, hb⟩
   have T2 := HTa.out.pure hb
   clear hb HTa
   refine hK.out _ _ (HFS.out _ _ T2.drop) (fun hHeld => ?_)
   clear hK K
   refine wpAnyL_ready (rs := [7]) (by kernel_rfl) (by simp) ?_
   refine AllReadyL.cons1 (o := _) rfl (by kernel_rfl) (fun K hK => ?_) AllReadyL.nil
   have r9 := T2.row; have l9 := row_lt r9
   have T9 := T2.setRow (NV i0)
   have HT9 := Lib.hid T9; clear T9 T2
   go_simp
   refine hK.out _ _ trivial (fun hHeld => ?_)
   clear hK K r9 l9
   refine wpAnyL_done (by kernel_rfl) ?_ _
   refine noOut_normal ?_
   exact HH7.out _ _ HT9.out
 case done =>
  intro D2 W1 xs hxs T1
  clear T3
  have T1 : Sts w F W1 (objR D2 (.deferred (some [])) :: rowR b8 (DV (wayM m d but xs).out) :: rowR b9 #[.int .i64 (wayM m d but xs).seq] :: rowR b3 #[.pointer (some ⟨s, 0, none⟩)] :: rowR b4 (EV d) :: rowR b5 (IV but) :: rowR lg (ledCells p g m.n) :: plR p D safe :: rowsIR g m :: pinR H w1 :: rowR b6 (DV fun _ => 0) :: R) := T1
  have HX := Lib.hid hxs
  clear hxs
  have hWP : WayPost w F (spL s lg p g bk bs I D safe m ++ R) m d but O = fun e W' => ∃ xs, O xs ∧ e = .returned (.tuple #[.agg (DV (wayM m d but xs).out), .int .i64 (wayM m d but xs).seq]) ∧ Sts w F W' (spL s lg p g bk bs I D safe m ++ R) := rfl
  generalize hq : wayM m d but xs = q at *
  have HQ := Lib.hid hq; clear hq hWP
  have HT := Lib.hid T1; clear T1
  have r8 := HT.out.row1; have l8 := row_lt r8
  have r9 := HT.out.row2; have l9 := row_lt r9; have c9 := row_cell r9 0
  have r6 := (HT.out.ord [10, 0, 1, 2, 3, 4, 5, 6, 7, 8, 9]).row; have l6 := row_lt r6
  have T6 := ((HT.out.ord [10, 0, 1, 2, 3, 4, 5, 6, 7, 8, 9]).setRow (DV q.out)).ord [1, 0, 2, 3, 4, 5, 6, 7, 8, 9, 10]
  have n1 := (HT.out.ord [10, 1, 0, 2, 3, 4, 5, 6, 7, 8, 9]).rowsNe
  have n2 := (HT.out.ord [10, 2, 0, 1, 3, 4, 5, 6, 7, 8, 9]).rowsNe
  have n3 : ¬ b8 = b6 := fun e => n1 e.symm
  have n4 : ¬ b9 = b6 := fun e => n2 e.symm
  have HT6 := Lib.hid T6.drew
  clear T6 HT
  go_upto_region 10 with fail
  go_region
  simp only [Exit.then]
  clear r8 l8 r9 l9 c9 r6 l6 n1 n2 n3 n4
  generalize (W1.setRow b6 _).drew = w3 at *
  have hD := HT6.out.obj
  have T7 := HT6.out.putObj (.deferred none)
  have r6 := T7.row1
  have T8 := T7.ord [0, 1, 2, 3, 4, 5, 6, 10, 7, 8, 9]
  have T9 := T8.drop.drop.drop.drop.drop.drop.drop.unpin HS.out
  have T10 : Sts w F (w3.putObj D2 (.deferred none)) (spL s lg p g bk bs I D safe m ++ R) := T9.drop.drop
  have HT := Lib.hid T10; have HD := Lib.hid hD; have HR6 := Lib.hid r6
  clear T7 T8 T9 T10 hD r6 HT6
  go_wp2
  refine retM1 HD.out (results_row2 (DV q.out) Tryz.underlying66 rfl (by kernel_rfl) rfl rfl (DV_size _) HR6.out) ⟨xs, HX.out, ?_, HT.out⟩ rfl
  rw [HQ.out]
  rfl
 case stop =>
  intro D2 c1 k W1 T1
  exact (Sts.no T1.drop).elim
end
end Go.Proofs.YtomlilkobhkoiaaGreatDoor
/- Layer 9, plain: what is read of a record is what was written, or it is none. No walk stands here. -/
namespace Go.Proofs.YtomlilkobhkoiaaGreatDoor
open Go.RowKit
set_option linter.unusedVariables false
end Go.Proofs.YtomlilkobhkoiaaGreatDoor
/- Layer 9, plain: a book of records knows what the rows know. No walk stands here. -/
namespace Go.Proofs.YtomlilkobhkoiaaGreatDoor
open Go.RowKit
set_option linter.unusedVariables false
attribute [local instance 10] Classical.propDecidable
end Go.Proofs.YtomlilkobhkoiaaGreatDoor
/- Layer 9, plain: what is known goes by replicas, then by numbers; how much it is. No walk stands here. -/
namespace Go.Proofs.YtomlilkobhkoiaaGreatDoor
open Go.RowKit
set_option linter.unusedVariables false
attribute [local instance 10] Classical.propDecidable
theorem ents_key {m : RowsM} (hm : RowsOk m) (x : Item) : x ∈ (ents m).map Prod.fst ↔ (getM m x).isSome = true := by
 constructor
 ·intro h
  obtain ⟨e, he, rfl⟩ := List.mem_map.1 h
  rw [ents_mem he]; rfl
 ·intro h
  cases hg : getM m x with
  | none => rw [hg] at h; cases h
  | some t => exact List.mem_map.2 ⟨_, ents_has hm hg, rfl⟩
theorem ents_nil {n : Int} (h : 0 ≤ n ∧ n ≤ 7) : ents ⟨n, fun _ => []⟩ = [] := by
 have := ents_key (RowsOk.new h)
 cases hl : ents ⟨n, fun _ => []⟩ with
 | nil => rfl
 | cons e t =>
  have h1 := (this e.1).1 (by rw [hl]; simp)
  rw [getM_new] at h1; cases h1
end Go.Proofs.YtomlilkobhkoiaaGreatDoor
/- Layer 12: the space is alive. -/
namespace Go.Proofs.YtomlilkobhkoiaaGreatDoor
open Go.RowKit
set_option linter.unusedVariables false
set_option maxRecDepth 20000
attribute [local go_sem] row_alloc row_drew row_drewN row_ext row_setCell row_setRow size_ext setRow_alloc setRow_drew loadOf storeOf piece_lit loadVal_at storeVal_at allOne_lit buildOf buildRes_some
attribute [local go_sem high] cell_alloc frozen_alloc setCell_alloc cell_ext frozen_ext cell_setRow frozen_setRow
attribute [local go_sem ↓] TDeed_ld0 TDeed_st0 TDeed_fd0 TDeed_bd0
attribute [local go_sem] TDeed_size TDeed_one TDeed_piece TDeed_c0 TDeed_c1 TDeed_c2 TDeed_c3 TDeed_c4 TDeed_c5 TDeed_set_kind TDeed_set_key TDeed_set_val TDeed_set_ver TDeed_set_ses TDeed_set_num TDeed_ld TDeed_st TDeed_f_kind TDeed_f_key TDeed_f_val TDeed_f_ver TDeed_f_ses TDeed_f_num TDeed_bd TDeed_fl TDeed_fl_kind TDeed_fl_key TDeed_fl_val TDeed_fl_ver TDeed_fl_ses TDeed_fl_num
attribute [local go_sem high] TDeed_eql TDeed_neq
attribute [local go_sem ↓] index_deps0 load_deps0 store_deps0
attribute [local go_sem] DV_piece DV_size DV_one index_deps load_deps store_deps
attribute [local go_sem high] TDeps_eql TDeps_neq
attribute [local go_sem ↓] TCall_ld0 TCall_st0 TCall_fd0 TCall_bd0
attribute [local go_sem] TCall_size TCall_one TCall_piece TCall_c0 TCall_c1 TCall_c2 TCall_c3 TCall_c4 TCall_c5 TCall_c6 TCall_c7 TCall_c8 TCall_c9 TCall_c10 TCall_c11 TCall_c12 TCall_c13 TCall_p_deed TCall_put_deed TCall_p_deps TCall_put_deps TCall_set_seq TCall_ld TCall_st TCall_f_deed TCall_f_deps TCall_f_seq TCall_bd TCall_fl TCall_fl_deed TCall_fl_deps TCall_fl_seq
attribute [local go_sem high] TCall_eql TCall_neq
attribute [local go_sem ↓] TItem_ld0 TItem_st0 TItem_fd0 TItem_bd0
attribute [local go_sem] TItem_size TItem_one TItem_piece TItem_c0 TItem_c1 TItem_set_rep TItem_set_num TItem_ld TItem_st TItem_f_rep TItem_f_num TItem_bd TItem_fl TItem_fl_rep TItem_fl_num
attribute [local go_sem high] TItem_eql TItem_neq
attribute [local go_sem ↓] TBallot_ld0 TBallot_st0 TBallot_fd0 TBallot_bd0
attribute [local go_sem] TBallot_size TBallot_one TBallot_piece TBallot_c0 TBallot_c1 TBallot_set_round TBallot_set_rep TBallot_ld TBallot_st TBallot_f_round TBallot_f_rep TBallot_bd TBallot_fl TBallot_fl_round TBallot_fl_rep
attribute [local go_sem high] TBallot_eql TBallot_neq
attribute [local go_sem ↓] TInst_ld0 TInst_st0 TInst_fd0 TInst_bd0
attribute [local go_sem] TInst_size TInst_one TInst_piece TInst_c0 TInst_c1 TInst_c2 TInst_c3 TInst_c4 TInst_c5 TInst_c6 TInst_c7 TInst_c8 TInst_c9 TInst_c10 TInst_c11 TInst_c12 TInst_c13 TInst_c14 TInst_c15 TInst_c16 TInst_c17 TInst_c18 TInst_c19 TInst_p_prom TInst_put_prom TInst_p_vote TInst_put_vote TInst_set_status TInst_p_call TInst_put_call TInst_set_same TInst_ld TInst_st TInst_f_prom TInst_f_vote TInst_f_status TInst_f_call TInst_f_same TInst_bd TInst_fl TInst_fl_prom TInst_fl_vote TInst_fl_status TInst_fl_call TInst_fl_same
attribute [local go_sem high] TInst_eql TInst_neq
end Go.Proofs.YtomlilkobhkoiaaGreatDoor
