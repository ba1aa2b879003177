/- Layer 8: the walk of PlateDoes. -/
import Derived.Test.YtdemkcfajeoaiaaPlateT
import Derived.Deep.DeepCutAuto
import Derived.Deep.RegionHeld3
import Derived.Deep.RegionWith
namespace Go.Proofs.Ytdemkcfajeoaiaa
open Go.RowKit
set_option linter.unusedVariables false
attribute [local go_sem] row_alloc row_drew row_drewN row_ext row_setCell row_setRow size_ext setRow_alloc setRow_drew loadOf storeOf piece_lit loadVal_at storeVal_at allOne_lit buildOf buildRes_some
attribute [local go_sem high] cell_alloc frozen_alloc setCell_alloc cell_ext frozen_ext cell_setRow frozen_setRow
attribute [local go_sem ↓] TPCall_ld0 TPCall_st0 TPCall_fd0 TPCall_bd0
attribute [local go_sem] TPCall_size TPCall_one TPCall_piece TPCall_c0 TPCall_c1 TPCall_c2 TPCall_c3 TPCall_set_kind TPCall_set_text TPCall_set_n TPCall_set_spoil TPCall_ld TPCall_st TPCall_f_kind TPCall_f_text TPCall_f_n TPCall_f_spoil TPCall_bd TPCall_fl TPCall_fl_kind TPCall_fl_text TPCall_fl_n TPCall_fl_spoil
attribute [local go_sem high] TPCall_eql TPCall_neq
attribute [local go_sem ↓] TRPlate_ld0 TRPlate_st0 TRPlate_fd0 TRPlate_bd0
attribute [local go_sem] TRPlate_size TRPlate_one TRPlate_piece TRPlate_c0 TRPlate_c1 TRPlate_set_safe TRPlate_set_soft TRPlate_ld TRPlate_st TRPlate_f_safe TRPlate_f_soft TRPlate_bd TRPlate_fl TRPlate_fl_safe TRPlate_fl_soft
attribute [local go_sem high] TRPlate_eql TRPlate_neq
def F0 : Nat → Prop := fun _ => False
theorem plNil {w W : World} {F : Nat → Prop} {R : List Res} {r : Res} {g n : Nat} {D : List UInt8} (hn : n = D.length) (T : Sts w F W (r :: plR g D n :: R)) : Sts w F W (r :: plR g (D ++ []) D.length :: R) := by
  rw [List.append_nil, ← hn]; exact T
/-- A world in which the call's text lies there. -/
def SC (n : Nat) (x : PCall) (W : World) : Prop := row? W n = some (PCV x)
theorem SC.drew {n : Nat} {x : PCall} {W : World} (h : SC n x W) : SC n x W.drew := h
theorem SC.alloc {n : Nat} {x : PCall} {W : World} (h : SC n x W) (o : Obj) : SC n x (W.alloc o) := by
  unfold SC at *; rw [row_alloc_ne W n o (Nat.ne_of_lt (row_lt h))]; exact h
theorem SC.text {n : Nat} {x : PCall} {W : World} (h : SC n x W) : W.cell? ⟨n, 1, none⟩ = some (.string x.text) := row_cell h 1
set_option maxHeartbeats 8000000 in
set_option maxRecDepth 10000 in
theorem law_does (A : Option Addr) (c : Nat) (l : List PCall) (w : World) (hx : RowsIn w A 4 PCV l) (hs : ∀ x ∈ l, x.text.size ≤ 140737488351232 ∧ (-9223372036854775808 ≤ x.n ∧ x.n ≤ 9223372036854775807) ∧ 0 ≤ x.spoil ∧ x.spoil ≤ 255) :
    Calls Try.prog 6 #[.slice A l.length c] w fun e W' => e = .returned (.bool true) ∧ Below w.heap.size w W' := by
  have hll := hx.len
  go_enter Try.func6, Try.ntmps6
  go_wp2_with fail
  refine (alive_any _).mono ?_; rintro e w1 ⟨rfl, hb1⟩
  go_wp2_with fail
  refine (great8 A c l hx (fun x h => (hs x h).1) hb1).mono ?_; rintro e w2 ⟨gb, rfl, hgr, hb2⟩
  clear hb1
  cases gb
  case true =>
    go_wp2
    go_ret
    exact ⟨rfl, hb2⟩
  obtain ⟨htot, hlen⟩ := hgr rfl
  have T := (Sts.start0 w).pure hb2
  go_wp2_with fail
  refine (newT T).mono ?_; clear T; rintro e w3 ⟨rfl, T⟩
  have T : Sts w F0 _ [plR w2.heap.size ([] ++ []) ([] : List UInt8).length, rpR w3.heap.size [] []] := (T.new (RPV noRPlate) 40).swap
  clear hb2 hgr
  generalize w2.heap.size = g at *
  go_wp2
  generalize w3.heap.size = h at *
  go_loopw [19] (fun i wr => ∃ (k : Nat) (S F : List UInt8), k ≤ l.length ∧ i = .int .i64 k ∧ S.length + F.length ≤ 65536 ∧ Sts w F0 wr [plR g (S ++ F) S.length, rpR h S F]) (fun i _ => l.length - (intOf i).toNat)
  case atStart => exact ⟨0, [], [], by omega, rfl, by simp, T⟩
  case round =>
    clear T
    obtain ⟨k, S, F, hk, rfl, hz, T⟩ := hrel
    by_cases hkl : k < l.length
    · cases A with
      | none => have := hx.nil rfl; subst this; simp at hkl
      | some a =>
        have hld := hx.load (P := Try.prog) (T := 42) TPCall_size TPCall_und rfl (by kernel_rfl) T.below rfl hkl
        obtain ⟨hsz, hn, hsp⟩ := hs l[k] (List.getElem_mem hkl)
        have hsm : l[k].text.size ≤ 131072 := by
          have h1 := totalP_succ l k hkl
          have h2 : totalP l = totalP (l.take (k + 1)) + totalP (l.drop (k + 1)) := by
            unfold totalP; rw [← List.sum_append, ← List.map_append, List.take_append_drop]
          omega
        clear hlen htot
        generalize l[k] = x at *
        have T := T.new (PCV x) 42
        have hc := row_cell T.row
        have hlt := row_lt T.row
        by_cases h0 : (x.kind == 0) = true
        · obtain ⟨F2, rc, hap, cr, hz2⟩ : ∃ (F2 : List UInt8) (rc : Int), appP (S ++ F) (cat [x.text, x.text]) = (S ++ F2, rc) ∧ Does Try.prog 16 #[.pointer (some ⟨h, 0, none⟩), .string (x.text ++ x.text)] [rpR h S F] (.int .i64 rc) [rpR h S F2] ∧ S.length + F2.length ≤ 65536 := by
            have hct : cat [x.text, x.text] = (x.text ++ x.text).data.toList := by simp [cat]
            have hcz : (x.text ++ x.text).data.toList.length = (x.text ++ x.text).size := by rw [Array.length_toList]; rfl
            have cr := rappendD h S F hz (x.text ++ x.text) (by rw [ByteArray.size_append]; omega)
            refine ⟨_, _, ?_, cr, ?_⟩
            · unfold appP
              rw [hct, hcz, List.length_append]
              split
              · rw [List.append_assoc]
              · rfl
            · split
              · rw [List.length_append, hcz]; omega
              · exact hz
          have CR := Lib.hid cr; clear cr
          have hcl : (cat [x.text, x.text]).length ≤ 1000000000 := by
            have : cat [x.text, x.text] = (x.text ++ x.text).data.toList := by simp [cat]
            rw [this, Array.length_toList]
            have : (x.text ++ x.text).data.size = x.text.size + x.text.size := ByteArray.size_append
            omega
          have hzd : (S ++ F).length ≤ 65536 := by rw [List.length_append]; omega
          have hadd : x.text.size + x.text.size ≤ 9223372036854775807 := by omega
          have hadd2 : ¬ 9223372036854775807 < x.text.size + x.text.size := by omega
          have T1 : Sts w F0 ((wr.alloc (.cells (PCV x) 42)).alloc (.cells #[.string x.text, .string x.text] 9)).drew [plR g (S ++ F) S.length, rowR (wr.heap.size + 1) (rowS [x.text, x.text]), rowR wr.heap.size (PCV x), rpR h S F] := by
            have := (T.new (rowS [x.text, x.text]) 9).rot2.drew
            simp only [World.size_alloc] at this
            exact this
          have CA1 : Hid (Calls Try.prog 9 #[.pointer (some ⟨g, 0, none⟩), .slice (some ⟨wr.heap.size + 1, 0, none⟩) 2 2] ((wr.alloc (.cells (PCV x) 42)).alloc (.cells #[.string x.text, .string x.text] 9)).drew fun e W' => e = .returned (.int .i64 rc) ∧ Sts w F0 W' [rowR wr.heap.size (PCV x), plR g (S ++ F2) S.length, rpR h S F]) := by
            refine Lib.hid ((appendT (l := [x.text, x.text]) T1 2 (by simp) hzd hcl).mono ?_)
            rw [hap]
            rintro e W' ⟨rfl, T⟩
            exact ⟨rfl, T.swap.drop.swap⟩
          have CB1 : Hid (Calls Try.prog 16 #[.pointer (some ⟨h, 0, none⟩), .string (x.text ++ x.text)] ((wr.alloc (.cells (PCV x) 42)).alloc (.cells #[.string x.text, .string x.text] 9)).drew fun e W' => e = .returned (.int .i64 rc) ∧ Sts w F0 W' [plR g (S ++ F) S.length, rowR (wr.heap.size + 1) (rowS [x.text, x.text]), rowR wr.heap.size (PCV x), rpR h S F2]) := by
            refine Lib.hid ((Does.at1 CR.out T1.rot3).mono ?_)
            rintro e W' ⟨rfl, T⟩
            exact ⟨rfl, T.perm (List.perm_append_comm (l₁ := [_]) (l₂ := [_, _, _]))⟩
          have CC1 : Hid (Calls Try.prog 16 #[.pointer (some ⟨h, 0, none⟩), .string (x.text ++ x.text)] (wr.alloc (.cells (PCV x) 42)).drew fun e W' => e = .returned (.int .i64 rc) ∧ Sts w F0 W' [rowR wr.heap.size (PCV x), plR g (S ++ F) S.length, rpR h S F2]) := by
            refine Lib.hid ((Does.at1 CR.out T.rot2.drew).mono ?_)
            rintro e W' ⟨rfl, T⟩
            exact ⟨rfl, T.rot2.rot2⟩
          have CA2 : Hid (∀ W, Sts w F0 W [plR g (S ++ F) S.length, rowR (wr.heap.size + 1) (rowS [x.text, x.text]), rowR wr.heap.size (PCV x), rpR h S F2] → Calls Try.prog 9 #[.pointer (some ⟨g, 0, none⟩), .slice (some ⟨wr.heap.size + 1, 0, none⟩) 2 2] W fun e W' => e = .returned (.int .i64 rc) ∧ Sts w F0 W' [rowR wr.heap.size (PCV x), plR g (S ++ F2) S.length, rpR h S F2]) := by
            refine Lib.hid fun W T => (appendT (l := [x.text, x.text]) T 2 (by simp) hzd hcl).mono ?_
            rw [hap]
            rintro e W' ⟨rfl, T⟩
            exact ⟨rfl, T.swap.drop.swap⟩
          have CA3 : Hid (∀ W, Sts w F0 W [rowR wr.heap.size (PCV x), plR g (S ++ F) S.length, rpR h S F2] → Calls Try.prog 9 #[.pointer (some ⟨g, 0, none⟩), .slice (some ⟨W.heap.size, 0, none⟩) 2 2] (W.alloc (.cells #[.string x.text, .string x.text] 9)) fun e W' => e = .returned (.int .i64 rc) ∧ Sts w F0 W' [rowR wr.heap.size (PCV x), plR g (S ++ F2) S.length, rpR h S F2]) := by
            refine Lib.hid fun W T => (appendT (l := [x.text, x.text]) (T.new (rowS [x.text, x.text]) 9).rot2 2 (by simp) hzd hcl).mono ?_
            rw [hap]
            rintro e W' ⟨rfl, T⟩
            exact ⟨rfl, T.swap.drop.swap⟩
          have CB2 : Hid (∀ W, Sts w F0 W [rowR wr.heap.size (PCV x), plR g (S ++ F2) S.length, rpR h S F] → Calls Try.prog 16 #[.pointer (some ⟨h, 0, none⟩), .string (x.text ++ x.text)] W fun e W' => e = .returned (.int .i64 rc) ∧ Sts w F0 W' [rowR wr.heap.size (PCV x), plR g (S ++ F2) S.length, rpR h S F2]) := by
            refine Lib.hid fun W T => (Does.at1 CR.out T.rot2).mono ?_
            rintro e W' ⟨rfl, T⟩
            exact ⟨rfl, T.rot2.rot2⟩
          have hS : SC wr.heap.size x (wr.alloc (.cells (PCV x) 42)) := T.row
          have hq : ∀ W, SC wr.heap.size x W → W.cell? ⟨wr.heap.size, 1, none⟩ = some (.string x.text) := fun W h => h.text
          clear T1 hap CR hcl hzd T
          go_upto_region 12 with fail
          clear hc hlt
          go_region_held3 (fun W => SC wr.heap.size x W)
            (first | assumption | exact SC.drew (by assumption) | exact SC.alloc (by assumption) _ | exact SC.alloc (SC.drew (by assumption)) _ | exact T.row | exact T.row2)
            (first
            | (go_at_call 9
               first
                 | (with_reducible refine CA1.out.mono ?_
                    clear CA1 CB1 CC1; rintro e w5 ⟨rfl, T⟩)
                 | (with_reducible refine (CA2.out _ T).mono ?_
                    clear T; rintro e w5 ⟨rfl, T⟩)
                 | (with_reducible refine (CA3.out _ T).mono ?_
                    clear T; rintro e w5 ⟨rfl, T⟩))
            | (go_at_call 16
               first
                 | (with_reducible refine CB1.out.mono ?_
                    clear CA1 CB1 CC1; rintro e w6 ⟨rfl, T⟩)
                 | (with_reducible refine CC1.out.mono ?_
                    clear CA1 CB1 CC1; rintro e w6 ⟨rfl, T⟩)
                 | (with_reducible refine (CB2.out _ T).mono ?_
                    clear T; rintro e w6 ⟨rfl, T⟩)))
          -- TAIL0
          all_goals
            first
              | (exfalso; omega)
              | skip
          all_goals clear CA2 CA3 CB2 hS hq
          all_goals
            obtain ⟨SS, FF, hzz, TT⟩ : ∃ SS FF : List UInt8, SS.length + FF.length ≤ 65536 ∧ Sts w F0 _ [rowR wr.heap.size (PCV x), plR g (SS ++ FF) SS.length, rpR h SS FF] := ⟨_, _, hz2, T⟩
            clear T
            have hrp : row? _ h = some (RPV ⟨strL SS, strL FF⟩) := TT.row2
            have hcp := row_cell hrp; have hlp := row_lt hrp
            have happ := strL_cat SS FF
            have z1 := strL_size SS; have z2 := strL_size FF
            have z3 : ((SS ++ FF).length : Int) = (SS.length : Int) + (FF.length : Int) := by rw [List.length_append]; omega
            have zz : (strL SS).size + (strL FF).size ≤ 9223372036854775807 := by omega
            have QR := fun x => readT (TT.drop.ext x); have QL := fun x => lenT (TT.drop.ext x); have QS := fun x => safeT (TT.drop.ext x)
            rw [show (⟨(SS ++ FF).toArray⟩ : ByteArray) = strL (SS ++ FF) from rfl, ← happ] at QR; rw [z3] at QL
            have QR := Lib.hid QR; have QL := Lib.hid QL; have QS := Lib.hid QS
            have HT := Lib.hid TT; clear TT happ z3
            have HZZ := Lib.hid hzz; clear hzz
            generalize strL SS = B1 at *; generalize strL FF = B2 at *
            go_upto_region 25 with fail
            refine wp_region_ext (by kernel_rfl) (by kernel_rfl) ?_
            repeat (go_big_quiet_step (first | (go_at_call 14; exact quiet_of_eq (QR.out _)) | (go_at_call 10; exact quiet_of_eq (QL.out _)) | (go_at_call 11; exact quiet_of_eq (QS.out _))))
            refine wpQuiet_nil ?_
            rintro _ ⟨x9, rfl⟩
            clear QR QL QS hrp hcp hlp
            go_wp2
            go_roundw
            case rel => exact ⟨k + 1, SS, FF, by omega, by go_num, HZZ.out, (HT.out.ext x9).drop⟩
            case measure => simp [intOf]; omega
          -- ENDTAIL0
        -- SWITCH
        · have h0 : (x.kind == 0) = false := by simpa using h0
          cases h1 : (x.kind == 1)
          case true =>
            have CS := Lib.hid (rsyncD h S F hz)
            go_wp2_with fail
            refine (syncT T.swap).mono ?_; clear T hc hlt; rintro e w5 ⟨rfl, T⟩
            go_wp2_with fail
            refine (Does.at1 CS.out T.rot2).mono ?_; clear T CS; rintro e w6 ⟨rfl, T⟩
            have T := T.rot2.swap2
            have T := plNil rfl T
            obtain ⟨SS, FF, hzz, TT⟩ : ∃ SS FF : List UInt8, SS.length + FF.length ≤ 65536 ∧ Sts w F0 _ [rowR wr.heap.size (PCV x), plR g (SS ++ FF) SS.length, rpR h SS FF] := ⟨_, _, (by rw [List.length_append]; simpa using hz), T⟩
            clear T
            have hrp : row? _ h = some (RPV ⟨strL SS, strL FF⟩) := TT.row2
            have hcp := row_cell hrp; have hlp := row_lt hrp
            have happ := strL_cat SS FF
            have z1 := strL_size SS; have z2 := strL_size FF
            have z3 : ((SS ++ FF).length : Int) = (SS.length : Int) + (FF.length : Int) := by rw [List.length_append]; omega
            have zz : (strL SS).size + (strL FF).size ≤ 9223372036854775807 := by omega
            have QR := fun x => readT (TT.drop.ext x); have QL := fun x => lenT (TT.drop.ext x); have QS := fun x => safeT (TT.drop.ext x)
            rw [show (⟨(SS ++ FF).toArray⟩ : ByteArray) = strL (SS ++ FF) from rfl, ← happ] at QR; rw [z3] at QL
            have QR := Lib.hid QR; have QL := Lib.hid QL; have QS := Lib.hid QS
            have HT := Lib.hid TT; clear TT happ z3
            have HZZ := Lib.hid hzz; clear hzz
            generalize strL SS = B1 at *; generalize strL FF = B2 at *
            go_upto_region 25 with fail
            refine wp_region_ext (by kernel_rfl) (by kernel_rfl) ?_
            repeat (go_big_quiet_step (first | (go_at_call 14; exact quiet_of_eq (QR.out _)) | (go_at_call 10; exact quiet_of_eq (QL.out _)) | (go_at_call 11; exact quiet_of_eq (QS.out _))))
            refine wpQuiet_nil ?_
            rintro _ ⟨x9, rfl⟩
            clear QR QL QS hrp hcp hlp
            go_wp2
            go_roundw
            case rel => exact ⟨k + 1, SS, FF, by omega, by go_num, HZZ.out, (HT.out.ext x9).drop⟩
            case measure => simp [intOf]; omega
          case false =>
            cases h2 : (x.kind == 2)
            case true =>
              by_cases hle : x.text.size ≤ 65536
              case pos =>
                have hle2 : decide ((x.text.size : Int) ≤ 65536) = true := by rw [decide_eq_true_eq]; omega
                have CRP := replaceT T.swap x.text (by omega)
                simp only [if_pos hle] at CRP
                have CRP := Lib.hid CRP
                go_wp2_with fail
                refine CRP.out.mono ?_; clear T CRP; rintro e w5 ⟨rfl, T⟩
                have T := T.swap
                have hc := row_cell T.row; have hlt := row_lt T.row
                have hrq : row? _ h = some (RPV ⟨strL S, strL F⟩) := T.row2
                have hcq := row_cell hrq; have hfq := row_frozen hrq; have hlq := row_lt hrq
                have hne : h ≠ wr.heap.size := fun e => T.swap2.ne e.symm
                have T := ((T.rot2 : Sts w F0 _ (rowR h (RPV ⟨strL S, strL F⟩) :: _)).setCell 0 (.string x.text)).setCell 1 (.string ⟨#[]⟩)
                rw [TRPlate_set_safe, TRPlate_set_soft] at T
                have T := T.rot2.rot2
                have T := plNil (D := x.text.data.toList) (by rw [Array.length_toList]; rfl) T
                clear hrq
                go_upto_region 25 with fail
                clear hcq hfq hlq hc hlt hne
                obtain ⟨SS, FF, hzz, TT⟩ : ∃ SS FF : List UInt8, SS.length + FF.length ≤ 65536 ∧ Sts w F0 _ [rowR wr.heap.size (PCV x), plR g (SS ++ FF) SS.length, rpR h SS FF] := ⟨_, _, (by rw [Array.length_toList]; simpa using hle), T⟩
                clear T
                have hrp : row? _ h = some (RPV ⟨strL SS, strL FF⟩) := TT.row2
                have hcp := row_cell hrp; have hlp := row_lt hrp
                have happ := strL_cat SS FF
                have z1 := strL_size SS; have z2 := strL_size FF
                have z3 : ((SS ++ FF).length : Int) = (SS.length : Int) + (FF.length : Int) := by rw [List.length_append]; omega
                have zz : (strL SS).size + (strL FF).size ≤ 9223372036854775807 := by omega
                have QR := fun x => readT (TT.drop.ext x); have QL := fun x => lenT (TT.drop.ext x); have QS := fun x => safeT (TT.drop.ext x)
                rw [show (⟨(SS ++ FF).toArray⟩ : ByteArray) = strL (SS ++ FF) from rfl, ← happ] at QR; rw [z3] at QL
                have QR := Lib.hid QR; have QL := Lib.hid QL; have QS := Lib.hid QS
                have HT := Lib.hid TT; clear TT happ z3
                have HZZ := Lib.hid hzz; clear hzz
                generalize strL SS = B1 at *; generalize strL FF = B2 at *
                go_upto_region 25 with fail
                refine wp_region_ext (by kernel_rfl) (by kernel_rfl) ?_
                repeat (go_big_quiet_step (first | (go_at_call 14; exact quiet_of_eq (QR.out _)) | (go_at_call 10; exact quiet_of_eq (QL.out _)) | (go_at_call 11; exact quiet_of_eq (QS.out _))))
                refine wpQuiet_nil ?_
                rintro _ ⟨x9, rfl⟩
                clear QR QL QS hrp hcp hlp
                go_wp2
                go_roundw
                case rel => exact ⟨k + 1, SS, FF, by omega, by go_num, HZZ.out, (HT.out.ext x9).drop⟩
                case measure => simp [intOf]; omega
              case neg =>
                have hle2 : decide ((x.text.size : Int) ≤ 65536) = false := by rw [decide_eq_false_iff_not]; omega
                have CRP := replaceT T.swap x.text (by omega)
                simp only [if_neg hle] at CRP
                have CRP := Lib.hid CRP
                go_wp2_with fail
                refine CRP.out.mono ?_; clear CRP; rintro e w5 ⟨rfl, rfl⟩
                go_upto_region 25 with fail
                clear hc hlt
                obtain ⟨SS, FF, hzz, TT⟩ : ∃ SS FF : List UInt8, SS.length + FF.length ≤ 65536 ∧ Sts w F0 _ [rowR wr.heap.size (PCV x), plR g (SS ++ FF) SS.length, rpR h SS FF] := ⟨_, _, hz, T⟩
                clear T
                have hrp : row? _ h = some (RPV ⟨strL SS, strL FF⟩) := TT.row2
                have hcp := row_cell hrp; have hlp := row_lt hrp
                have happ := strL_cat SS FF
                have z1 := strL_size SS; have z2 := strL_size FF
                have z3 : ((SS ++ FF).length : Int) = (SS.length : Int) + (FF.length : Int) := by rw [List.length_append]; omega
                have zz : (strL SS).size + (strL FF).size ≤ 9223372036854775807 := by omega
                have QR := fun x => readT (TT.drop.ext x); have QL := fun x => lenT (TT.drop.ext x); have QS := fun x => safeT (TT.drop.ext x)
                rw [show (⟨(SS ++ FF).toArray⟩ : ByteArray) = strL (SS ++ FF) from rfl, ← happ] at QR; rw [z3] at QL
                have QR := Lib.hid QR; have QL := Lib.hid QL; have QS := Lib.hid QS
                have HT := Lib.hid TT; clear TT happ z3
                have HZZ := Lib.hid hzz; clear hzz
                generalize strL SS = B1 at *; generalize strL FF = B2 at *
                go_upto_region 25 with fail
                refine wp_region_ext (by kernel_rfl) (by kernel_rfl) ?_
                repeat (go_big_quiet_step (first | (go_at_call 14; exact quiet_of_eq (QR.out _)) | (go_at_call 10; exact quiet_of_eq (QL.out _)) | (go_at_call 11; exact quiet_of_eq (QS.out _))))
                refine wpQuiet_nil ?_
                rintro _ ⟨x9, rfl⟩
                clear QR QL QS hrp hcp hlp
                go_wp2
                go_roundw
                case rel => exact ⟨k + 1, SS, FF, by omega, by go_num, HZZ.out, (HT.out.ext x9).drop⟩
                case measure => simp [intOf]; omega
            case false =>
              cases h3 : (x.kind == 3)
              case true =>
                obtain ⟨u, hu⟩ : ∃ u : UInt8, x.spoil = (u.toNat : Int) := ⟨UInt8.ofNat x.spoil.toNat, by rw [UInt8.toNat_ofNat']; omega⟩
                have CL := loseT T.swap (by rw [List.length_append]; omega) x.n hn u
                have CQ := rloseD h S F hz x.n u
                simp only [lost_split] at CL
                rw [← hu] at CL CQ
                clear hu
                have CL := Lib.hid CL; have CQ := Lib.hid CQ
                have hzl : (S ++ spoilt F (kLose F x.n) u).length ≤ 65536 := by
                  rw [List.length_append]
                  have : kLose F x.n ≤ F.length := by unfold kLose; omega
                  unfold spoilt; split
                  · simp; omega
                  · rw [List.length_append, List.length_take]; simp; omega
                go_wp2_with fail
                refine CL.out.mono ?_; clear T CL hc hlt; rintro e w5 ⟨rfl, T⟩
                have hc := row_cell T.row1; have hlt := row_lt T.row1
                go_wp2_with fail
                refine (Does.at1 CQ.out T.rot2).mono ?_; clear T CQ hc hlt; rintro e w6 ⟨rfl, T⟩
                have T := T.rot2.swap2
                generalize S ++ spoilt F (kLose F x.n) u = L at *
                have T := plNil rfl T
                obtain ⟨SS, FF, hzz, TT⟩ : ∃ SS FF : List UInt8, SS.length + FF.length ≤ 65536 ∧ Sts w F0 _ [rowR wr.heap.size (PCV x), plR g (SS ++ FF) SS.length, rpR h SS FF] := ⟨_, _, (by simpa using hzl), T⟩
                clear T
                have hrp : row? _ h = some (RPV ⟨strL SS, strL FF⟩) := TT.row2
                have hcp := row_cell hrp; have hlp := row_lt hrp
                have happ := strL_cat SS FF
                have z1 := strL_size SS; have z2 := strL_size FF
                have z3 : ((SS ++ FF).length : Int) = (SS.length : Int) + (FF.length : Int) := by rw [List.length_append]; omega
                have zz : (strL SS).size + (strL FF).size ≤ 9223372036854775807 := by omega
                have QR := fun x => readT (TT.drop.ext x); have QL := fun x => lenT (TT.drop.ext x); have QS := fun x => safeT (TT.drop.ext x)
                rw [show (⟨(SS ++ FF).toArray⟩ : ByteArray) = strL (SS ++ FF) from rfl, ← happ] at QR; rw [z3] at QL
                have QR := Lib.hid QR; have QL := Lib.hid QL; have QS := Lib.hid QS
                have HT := Lib.hid TT; clear TT happ z3
                have HZZ := Lib.hid hzz; clear hzz
                generalize strL SS = B1 at *; generalize strL FF = B2 at *
                go_upto_region 25 with fail
                refine wp_region_ext (by kernel_rfl) (by kernel_rfl) ?_
                repeat (go_big_quiet_step (first | (go_at_call 14; exact quiet_of_eq (QR.out _)) | (go_at_call 10; exact quiet_of_eq (QL.out _)) | (go_at_call 11; exact quiet_of_eq (QS.out _))))
                refine wpQuiet_nil ?_
                rintro _ ⟨x9, rfl⟩
                clear QR QL QS hrp hcp hlp
                go_wp2
                go_roundw
                case rel => exact ⟨k + 1, SS, FF, by omega, by go_num, HZZ.out, (HT.out.ext x9).drop⟩
                case measure => simp [intOf]; omega
              case false =>
                go_upto_region 25 with fail
                clear hc hlt
                obtain ⟨SS, FF, hzz, TT⟩ : ∃ SS FF : List UInt8, SS.length + FF.length ≤ 65536 ∧ Sts w F0 _ [rowR wr.heap.size (PCV x), plR g (SS ++ FF) SS.length, rpR h SS FF] := ⟨_, _, hz, T⟩
                clear T
                have hrp : row? _ h = some (RPV ⟨strL SS, strL FF⟩) := TT.row2
                have hcp := row_cell hrp; have hlp := row_lt hrp
                have happ := strL_cat SS FF
                have z1 := strL_size SS; have z2 := strL_size FF
                have z3 : ((SS ++ FF).length : Int) = (SS.length : Int) + (FF.length : Int) := by rw [List.length_append]; omega
                have zz : (strL SS).size + (strL FF).size ≤ 9223372036854775807 := by omega
                have QR := fun x => readT (TT.drop.ext x); have QL := fun x => lenT (TT.drop.ext x); have QS := fun x => safeT (TT.drop.ext x)
                rw [show (⟨(SS ++ FF).toArray⟩ : ByteArray) = strL (SS ++ FF) from rfl, ← happ] at QR; rw [z3] at QL
                have QR := Lib.hid QR; have QL := Lib.hid QL; have QS := Lib.hid QS
                have HT := Lib.hid TT; clear TT happ z3
                have HZZ := Lib.hid hzz; clear hzz
                generalize strL SS = B1 at *; generalize strL FF = B2 at *
                go_upto_region 25 with fail
                refine wp_region_ext (by kernel_rfl) (by kernel_rfl) ?_
                repeat (go_big_quiet_step (first | (go_at_call 14; exact quiet_of_eq (QR.out _)) | (go_at_call 10; exact quiet_of_eq (QL.out _)) | (go_at_call 11; exact quiet_of_eq (QS.out _))))
                refine wpQuiet_nil ?_
                rintro _ ⟨x9, rfl⟩
                clear QR QL QS hrp hcp hlp
                go_wp2
                go_roundw
                case rel => exact ⟨k + 1, SS, FF, by omega, by go_num, HZZ.out, (HT.out.ext x9).drop⟩
                case measure => simp [intOf]; omega
        -- END
    · obtain rfl : k = l.length := by omega
      clear hk hkl hz
      go_wp2_with fail
      refine (Ans.at (append_none _ _ _) (T.keep _)).mono ?_; clear T; rintro e w5 ⟨rfl, T⟩
      go_wp2_with fail
      refine (Ans.at sync_none T).mono ?_; clear T; rintro e w6 ⟨rfl, T⟩
      go_wp2_with fail
      refine (Ans.at (replace_none _) T).mono ?_; clear T; rintro e w7 ⟨rfl, T⟩
      go_wp2_with fail
      refine (Ans.at (lose_none _ _) T).mono ?_; clear T; rintro e w8 ⟨rfl, T⟩
      go_wp2_with fail
      refine (Ans.at read_none T).mono ?_; clear T; rintro e w9 ⟨rfl, T⟩
      go_wp2_with fail
      refine (Ans.at len_none T).mono ?_; clear T; rintro e w10 ⟨rfl, T⟩
      go_wp2_with fail
      refine (Ans.at safe_none T).mono ?_; clear T; rintro e w11 ⟨rfl, T⟩
      go_wp2
      go_ret
      exact ⟨rfl, T.nil.below⟩
end Go.Proofs.Ytdemkcfajeoaiaa
