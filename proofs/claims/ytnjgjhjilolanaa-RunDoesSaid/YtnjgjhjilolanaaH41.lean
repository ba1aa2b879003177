/- Several texts in one. -/
import Derived.Test.YtnjgjhjilolanaaH31
import Derived.Test.YtnjgjhjilolanaaH32
import Derived.Test.YtnjgjhjilolanaaH11
/- Layer 19: is an item committed? What a nil run answers. -/
namespace Go.Proofs.Ytnjgjhjilolanaa
open Go.RowKit Go.Shelf
set_option linter.unusedVariables false
set_option maxRecDepth 20000
attribute [local go_sem] row_alloc row_drew row_drewN row_ext row_setCell row_setRow size_ext setRow_alloc setRow_drew loadOf storeOf piece_lit loadVal_at storeVal_at allOne_lit buildOf buildRes_some
attribute [local go_sem high] cell_alloc frozen_alloc setCell_alloc cell_ext frozen_ext cell_setRow frozen_setRow
attribute [local go_sem ↓] TDeed_ld0 TDeed_st0 TDeed_fd0 TDeed_bd0
attribute [local go_sem] TDeed_size TDeed_one TDeed_piece TDeed_c0 TDeed_c1 TDeed_c2 TDeed_c3 TDeed_c4 TDeed_c5 TDeed_set_kind TDeed_set_key TDeed_set_val TDeed_set_ver TDeed_set_ses TDeed_set_num TDeed_ld TDeed_st TDeed_f_kind TDeed_f_key TDeed_f_val TDeed_f_ver TDeed_f_ses TDeed_f_num TDeed_bd TDeed_fl TDeed_fl_kind TDeed_fl_key TDeed_fl_val TDeed_fl_ver TDeed_fl_ses TDeed_fl_num
attribute [local go_sem high] TDeed_eql TDeed_neq
attribute [local go_sem ↓] index_deps0 load_deps0 store_deps0
attribute [local go_sem] DV_piece DV_size DV_one index_deps load_deps store_deps
attribute [local go_sem high] TDeps_eql TDeps_neq
attribute [local go_sem ↓] TCall_ld0 TCall_st0 TCall_fd0 TCall_bd0
attribute [local go_sem] TCall_size TCall_one TCall_piece TCall_c0 TCall_c1 TCall_c2 TCall_c3 TCall_c4 TCall_c5 TCall_c6 TCall_c7 TCall_c8 TCall_c9 TCall_c10 TCall_c11 TCall_c12 TCall_c13 TCall_p_deed TCall_put_deed TCall_p_deps TCall_put_deps TCall_set_seq TCall_ld TCall_st TCall_f_deed TCall_f_deps TCall_f_seq TCall_bd TCall_fl TCall_fl_deed TCall_fl_deps TCall_fl_seq
attribute [local go_sem high] TCall_eql TCall_neq
attribute [local go_sem ↓] TItem_ld0 TItem_st0 TItem_fd0 TItem_bd0
attribute [local go_sem] TItem_size TItem_one TItem_piece TItem_c0 TItem_c1 TItem_set_rep TItem_set_num TItem_ld TItem_st TItem_f_rep TItem_f_num TItem_bd TItem_fl TItem_fl_rep TItem_fl_num
attribute [local go_sem high] TItem_eql TItem_neq
section
variable {w W : World} {F : Nat → Prop} {R : List Res} {r : Nat} {m : RowsMK} {q : RowsML} {D O : List Item}
set_option maxHeartbeats 4000000 in
theorem runIsT (hm : 0 ≤ m.n ∧ m.n ≤ 7) (x : Item) (T : Sts w F W (runR r m q D O :: R)) :
    Calls Try.prog 40 #[.pointer (some ⟨r, 0, none⟩), .agg (IV x)] W fun e W' => e = .returned (.bool (getMK m x).isSome) ∧ Sts w F W' (runR r m q D O :: R) := by
  obtain ⟨b, gc, gd, vd, vo, T1⟩ := T.runOpen
  have HT := Lib.hid ((T1.new (IV x) 35).ord [1, 0, 2, 3, 4, 5, 6])
  have HOV := Lib.hid (grIsR b gc gd m q hm x)
  obtain ⟨ov, hov⟩ : ∃ v, v = (getMK m x).isSome := ⟨_, rfl⟩
  rw [← hov] at HOV ⊢
  clear T T1 hov
  go_enter Try.func40, Try.ntmps40
  go_upto_region 1 with fail
  generalize hw3 : W.alloc _ = w3 at *
  generalize W.heap.size = gx at *
  clear hw3
  have FS : ∀ W' R', Sts w F W' (rowR r (runC b vd vo) :: rowR gx (IV x) :: R') → (W'.cell? ⟨r, 0, none⟩ = some (.pointer (some ⟨b, 0, none⟩)) ∧ row? W' gx = some (IV x)) := fun W' R' T => ⟨row_cell T.row 0, T.row1⟩
  have HFS := Lib.hid FS
  have HT0 := Lib.hid HT.out.drew
  have S0 := HFS.out _ _ HT0.out
  clear HT FS
  refine wp_region_held_drew (S := fun W' => (W'.cell? ⟨r, 0, none⟩ = some (.pointer (some ⟨b, 0, none⟩)) ∧ row? W' gx = some (IV x))) (by kernel_rfl) S0 (fun hHeld => ?_)
  clear S0
  refine tkH 0 rfl ?_
  simp only [Act.put, List.setIfInBounds_toArray, List.set_cons_zero, List.set_cons_succ]
  refine tkH 1 rfl ?_
  go_frame
  refine tkH 2 rfl ?_
  go_frame
  refine tkH 3 rfl ?_
  go_frame
  refine tkH 4 rfl ?_
  go_frame
  refine tkH 5 rfl ?_
  go_frame
  refine tkH 6 rfl ?_
  go_frame
  refine tkH 7 rfl ?_
  go_frame
  refine wpAnyH_ready (rs := [8]) (by kernel_rfl) (by simp) ?_
  refine AllReadyH.cons (o := _) rfl (fun K hK => ?_) AllReadyH.nil
  go_simp
  refine (HOV.out.at (R := rowR r (runC b vd vo) :: rowR gx (IV x) :: _) (by have T0 := HT0.out.ord [2, 3, 4, 0, 1]; exact T0)).mono ?_
  clear HOV
  rintro e5 w5 ⟨rfl, hb⟩
  have HT := Lib.hid (HT0.out.pure hb)
  clear hb HT0
  refine hK.out _ _ (HFS.out _ _ HT.out) (fun hHeld => ?_)
  clear hK K HFS
  refine tkH 9 rfl ?_
  simp only [Act.put, List.setIfInBounds_toArray, List.set_cons_zero, List.set_cons_succ]
  refine tkH 10 rfl ?_
  go_frame
  refine wpAnyH_done (by kernel_rfl) ?_ _
  try simp only [Exit.then]
  have HT2 := Lib.hid ((HT.out.ord [1, 0]).drop.runShut)
  clear HT
  go_wp2
  go_ret
  exact ⟨rfl, HT2.out⟩
set_option maxHeartbeats 4000000 in
theorem noRunOver (x : Item) (T : Sts w F W R) : Calls Try.prog 39 #[.pointer none, .agg (IV x)] W fun e W' => e = .returned (.bool false) ∧ Sts w F W' R := by
  have T1 := T.new (IV x) 35
  have HT := Lib.hid T1; clear T T1
  go_enter Try.func39, Try.ntmps39
  go_upto_region 1 with fail
  generalize W.alloc _ = w3 at *
  have HT0 := Lib.hid HT.out.drew; clear HT
  refine wp_region_held_drew (S := fun _ => True) (by kernel_rfl) trivial (fun hHeld => ?_)
  refine tkH 0 rfl ?_
  simp only [Act.put, List.setIfInBounds_toArray, List.set_cons_zero, List.set_cons_succ]
  refine tkH 1 rfl ?_
  go_frame
  refine tkH 2 rfl ?_
  go_frame
  refine skH 3 rfl ?_
  simp only [Act.put, List.setIfInBounds_toArray, List.set_cons_zero, List.set_cons_succ]
  refine skH 4 rfl ?_
  go_frame
  refine skH 5 rfl ?_
  go_frame
  refine skH 6 rfl ?_
  go_frame
  refine skH 7 rfl ?_
  go_frame
  refine skH 8 rfl ?_
  go_frame
  refine tkH 9 rfl ?_
  simp only [Act.put, List.setIfInBounds_toArray, List.set_cons_zero, List.set_cons_succ]
  refine tkH 10 rfl ?_
  go_frame
  refine wpAnyH_done (by kernel_rfl) ?_ _
  try simp only [Exit.then]
  go_wp2
  go_ret
  exact ⟨rfl, HT0.out.drop⟩
set_option maxHeartbeats 4000000 in
theorem noRunIs (x : Item) (T : Sts w F W R) : Calls Try.prog 40 #[.pointer none, .agg (IV x)] W fun e W' => e = .returned (.bool false) ∧ Sts w F W' R := by
  have T1 := T.new (IV x) 35
  have HT := Lib.hid T1; clear T T1
  go_enter Try.func40, Try.ntmps40
  go_upto_region 1 with fail
  generalize W.alloc _ = w3 at *
  have HT0 := Lib.hid HT.out.drew; clear HT
  refine wp_region_held_drew (S := fun _ => True) (by kernel_rfl) trivial (fun hHeld => ?_)
  refine tkH 0 rfl ?_
  simp only [Act.put, List.setIfInBounds_toArray, List.set_cons_zero, List.set_cons_succ]
  refine tkH 1 rfl ?_
  go_frame
  refine tkH 2 rfl ?_
  go_frame
  refine skH 3 rfl ?_
  simp only [Act.put, List.setIfInBounds_toArray, List.set_cons_zero, List.set_cons_succ]
  refine skH 4 rfl ?_
  go_frame
  refine skH 5 rfl ?_
  go_frame
  refine skH 6 rfl ?_
  go_frame
  refine skH 7 rfl ?_
  go_frame
  refine skH 8 rfl ?_
  go_frame
  refine tkH 9 rfl ?_
  simp only [Act.put, List.setIfInBounds_toArray, List.set_cons_zero, List.set_cons_succ]
  refine tkH 10 rfl ?_
  go_frame
  refine wpAnyH_done (by kernel_rfl) ?_ _
  try simp only [Exit.then]
  go_wp2
  go_ret
  exact ⟨rfl, HT0.out.drop⟩
set_option maxHeartbeats 4000000 in
theorem noRunCommit (x : Item) (c : Call) (T : Sts w F W R) : Calls Try.prog 28 #[.pointer none, .agg (IV x), .agg (CV c)] W fun e W' => e = .returned (.bool false) ∧ Sts w F W' R := by
  have T1 := (T.new (IV x) 35).new (CV c) 47
  have HT := Lib.hid T1; clear T T1
  go_enter Try.func28, Try.ntmps28
  go_upto_region 1 with fail
  generalize World.alloc _ _ = w3 at *
  have HT0 := Lib.hid HT.out.drew; clear HT
  refine wp_region_held_drew (S := fun _ => True) (by kernel_rfl) trivial (fun hHeld => ?_)
  refine tkH 0 rfl ?_
  simp only [Act.put, List.setIfInBounds_toArray, List.set_cons_zero, List.set_cons_succ]
  refine tkH 1 rfl ?_
  go_frame
  refine tkH 2 rfl ?_
  go_frame
  refine skH 3 rfl ?_
  simp only [Act.put, List.setIfInBounds_toArray, List.set_cons_zero, List.set_cons_succ]
  refine skH 4 rfl ?_
  go_frame
  refine skH 5 rfl ?_
  go_frame
  refine skH 6 rfl ?_
  go_frame
  refine skH 7 rfl ?_
  go_frame
  refine skH 8 rfl ?_
  go_frame
  refine skH 9 rfl ?_
  go_frame
  refine skH 10 rfl ?_
  go_frame
  refine tkH 11 rfl ?_
  simp only [Act.put, List.setIfInBounds_toArray, List.set_cons_zero, List.set_cons_succ]
  refine wpAnyH_done (by kernel_rfl) ?_ _
  try simp only [Exit.then]
  go_wp2
  go_ret
  exact ⟨rfl, HT0.out.drop.drop⟩
theorem noRunMissing (T : Sts w F W R) : Calls Try.prog 34 #[.pointer none] W fun e W' => e = .returned (.slice none 0 0) ∧ Sts w F W' R := by
  have HT := Lib.hid T; clear T
  go_enter Try.func34, Try.ntmps34
  go_wp2
  go_ret
  exact ⟨by first | rfl | kernel_rfl | simp, HT.out⟩
theorem noRunDone (T : Sts w F W R) : Calls Try.prog 30 #[.pointer none] W fun e W' => e = .returned (.slice none 0 0) ∧ Sts w F W' R := by
  have HT := Lib.hid T; clear T
  go_enter Try.func30, Try.ntmps30
  go_wp2
  go_ret
  exact ⟨by first | rfl | kernel_rfl | simp, HT.out⟩
theorem noRunOpen (T : Sts w F W R) : Calls Try.prog 33 #[.pointer none] W fun e W' => e = .returned (.slice none 0 0) ∧ Sts w F W' R := by
  have HT := Lib.hid T; clear T
  go_enter Try.func33, Try.ntmps33
  go_wp2
  go_ret
  exact ⟨by first | rfl | kernel_rfl | simp, HT.out⟩
theorem noRunGo (T : Sts w F W R) :
    Calls Try.prog 31 #[.pointer none] W fun e W' => ∃ g1, e = .returned (.func (.func 57) #[] #[.pointer (some ⟨g1, 0, none⟩)]) ∧ Sts w F W' (rowR g1 #[.pointer none] :: R) := by
  have T1 := T.new #[.pointer none] 60
  have HT := Lib.hid T1; clear T T1
  go_enter Try.func31, Try.ntmps31
  go_wp2
  go_ret
  exact ⟨_, rfl, HT.out⟩
theorem noRunGoG {g1 : Nat} (enc : Item → Array Value) : GivesT Try.prog 57 #[.pointer (some ⟨g1, 0, none⟩)] enc [rowR g1 #[.pointer none]] [rowR g1 #[.pointer none]] (fun xs => xs = []) := by
  intro l own ownX hY w F W R T
  clear hY
  have T : Sts w F W (rowR g1 #[.pointer none] :: (own [] ++ R)) := T.perm perm_mid
  have r1 := T.row; have l1 := row_lt r1; have c1 := row_cell r1 0
  have HT := Lib.hid T; clear T
  refine callsIn_of_wp Try.func57 rfl trivial ?_ rfl
  simp only [Try.ntmps57, List.size_toArray, List.length_cons, List.length_nil, Nat.reduceAdd, Nat.reduceSub, Array.replicate_succ, Array.replicate_zero, List.push_toArray, List.append_toArray, List.nil_append, List.cons_append]
  gi_wp2
  refine bodyPost_ret (results_none rfl _ _ _) rfl ?_
  refine ⟨⟨_, rfl⟩, .inl ⟨[], rfl, ?_⟩⟩
  have T9 : Sts w F W ([rowR g1 #[.pointer none]] ++ (own [] ++ R)) := HT.out
  exact T9.perm (perm_mid (M := own []) (X := [rowR g1 #[.pointer none]])).symm
end
end Go.Proofs.Ytnjgjhjilolanaa
/- A frame of 253 slots, written out. Nothing of the program stands here. -/
namespace Go.Proofs.Ytnjgjhjilolanaa
open Go.RowKit
set_option linter.unusedVariables false
theorem toArray_getD : ∀ (l : List Value), l.toArray = ((List.range l.length).map (fun i => l.toArray.getD i undef)).toArray := fun l => by
  congr 1
  refine List.ext_getElem (by simp) fun i h1 h2 => ?_
  simp [h1]
set_option maxRecDepth 20000 in
theorem fr_open (t : Array Value) (h : t.size = 253) : ∃ f : Nat → Value, (∀ i, t.getD i undef = f i) ∧ t = List.toArray (f 0 :: f 1 :: f 2 :: f 3 :: f 4 :: f 5 :: f 6 :: f 7 :: f 8 :: f 9 :: f 10 :: f 11 :: f 12 :: f 13 :: f 14 :: f 15 :: f 16 :: f 17 :: f 18 :: f 19 :: f 20 :: f 21 :: f 22 :: f 23 :: f 24 :: f 25 :: f 26 :: f 27 :: f 28 :: f 29 :: f 30 :: f 31 :: f 32 :: f 33 :: f 34 :: f 35 :: f 36 :: f 37 :: f 38 :: f 39 :: f 40 :: f 41 :: f 42 :: f 43 :: f 44 :: f 45 :: f 46 :: f 47 :: f 48 :: f 49 :: f 50 :: f 51 :: f 52 :: f 53 :: f 54 :: f 55 :: f 56 :: f 57 :: f 58 :: f 59 :: f 60 :: f 61 :: f 62 :: f 63 :: f 64 :: f 65 :: f 66 :: f 67 :: f 68 :: f 69 :: f 70 :: f 71 :: f 72 :: f 73 :: f 74 :: f 75 :: f 76 :: f 77 :: f 78 :: f 79 :: f 80 :: f 81 :: f 82 :: f 83 :: f 84 :: f 85 :: f 86 :: f 87 :: f 88 :: f 89 :: f 90 :: f 91 :: f 92 :: f 93 :: f 94 :: f 95 :: f 96 :: f 97 :: f 98 :: f 99 :: f 100 :: f 101 :: f 102 :: f 103 :: f 104 :: f 105 :: f 106 :: f 107 :: f 108 :: f 109 :: f 110 :: f 111 :: f 112 :: f 113 :: f 114 :: f 115 :: f 116 :: f 117 :: f 118 :: f 119 :: f 120 :: f 121 :: f 122 :: f 123 :: f 124 :: f 125 :: f 126 :: f 127 :: f 128 :: f 129 :: f 130 :: f 131 :: f 132 :: f 133 :: f 134 :: f 135 :: f 136 :: f 137 :: f 138 :: f 139 :: f 140 :: f 141 :: f 142 :: f 143 :: f 144 :: f 145 :: f 146 :: f 147 :: f 148 :: f 149 :: f 150 :: f 151 :: f 152 :: f 153 :: f 154 :: f 155 :: f 156 :: f 157 :: f 158 :: f 159 :: f 160 :: f 161 :: f 162 :: f 163 :: f 164 :: f 165 :: f 166 :: f 167 :: f 168 :: f 169 :: f 170 :: f 171 :: f 172 :: f 173 :: f 174 :: f 175 :: f 176 :: f 177 :: f 178 :: f 179 :: f 180 :: f 181 :: f 182 :: f 183 :: f 184 :: f 185 :: f 186 :: f 187 :: f 188 :: f 189 :: f 190 :: f 191 :: f 192 :: f 193 :: f 194 :: f 195 :: f 196 :: f 197 :: f 198 :: f 199 :: f 200 :: f 201 :: f 202 :: f 203 :: f 204 :: f 205 :: f 206 :: f 207 :: f 208 :: f 209 :: f 210 :: f 211 :: f 212 :: f 213 :: f 214 :: f 215 :: f 216 :: f 217 :: f 218 :: f 219 :: f 220 :: f 221 :: f 222 :: f 223 :: f 224 :: f 225 :: f 226 :: f 227 :: f 228 :: f 229 :: f 230 :: f 231 :: f 232 :: f 233 :: f 234 :: f 235 :: f 236 :: f 237 :: f 238 :: f 239 :: f 240 :: f 241 :: f 242 :: f 243 :: f 244 :: f 245 :: f 246 :: f 247 :: f 248 :: f 249 :: f 250 :: f 251 :: f 252 :: []) := by
  refine ⟨fun i => t.getD i undef, fun _ => rfl, ?_⟩
  have h1 := toArray_getD t.toList
  rw [Array.toArray_toList, Array.length_toList, h] at h1
  exact h1
end Go.Proofs.Ytnjgjhjilolanaa
