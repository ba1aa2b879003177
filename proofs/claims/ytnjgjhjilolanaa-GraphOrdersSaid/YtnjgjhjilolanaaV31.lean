/- Several texts in one. -/
import Derived.Test.YtnjgjhjilolanaaV19
import Derived.Test.YtnjgjhjilolanaaV22
import Derived.Test.YtnjgjhjilolanaaV23
import Derived.Test.YtnjgjhjilolanaaV30
/- GraphOnce: what is committed stays, with its first call; what can't be isn't, and nothing is done by it. -/
namespace Go.Proofs.Ytnjgjhjilolanaa
open Go.RowKit Go.Shelf
set_option linter.unusedVariables false
set_option maxRecDepth 20000
attribute [local go_sem] Oper.semAt_some
attribute [local go_sem] row_alloc row_drew row_drewN row_ext row_setCell row_setRow size_ext setRow_alloc setRow_drew loadOf storeOf piece_lit loadVal_at storeVal_at allOne_lit buildOf buildRes_some
attribute [local go_sem high] cell_alloc frozen_alloc setCell_alloc cell_ext frozen_ext cell_setRow frozen_setRow
attribute [local go_sem ↓] TDeed_ld0 TDeed_st0 TDeed_fd0 TDeed_bd0
attribute [local go_sem] TDeed_size TDeed_one TDeed_piece TDeed_c0 TDeed_c1 TDeed_c2 TDeed_c3 TDeed_c4 TDeed_c5 TDeed_set_kind TDeed_set_key TDeed_set_val TDeed_set_ver TDeed_set_ses TDeed_set_num TDeed_ld TDeed_st TDeed_f_kind TDeed_f_key TDeed_f_val TDeed_f_ver TDeed_f_ses TDeed_f_num TDeed_bd TDeed_fl TDeed_fl_kind TDeed_fl_key TDeed_fl_val TDeed_fl_ver TDeed_fl_ses TDeed_fl_num
attribute [local go_sem high] TDeed_eql TDeed_neq
attribute [local go_sem ↓] index_deps0 load_deps0 store_deps0
attribute [local go_sem] DV_piece DV_size DV_one index_deps load_deps store_deps
attribute [local go_sem high] TDeps_eql TDeps_neq
attribute [local go_sem ↓] TCall_ld0 TCall_st0 TCall_fd0 TCall_bd0
attribute [local go_sem] TCall_size TCall_one TCall_piece TCall_c0 TCall_c1 TCall_c2 TCall_c3 TCall_c4 TCall_c5 TCall_c6 TCall_c7 TCall_c8 TCall_c9 TCall_c10 TCall_c11 TCall_c12 TCall_c13 TCall_p_deed TCall_put_deed TCall_p_deps TCall_put_deps TCall_set_seq TCall_ld TCall_st TCall_f_deed TCall_f_deps TCall_f_seq TCall_bd TCall_fl TCall_fl_deed TCall_fl_deps TCall_fl_seq
attribute [local go_sem high] TCall_eql TCall_neq
attribute [local go_sem ↓] TItem_ld0 TItem_st0 TItem_fd0 TItem_bd0
attribute [local go_sem] TItem_size TItem_one TItem_piece TItem_c0 TItem_c1 TItem_set_rep TItem_set_num TItem_ld TItem_st TItem_f_rep TItem_f_num TItem_bd TItem_fl TItem_fl_rep TItem_fl_num
attribute [local go_sem high] TItem_eql TItem_neq
theorem vec_load {α : Type} {V : α → Array Value} {size : Nat} {P : Program} {e : TypeId} {td : TypeDesc} {w W : World} {F : Nat → Prop} {R : List Res} {A : Option Addr} {k c : Nat} {l : List α} {i : Nat} {y : α} (hV : ∀ x, (V x).size = size) (h0 : 0 < size) (hu : P.underlying e = some td) (hd : td.isRow = true) (hi : (P.info? e).map (·.size) = some size) (T : Sts w F W (vecR e size (.slice A k c) k (vl V l) :: R)) (hk : k = l.length) (hy : l[i]? = some y) (hl : k ≤ 1000000) :
    ∃ g, A = some ⟨g, 0, none⟩ ∧ loadVal P e size W (.pointer (some ⟨g, i * size, none⟩)) = .ok (.agg (V y)) W := by
  subst hk
  obtain ⟨A', c', hv, hA, -, hA0⟩ := vec_rows hV T h0 (by omega)
  injection hv with e1 e2 e3
  subst e1
  obtain ⟨hil, rfl⟩ := List.getElem?_eq_some_iff.1 hy
  cases hh : A with
  | none => have := hA.nil hh; subst this; simp at hil
  | some a =>
    obtain ⟨g, rfl⟩ := hA0 a hh
    have hld := hA.load (P := P) (T := e) hV hu hd hi (Below.refl _ _) hh hil
    rw [add_none, Nat.zero_add] at hld
    exact ⟨g, rfl, hld⟩
end Go.Proofs.Ytnjgjhjilolanaa
/- GraphDone: what is to be done, once done, isn't any more, and nothing of it for any other item. -/
namespace Go.Proofs.Ytnjgjhjilolanaa
open Go.RowKit Go.Shelf
set_option linter.unusedVariables false
set_option maxRecDepth 20000
attribute [local go_sem] Oper.semAt_some
attribute [local go_sem] row_alloc row_drew row_drewN row_ext row_setCell row_setRow size_ext setRow_alloc setRow_drew loadOf storeOf piece_lit loadVal_at storeVal_at allOne_lit buildOf buildRes_some
attribute [local go_sem high] cell_alloc frozen_alloc setCell_alloc cell_ext frozen_ext cell_setRow frozen_setRow
attribute [local go_sem ↓] TDeed_ld0 TDeed_st0 TDeed_fd0 TDeed_bd0
attribute [local go_sem] TDeed_size TDeed_one TDeed_piece TDeed_c0 TDeed_c1 TDeed_c2 TDeed_c3 TDeed_c4 TDeed_c5 TDeed_set_kind TDeed_set_key TDeed_set_val TDeed_set_ver TDeed_set_ses TDeed_set_num TDeed_ld TDeed_st TDeed_f_kind TDeed_f_key TDeed_f_val TDeed_f_ver TDeed_f_ses TDeed_f_num TDeed_bd TDeed_fl TDeed_fl_kind TDeed_fl_key TDeed_fl_val TDeed_fl_ver TDeed_fl_ses TDeed_fl_num
attribute [local go_sem high] TDeed_eql TDeed_neq
attribute [local go_sem ↓] index_deps0 load_deps0 store_deps0
attribute [local go_sem] DV_piece DV_size DV_one index_deps load_deps store_deps
attribute [local go_sem high] TDeps_eql TDeps_neq
attribute [local go_sem ↓] TCall_ld0 TCall_st0 TCall_fd0 TCall_bd0
attribute [local go_sem] TCall_size TCall_one TCall_piece TCall_c0 TCall_c1 TCall_c2 TCall_c3 TCall_c4 TCall_c5 TCall_c6 TCall_c7 TCall_c8 TCall_c9 TCall_c10 TCall_c11 TCall_c12 TCall_c13 TCall_p_deed TCall_put_deed TCall_p_deps TCall_put_deps TCall_set_seq TCall_ld TCall_st TCall_f_deed TCall_f_deps TCall_f_seq TCall_bd TCall_fl TCall_fl_deed TCall_fl_deps TCall_fl_seq
attribute [local go_sem high] TCall_eql TCall_neq
attribute [local go_sem ↓] TItem_ld0 TItem_st0 TItem_fd0 TItem_bd0
attribute [local go_sem] TItem_size TItem_one TItem_piece TItem_c0 TItem_c1 TItem_set_rep TItem_set_num TItem_ld TItem_st TItem_f_rep TItem_f_num TItem_bd TItem_fl TItem_fl_rep TItem_fl_num
attribute [local go_sem high] TItem_eql TItem_neq
attribute [local go_sem] mkMapW
section
variable {w W : World} {F : Nat → Prop} {R : List Res}
theorem map_split {α β : Type} (f : α → β) {l : List α} {k : Nat} {a : α} (hk : l[k]? = some a) : (l.map f).Perm (f a :: (l.take k ++ l.drop (k + 1)).map f) := by
  obtain ⟨hkl, rfl⟩ := List.getElem?_eq_some_iff.1 hk
  have h : l = l.take k ++ l[k] :: l.drop (k + 1) := by
    rw [← List.drop_eq_getElem_cons hkl, List.take_append_drop]
  conv => lhs; rw [h]
  rw [List.map_append, List.map_cons, List.map_append]
  exact List.perm_middle
theorem Sts.pick {α : Type} {f : α → Res} {l : List α} {k : Nat} {a : α} (hk : l[k]? = some a) (T : Sts w F W (packR (l.map f) :: R)) : Sts w F W (f a :: packR ((l.take k ++ l.drop (k + 1)).map f) :: R) := by
  have T1 := T.unpack
  have T2 : Sts w F W (f a :: ((l.take k ++ l.drop (k + 1)).map f ++ R)) := T1.perm ((map_split f hk).append_right R)
  exact T2.pack1
/-- A part's slice. -/
def ptR (p : Value × List Item) : Res := vecR 35 2 p.1 p.2.length (vl IV p.2)
theorem Sts.paOpen2 {v : Value} {pa : List (List Item)} (T : Sts w F W (paR v pa :: R)) : ∃ (pv : List (Value × List Item)) (A : Option Addr) (c : Nat), pv.map (·.2) = pa ∧ v = .slice A pv.length c ∧ Sts w F W (vecR 30 1 (.slice A pv.length c) pv.length (vl PV pv) :: packR (pv.map ptR) :: R) := by
  obtain ⟨pv, h, T1⟩ := T.paOpen
  obtain ⟨A, c, rfl⟩ := vec_shape2 T1
  exact ⟨pv, A, c, h, rfl, T1.pack1⟩
/-- What a part's slice is, where it stands. -/
theorem part_at {A : Option Addr} {c : Nat} {pv : List (Value × List Item)} (T : Sts w F W (vecR 30 1 (.slice A pv.length c) pv.length (vl PV pv) :: packR (pv.map ptR) :: R)) {k : Nat} {p : Value × List Item} (hk : pv[k]? = some p) :
    ∃ gp B d, A = some ⟨gp, 0, none⟩ ∧ W.cell? ⟨gp, k, none⟩ = some (.slice B p.2.length d) ∧ p.1 = .slice B p.2.length d := by
  obtain ⟨hkl, rfl⟩ := List.getElem?_eq_some_iff.1 hk
  obtain ⟨gp, c', hv, -, hcell⟩ := vec_cell PV_size T (by omega) hkl
  injection hv with e1 e2 e3
  have T2 : Sts w F W (ptR pv[k] :: _) := (T.swap).pick hk
  obtain ⟨B, d, hb⟩ := vec_shape2 (show Sts w F W (vecR 35 2 pv[k].1 pv[k].2.length (vl IV pv[k].2) :: _) from T2)
  refine ⟨gp, B, d, e1, ?_, hb⟩
  have := hcell 0 pv[k].1 rfl
  rw [Nat.mul_one, Nat.add_zero] at this
  rw [this, hb]
theorem part_item {A : Option Addr} {c : Nat} {pv : List (Value × List Item)} (T : Sts w F W (vecR 30 1 (.slice A pv.length c) pv.length (vl PV pv) :: packR (pv.map ptR) :: R)) {k : Nat} {p : Value × List Item} (hk : pv[k]? = some p) {B : Option Addr} {d : Nat} (hp : p.1 = .slice B p.2.length d) (hl : p.2.length ≤ 1000000) {i : Nat} {y : Item} (hy : p.2[i]? = some y) :
    ∃ gi, B = some ⟨gi, 0, none⟩ ∧ loadVal Try.prog 35 2 W (.pointer (some ⟨gi, i * 2, none⟩)) = .ok (.agg (IV y)) W := by
  have T2 : Sts w F W (ptR p :: _) := (T.swap).pick hk
  have hq : ptR p = vecR 35 2 (.slice B p.2.length d) p.2.length (vl IV p.2) := by unfold ptR; rw [hp]
  rw [hq] at T2
  exact vec_load (P := Try.prog) (e := 35) TItem_size (by omega) TItem_und rfl (by kernel_rfl) T2 rfl hy hl
end
end Go.Proofs.Ytnjgjhjilolanaa
/- Layer 18, plain: what a search tells: all that its items wait for is told, too, or something is missing. No walk stands here. -/
namespace Go.Proofs.Ytnjgjhjilolanaa
open Go.RowKit
set_option linter.unusedVariables false
/-- An item that reaches one that isn't committed, over such as are committed, and not over. -/
inductive Bad (m : RowsMK) (q : RowsML) : Item → Prop
  | here {y z : Item} : (getMK m y).isSome = true → (getML q y).isSome = false → z ∈ waitsM m q y → (getMK m z).isSome = false → Bad m q y
  | up {y z : Item} : (getMK m y).isSome = true → (getML q y).isSome = false → z ∈ waitsM m q y → Bad m q z → Bad m q y
structure EInv (m : RowsMK) (q : RowsML) (x : Item) (S : WS) (ps : List Item) : Prop where
  ne : ∀ p ∈ S.pa, p ≠ []
  bb : ∀ y ∈ ps, Bad m q y → Bad m q x
  nxr : ∀ f ∈ S.fr, ∀ z ∈ f.2, z ∈ waitsM m q f.1
  clo : ∀ y ∈ ps, ∀ z ∈ waitsM m q y, z ∈ ps ∨ z ∈ S.mi ∨ ∃ f ∈ S.fr, f.1 = y ∧ z ∈ f.2
  mis : ∀ z ∈ S.mi, (getMK m z).isSome = false ∧ ∃ y ∈ ps, z ∈ waitsM m q y
  min : S.mi.Nodup
  sth : S.fr ≠ [] → ∃ t, S.st = x :: t
  stn : S.fr = [] → S.st = []
theorem idxN_nn {x : Item} {l : List Item} (h : ¬ idxN x l < l.length) : x ∉ l := fun hc => h (idxN_lt.2 hc)
section
variable {m : RowsMK} {q : RowsML} {its : List Item} {S : WS} {ps : List Item} {x : Item}
theorem EInv.push (h : EInv m q x S ps) {y : Item} (hf : S.fr ≠ []) (hb : Bad m q y → Bad m q x) : EInv m q x (pushM m q y S) (ps ++ [y]) where
  ne := h.ne
  bb z hz := by
    rcases List.mem_append.1 hz with hz | hz
    · exact h.bb z hz
    · simp at hz; subst hz; exact hb
  nxr f hf z hz := by
    rcases List.mem_append.1 (show f ∈ S.fr ++ [(y, waitsM m q y)] from hf) with hf | hf
    · exact h.nxr f hf z hz
    · simp at hf; subst hf; exact hz
  clo z hz u hu := by
    show u ∈ ps ++ [y] ∨ u ∈ S.mi ∨ ∃ f ∈ S.fr ++ [(y, waitsM m q y)], f.1 = z ∧ u ∈ f.2
    rcases List.mem_append.1 hz with hz | hz
    · rcases h.clo z hz u hu with h1 | h1 | ⟨f, hf, h1, h2⟩
      · exact .inl (by simp [h1])
      · exact .inr (.inl h1)
      · exact .inr (.inr ⟨f, by simp [hf], h1, h2⟩)
    · simp at hz
      subst hz
      exact .inr (.inr ⟨(z, waitsM m q z), by simp, rfl, hu⟩)
  mis z hz := by
    obtain ⟨h1, y', h2, h3⟩ := h.mis z hz
    exact ⟨h1, y', by simp [h2], h3⟩
  min := h.min
  sth _ := by
    obtain ⟨t, ht⟩ := h.sth hf
    exact ⟨t ++ [y], by show S.st ++ [y] = _; rw [ht]; rfl⟩
  stn hc := by
    have : S.fr ++ [(y, waitsM m q y)] = [] := hc
    simp at this
theorem EInv.lo (h : EInv m q x S ps) (f : Item → Option Int) : EInv m q x { S with lo := f } ps := ⟨h.ne, h.bb, h.nxr, h.clo, h.mis, h.min, h.sth, h.stn⟩
theorem EInv.pop (h : EInv m q x S ps) (hD : DInv m q x S ps) (hW : WInv m q its S ps) {frs : List (Item × List Item)} {y : Item} (hf : S.fr = frs ++ [(y, [])]) : EInv m q x (popM m S frs y) ps := by
  have hnx : ∀ f ∈ frs, ∀ z ∈ f.2, z ∈ waitsM m q f.1 := fun f hm => h.nxr f (by rw [hf]; simp [hm])
  have hclo : ∀ y ∈ ps, ∀ z ∈ waitsM m q y, z ∈ ps ∨ z ∈ S.mi ∨ ∃ f ∈ frs, f.1 = y ∧ z ∈ f.2 := fun u hu z hz => by
    rcases h.clo u hu z hz with h1 | h1 | ⟨f, hf2, h1, h2⟩
    · exact .inl h1
    · exact .inr (.inl h1)
    · rw [hf] at hf2
      rcases List.mem_append.1 hf2 with h3 | h3
      · exact .inr (.inr ⟨f, h3, h1, h2⟩)
      · simp at h3; subst h3; simp at h2
  obtain ⟨t, ht⟩ := h.sth (by rw [hf]; simp)
  have hyx : frs ≠ [] → y ≠ x := fun hne => by
    have hn : (frs.map (·.1) ++ [y]).Nodup := by
      have := hW.fr
      rw [hf, List.map_append] at this
      exact this.nodup hW.stn
    rw [List.nodup_append] at hn
    cases hfr : frs with
    | nil => exact absurd hfr hne
    | cons a b =>
      have ha : a.1 = x := hD.head a (b ++ [(y, [])]) (by rw [hf, hfr]; rfl)
      have := hn.2.2 a.1 (by rw [hfr]; simp) y (by simp)
      rw [ha] at this
      exact fun e => this e.symm
  have hxy : frs = [] → y = x := fun he => by
    subst he
    exact hD.head (y, []) [] (by rw [hf]; rfl)
  have hD' := hD.pop hW hf
  have hW' := hW.pop (its := its) hf
  unfold popM at hD' hW' ⊢
  split
  · rename_i hc
    rw [if_pos hc] at hD' hW'
    exact {
      ne := fun p hp => by
        rcases List.mem_append.1 (show p ∈ S.pa ++ [sortM m (S.st.drop (idxN y S.st))] from hp) with hp | hp
        · exact h.ne p hp
        · simp at hp
          intro he
          rw [he] at hp
          have h1 := congrArg List.length hp
          rw [sortM_length, List.length_drop] at h1
          have h2 : idxN y S.st < S.st.length := idxN_lt.2 (hW.top hf)
          simp at h1
          omega
      bb := h.bb
      nxr := hnx
      clo := hclo
      mis := h.mis
      min := h.min
      sth := fun hne => by
        have hne : frs ≠ [] := hne
        show ∃ t, S.st.take (idxN y S.st) = x :: t
        rw [ht]
        have hid : idxN y (x :: t) = idxN y t + 1 := by
          unfold idxN
          rw [List.findIdx_cons]
          have : eqA (IV y) (IV x) = false := eqA_no.2 fun e => hyx hne (IV_eq e)
          rw [this]
          rfl
        rw [hid]
        exact ⟨_, rfl⟩
      stn := fun he => by
        have hy := hxy he
        subst hy
        show S.st.take (idxN y S.st) = []
        rw [ht]
        have hid : idxN y (y :: t) = 0 := by
          unfold idxN
          rw [List.findIdx_cons, eqA_refl]
          rfl
        rw [hid]
        rfl }
  · rename_i hc
    rw [if_neg hc] at hD' hW'
    exact {
      ne := h.ne
      bb := h.bb
      nxr := hnx
      clo := hclo
      mis := h.mis
      min := h.min
      sth := fun _ => ⟨t, ht⟩
      stn := fun he => by
        exfalso
        have h1 : x ∈ S.pa.flatten := hD'.last he
        have hn : (S.pa.flatten ++ S.st).Nodup := hD.perm.nodup_iff.2 hW.nodup
        rw [List.nodup_append] at hn
        exact hn.2.2 x h1 x (by rw [ht]; simp) rfl }
theorem EInv.next (h : EInv m q x S ps) (hD : DInv m q x S ps) (hW : WInv m q its S ps) {frs : List (Item × List Item)} {z y : Item} {l : List Item} (hf : S.fr = frs ++ [(z, y :: l)]) :
    ∃ ps', EInv m q x (nextM m q S frs z y l) ps' ∧ ((ps' = ps ∧ ((getMK m y).isSome = true → (S.ix y).isSome = true)) ∨ ((getMK m y).isSome = true ∧ S.ix y = none ∧ ps' = ps ++ [y])) := by
  have hzy : y ∈ waitsM m q z := h.nxr (z, y :: l) (by rw [hf]; simp) y (by simp)
  have hzp : z ∈ ps := hW.st z (hW.top hf)
  have hbz : Bad m q y → Bad m q x := fun hb => h.bb z hzp (.up (hW.is z hzp) (hD.nov z hzp) hzy hb)
  have key : ∀ (mi : List Item), (∀ u ∈ mi, (getMK m u).isSome = false ∧ ∃ y ∈ ps, u ∈ waitsM m q y) → mi.Nodup → (∀ u ∈ S.mi, u ∈ mi) → (y ∈ ps ∨ y ∈ mi) → EInv m q x { S with fr := frs ++ [(z, l)], mi := mi } ps := fun mi hmi hnd hsub hy => {
    ne := h.ne
    bb := h.bb
    nxr := fun f hm u hu => by
      rcases List.mem_append.1 hm with hm | hm
      · exact h.nxr f (by rw [hf]; simp [hm]) u hu
      · simp at hm; subst hm; exact h.nxr (z, y :: l) (by rw [hf]; simp) u (by simp [show u ∈ l from hu])
    clo := fun v hv u hu => by
      show u ∈ ps ∨ u ∈ mi ∨ ∃ f ∈ frs ++ [(z, l)], f.1 = v ∧ u ∈ f.2
      rcases h.clo v hv u hu with h1 | h1 | ⟨f, hf2, h1, h2⟩
      · exact .inl h1
      · exact .inr (.inl (hsub u h1))
      · rw [hf] at hf2
        rcases List.mem_append.1 hf2 with h3 | h3
        · exact .inr (.inr ⟨f, by simp [h3], h1, h2⟩)
        · simp at h3
          subst h3
          dsimp only at h1 h2
          rcases List.mem_cons.1 h2 with rfl | h2
          · rcases hy with hy | hy
            · exact .inl hy
            · exact .inr (.inl hy)
          · exact .inr (.inr ⟨(z, l), by simp, h1, h2⟩)
    mis := hmi
    min := hnd
    sth := fun _ => h.sth (by rw [hf]; simp)
    stn := fun hc => by
      have : frs ++ [(z, l)] = [] := hc
      simp at this }
  unfold nextM
  dsimp only
  split
  · rename_i hyc
    cases hix : S.ix y with
    | none =>
      dsimp only
      refine ⟨ps ++ [y], ?_, .inr ⟨hyc, rfl, rfl⟩⟩
      have hS : EInv m q x (pushM m q y S) (ps ++ [y]) := h.push (by rw [hf]; simp) hbz
      exact {
        ne := h.ne
        bb := hS.bb
        nxr := fun f hm u hu => by
          rcases List.mem_append.1 (show f ∈ (frs ++ [(z, l)]) ++ [(y, waitsM m q y)] from hm) with hm | hm
          · rcases List.mem_append.1 hm with hm | hm
            · exact h.nxr f (by rw [hf]; simp [hm]) u hu
            · simp at hm; subst hm; exact h.nxr (z, y :: l) (by rw [hf]; simp) u (by simp [show u ∈ l from hu])
          · simp at hm; subst hm; exact hu
        clo := fun v hv u hu => by
          show u ∈ ps ++ [y] ∨ u ∈ S.mi ∨ ∃ f ∈ (frs ++ [(z, l)]) ++ [(y, waitsM m q y)], f.1 = v ∧ u ∈ f.2
          rcases List.mem_append.1 hv with hv | hv
          · rcases h.clo v hv u hu with h1 | h1 | ⟨f, hf2, h1, h2⟩
            · exact .inl (by simp [h1])
            · exact .inr (.inl h1)
            · rw [hf] at hf2
              rcases List.mem_append.1 hf2 with h3 | h3
              · exact .inr (.inr ⟨f, by simp [h3], h1, h2⟩)
              · simp at h3
                subst h3
                dsimp only at h1 h2
                rcases List.mem_cons.1 h2 with rfl | h2
                · exact .inl (by simp)
                · exact .inr (.inr ⟨(z, l), by simp, h1, h2⟩)
          · simp at hv
            subst hv
            exact .inr (.inr ⟨(v, waitsM m q v), by simp, rfl, hu⟩)
        mis := hS.mis
        min := h.min
        sth := fun _ => hS.sth (by show S.fr ++ [(y, waitsM m q y)] ≠ []; simp)
        stn := fun hc => by
          have : (frs ++ [(z, l)]) ++ [(y, waitsM m q y)] = [] := hc
          simp at this }
    | some at_ =>
      have hyp : y ∈ ps := by rw [← hW.ix, hix]; rfl
      dsimp only
      split
      · exact ⟨ps, (key S.mi h.mis h.min (fun _ h => h) (.inl hyp)).lo _, .inl ⟨rfl, fun _ => rfl⟩⟩
      · exact ⟨ps, key S.mi h.mis h.min (fun _ h => h) (.inl hyp), .inl ⟨rfl, fun _ => rfl⟩⟩
  · rename_i hyc
    have hyc : (getMK m y).isSome = false := by simpa using hyc
    split
    · rename_i hi
      exact ⟨ps, key S.mi h.mis h.min (fun _ h => h) (.inr (idxN_lt.1 hi)), .inl ⟨rfl, fun h => by rw [hyc] at h; cases h⟩⟩
    · rename_i hi
      refine ⟨ps, key (S.mi ++ [y]) (fun u hu => ?_) ?_ (fun u hu => by simp [hu]) (.inr (by simp)), .inl ⟨rfl, fun h => by rw [hyc] at h; cases h⟩⟩
      · rcases List.mem_append.1 hu with hu | hu
        · exact h.mis u hu
        · simp at hu; subst hu; exact ⟨hyc, z, hzp, hzy⟩
      · rw [List.nodup_append]
        exact ⟨h.min, by simp, fun a ha b hb => by simp at hb; subst hb; exact fun e => idxN_nn hi (e ▸ ha)⟩
theorem EInv.same (h : EInv m q x S ps) {ps' : List Item} (hs : ∀ y, y ∈ ps ↔ y ∈ ps') : EInv m q x S ps' where
  ne := h.ne
  bb y hy := h.bb y ((hs y).2 hy)
  nxr := h.nxr
  clo y hy z hz := by
    rcases h.clo y ((hs y).2 hy) z hz with h1 | h1
    · exact .inl ((hs z).1 h1)
    · exact .inr h1
  mis z hz := by
    obtain ⟨h1, y, h2, h3⟩ := h.mis z hz
    exact ⟨h1, y, (hs y).1 h2, h3⟩
  min := h.min
  sth := h.sth
  stn := h.stn
theorem next_ps (G : GInv m its) (hW : WInv m q its S ps) {frs : List (Item × List Item)} {z y : Item} {l : List Item} {ps' ps2 : List Item} (hf : S.fr = frs ++ [(z, y :: l)]) (hW' : WInv m q its (nextM m q S frs z y l) ps') (h2 : (ps2 = ps ∧ ((getMK m y).isSome = true → (S.ix y).isSome = true)) ∨ ((getMK m y).isSome = true ∧ S.ix y = none ∧ ps2 = ps ++ [y])) (hE : EInv m q x (nextM m q S frs z y l) ps2) : EInv m q x (nextM m q S frs z y l) ps' := by
  refine hE.same fun u => ?_
  rw [← hW'.ix]
  unfold nextM
  dsimp only
  rcases h2 with ⟨rfl, hno⟩ | ⟨hyc, hix, rfl⟩
  · split
    · rename_i hyc
      cases hix : S.ix y with
      | none => have := hno hyc; rw [hix] at this; cases this
      | some at_ =>
        dsimp only
        split <;> exact (hW.ix u).symm
    · split <;> exact (hW.ix u).symm
  · rw [if_pos hyc, hix]
    dsimp only
    show _ ↔ (putF S.ix y S.ci u).isSome = true
    rw [putF_isSome, hW.ix]
    simp [or_comm]
theorem ends_all (G : GInv m its) : ∀ (k : Nat) (S Z : WS) (ps : List Item), EndsK m q k S Z → WInv m q its S ps → DInv m q x S ps → EInv m q x S ps → ∃ ps', WInv m q its Z ps' ∧ DInv m q x Z ps' ∧ EInv m q x Z ps'
  | 0, S, Z, ps, h, hW, hD, hE => by
    obtain ⟨_, rfl⟩ := h
    exact ⟨ps, hW, hD, hE⟩
  | k + 1, S, Z, ps, h, hW, hD, hE => by
    rcases h with ⟨frs, y, hf, h1⟩ | ⟨frs, z, y, l, hf, h1⟩
    · exact ends_all G k _ Z ps h1 (hW.pop hf) (hD.pop hW hf) (hE.pop hD hW hf)
    · obtain ⟨ps', hW', hD'⟩ := hD.next hW G hf
      obtain ⟨ps2, hE2, h2⟩ := hE.next hD hW hf
      exact ends_all G k _ Z ps' h1 hW' hD' (next_ps G hW hf hW' h2 hE2)
theorem start_all (G : GInv m its) (a1 : (getMK m x).isSome = true) (a2 : (getML q x).isSome = false) : WInv m q its (startM m q x) ([] ++ [x]) ∧ DInv m q x (startM m q x) ([] ++ [x]) ∧ EInv m q x (startM m q x) ([] ++ [x]) := by
  have hW0 : WInv m q its noWS [] := { nodup := List.nodup_nil, is := by simp, ix := by simp [noWS], ci := rfl, st := by simp [noWS], stn := List.nodup_nil, fr := List.Sublist.refl _, nx := by simp [noWS], pa := Nat.le_refl _ }
  refine ⟨hW0.push G a1 (by simp), ?_, ?_⟩
  · exact {
      perm := List.Perm.refl _
      nov := fun y hy => by simp at hy; subst hy; exact a2
      nxv := fun f hf y hy => by
        have hf : f ∈ [] ++ [(x, waitsM m q x)] := hf
        simp at hf
        subst hf
        exact waits_nov m q x y hy
      xin := by simp
      lo0 := fun y => by
        show 0 ≤ valN (putF (fun _ => none) x ((0 : Nat) : Int)) y
        rcases valN_put (fun _ => none) x ((0 : Nat) : Int) y with ⟨e, _⟩ | ⟨e, _⟩
        · rw [e]; omega
        · rw [e]; simp [valN]
      ix0 := fun y => by
        show 0 ≤ valN (putF (fun _ => none) x ((0 : Nat) : Int)) y
        rcases valN_put (fun _ => none) x ((0 : Nat) : Int) y with ⟨e, _⟩ | ⟨e, _⟩
        · rw [e]; omega
        · rw [e]; simp [valN]
      lox := by show valN (putF (fun _ => none) x ((0 : Nat) : Int)) x = 0; unfold valN; rw [putF_same]; rfl
      ixx := by show valN (putF (fun _ => none) x ((0 : Nat) : Int)) x = 0; unfold valN; rw [putF_same]; rfl
      last := fun he => by
        have he : ([] : List (Item × List Item)) ++ [(x, waitsM m q x)] = [] := he
        simp at he
      head := fun f fs he => by
        have he : ([] : List (Item × List Item)) ++ [(x, waitsM m q x)] = f :: fs := he
        simp at he
        rw [← he.1] }
  · exact {
      ne := fun p hp => by
        have hp : p ∈ ([] : List (List Item)) := hp
        simp at hp
      bb := fun y hy hb => by simp at hy; subst hy; exact hb
      nxr := fun f hf z hz => by
        have hf : f ∈ [] ++ [(x, waitsM m q x)] := hf
        simp at hf
        subst hf
        exact hz
      clo := fun y hy z hz => by
        simp at hy
        subst hy
        exact .inr (.inr ⟨(y, waitsM m q y), by show _ ∈ [] ++ [(y, waitsM m q y)]; simp, rfl, hz⟩)
      mis := fun z hz => by
        have hz : z ∈ ([] : List Item) := hz
        simp at hz
      min := List.nodup_nil
      sth := fun _ => ⟨[], rfl⟩
      stn := fun he => by
        have he : ([] : List (Item × List Item)) ++ [(x, waitsM m q x)] = [] := he
        simp at he }
/-- What an order tells of an item that is to be done. -/
theorem ord_all (G : GInv m its) {P : List (List Item)} {M : List Item} (a1 : (getMK m x).isSome = true) (a2 : (getML q x).isSome = false) (h : OrdM m q its x P M) :
    (∀ p ∈ P, p ≠ []) ∧ P.flatten.Nodup ∧ (∀ y ∈ P.flatten, (getML q y).isSome = false ∧ (getMK m y).isSome = true) ∧ (M ≠ [] → P = [] ∧ Bad m q x) ∧
      (M = [] → x ∈ P.flatten ∧ ∀ y ∈ P.flatten, ∀ z ∈ waitsM m q y, z ∈ P.flatten) ∧ M.Nodup ∧ (∀ z ∈ M, (getMK m z).isSome = false) ∧ P.flatten.length ≤ its.length := by
  rcases h with ⟨a, _⟩ | ⟨_, Z, ps0, ⟨k, hk⟩, hf, hWZ, b1, b2⟩
  · rw [a1, a2] at a; simp at a
  · obtain ⟨s1, s2, s3⟩ := start_all (q := q) G a1 a2
    obtain ⟨ps, hW, hD, hE⟩ := ends_all G k _ Z _ hk s1 s2 s3
    have hst : Z.st = [] := hE.stn hf
    have hperm := hD.perm
    rw [hst, List.append_nil] at hperm
    have hnd : Z.pa.flatten.Nodup := hperm.nodup_iff.2 hW.nodup
    have hmem : ∀ y, y ∈ Z.pa.flatten ↔ y ∈ ps := fun y => hperm.mem_iff
    by_cases hm : Z.mi = []
    · rw [(b2 hm).1, (b2 hm).2]
      refine ⟨hE.ne, hnd, fun y hy => ⟨hD.nov y ((hmem y).1 hy), hW.is y ((hmem y).1 hy)⟩, fun hc => absurd rfl hc, fun _ => ⟨hD.last hf, fun y hy z hz => ?_⟩, List.nodup_nil, by simp, nodup_len _ its hnd fun y hy => G.mem y (hW.is y ((hmem y).1 hy))⟩
      rcases hE.clo y ((hmem y).1 hy) z hz with h1 | h1 | ⟨f, h1, _⟩
      · exact (hmem z).2 h1
      · rw [hm] at h1; simp at h1
      · rw [hf] at h1; simp at h1
    · rw [(b1 hm).1, (b1 hm).2]
      refine ⟨by simp, by simp, by simp, fun _ => ⟨rfl, ?_⟩, fun hc => absurd hc hm, hE.min, fun z hz => (hE.mis z hz).1, by simp⟩
      obtain ⟨z, hz⟩ := List.exists_mem_of_ne_nil _ hm
      obtain ⟨h1, y, h2, h3⟩ := hE.mis z hz
      exact hE.bb y h2 (.here (hW.is y h2) (hD.nov y h2) h3 h1)
end
end Go.Proofs.Ytnjgjhjilolanaa
