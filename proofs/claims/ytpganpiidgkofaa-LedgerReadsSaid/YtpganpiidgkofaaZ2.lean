/- Several texts in one. -/
import Derived.Test.YtpganpiidgkofaaRows
import Derived.Test.YtpganpiidgkofaaZ1
import Derived.ProofKit
import Derived.OpenShut
import Derived.Lib.SmallJoins
import Derived.SizedLaws
/- From a law's walk to what its row asks: the arguments read as they did, nothing that was there has turned, the answer is true. -/
namespace Go.Proofs.Ytpganpiidgkofaa
open Go.ChangeShapes Go.WideShapes Go.ChangeAt Go.RowKit Go.WideMaps Go.WideElems
open Go.ChangeMaps (open_string)
theorem own : ownKnob Try.prog.godebug = none := by kernel_rfl
theorem laidOut : laidOutB Try.prog = true := by kernel_rfl
section
variable {H : Type} {enc : TypeId × Value → H} {P : Program}
theorem trodAll_stays (hl : laidOutB P = true) {W W' : World} {sp' : Nat → Bool} : ∀ {ts : List TypeId} {vs : List Value} {ds : List (DataW H)} {ps : List MemPlace},
    (∀ t ∈ ts, P.readableRec t = true ∧ t < P.types.size) → DataW.TrodAll enc P W 0 (fun _ => true) true ts vs ds ps → (∀ p ∈ ps, W.sameAt W' p) → (∀ p ∈ ps, sp' p.block = true) →
    DataW.TrodAll enc P W' 0 sp' true ts vs ds ps
  | [], _, _, _, _, h, _, _ => by
    obtain ⟨rfl, rfl, rfl⟩ := trodAll_nil h
    exact trodAll_mk0
  | t :: ts, _, _, _, hr, h, hs, hp => by
    obtain ⟨v, vs, d, ds, p, q, rfl, rfl, rfl, h1, h2⟩ := trodAll_cons h
    exact trodAll_cons_mk (Trod_stays hl (hr t (by simp)).1 (hr t (by simp)).2 h1 (fun x hx => hs x (by simp [hx])) (fun x hx => hp x (by simp [hx])))
      (trodAll_stays hl (fun t ht => hr t (by simp [ht])) h2 (fun x hx => hs x (by simp [hx])) (fun x hx => hp x (by simp [hx])))
theorem law_post {f : Func} {s : ChangeSpec} {W W' : World} {args : Array Value} {ds gs : List (DataW H)} {before : List MemPlace} {B : TypeId} (hl : laidOutB P = true)
    (hW : DataW.Whole enc P f.params.toList s.vars false W args.toList ds gs before) (hsv : s.vars = []) (hread : f.params.toList.all (fun t => P.readableRec t && decide (t < P.types.size)) = true)
    (hrt : f.resultTypes = #[B]) (hB : P.underlying B = some .bool) (hfn : ∀ ds : List (DataW H), ds.length = f.params.toList.length → s.fn H ds = { results := [.lit (.bool true)], args := ds })
    (hb : Below W.heap.size W W') : s.post enc P f false true false false W args (.bool true) W' := by
  have hlt := fun p hp => hW.lt p hp
  obtain ⟨p, q, hA, hV, rfl, hz, hn⟩ := id hW
  rw [hsv] at hV
  obtain ⟨rfl, rfl⟩ := trodVars_none hV
  have hlen : ∀ {ts : List TypeId} {vs : List Value} {ds : List (DataW H)} {ps : List MemPlace}, DataW.TrodAll enc P W 0 (fun _ => true) true ts vs ds ps → ds.length = ts.length := by
    intro ts
    induction ts with
    | nil => intro vs ds ps h; obtain ⟨rfl, rfl, rfl⟩ := trodAll_nil h; rfl
    | cons t ts ih => intro vs ds ps h; obtain ⟨v, vs, d, ds, p, q, rfl, rfl, rfl, _, h2⟩ := trodAll_cons h; simp [ih h2]
  have hf := hfn ds (hlen hA)
  refine ⟨ds, [], p ++ [], [], p, [], hW, ?_, ?_, ?_, World.keptBut_mono (fun x hx => ⟨hx, Or.inr (Or.inl (by simpa using hx))⟩) (hb.frame _), fun h => by cases h⟩
  · rw [List.append_nil, hf, hrt]
    exact trodAll_mk1 (shut_bool hB _)
  · rw [List.append_nil, hf]
    refine trodAll_stays hl (fun t ht => ?_) hA (fun x hx => hb.same (hlt x (by simpa using hx))) (fun x hx => by simpa using hlt x (by simpa using hx))
    have := List.all_eq_true.1 hread t ht
    simpa using this
  · rw [hsv, List.append_nil, hf]
    exact rfl
end
end Go.Proofs.Ytpganpiidgkofaa
/- What comes in: numbers, bytes, texts. -/
namespace Go.Proofs.Ytpganpiidgkofaa
open Go.ChangeShapes Go.WideShapes Go.ChangeAt Go.RowKit Go.WideMaps Go.WideElems Go.Joins
open Go.ChangeMaps (open_string)
/-- a piece of a row, and what stands behind -/
theorem seg {α : Type} (cs : List α) (o z : Nat) : cs.drop o = (cs.drop o).take z ++ cs.drop (o + z) := by
  rw [← List.drop_drop]; exact (List.take_append_drop z (cs.drop o)).symm
/-- a number that an int holds -/
def Fits (n : Int) : Prop := -9223372036854775808 ≤ n ∧ n ≤ 9223372036854775807
theorem fits_of {n : Int} (h : (Lit.int .i64 n).wf = true) : Fits n := by
  simp [Lit.wf, IntKind.min, IntKind.max, IntKind.signed, IntKind.bits] at h
  exact h
theorem fits8_of {n : Int} (h : (Lit.int .u8 n).wf = true) : 0 ≤ n ∧ n ≤ 255 := by
  simp [Lit.wf, IntKind.min, IntKind.max, IntKind.signed, IntKind.bits] at h
  exact h
section
variable {H : Type} {enc : TypeId × Value → H} {w : World} {base : Nat} {sp : Nat → Bool} {held : Bool} {r : Reach} {b0 : Nat} {v : Value} {d : DataW H} {p : List MemPlace}
theorem okWide_arr {P : Program} {t e : TypeId} {n : Nat} (ht : P.underlying t = some (.array n e)) (h : Value.okWide P w r b0 t v) : ∃ cs, v = .agg cs ∧ cs.size = P.cellsOf t := by
  simp only [Value.okWide, ht] at h
  obtain ⟨cs, h1, h2, _⟩ := h
  exact ⟨cs, h1, h2⟩
theorem open_str {P : Program} {t : TypeId} (ht : P.underlying t = some .string) (hv : Value.okWide P w r b0 t v) (h : DataW.Trod enc P w base sp held t v d p) (hw : ∀ n ∈ d.weights P t, n ≤ reachBytes) :
    ∃ s : ByteArray, v = .string s ∧ s.size ≤ 140737488351232 := by
  obtain ⟨s, rfl, rfl, _, _⟩ := open_string ht hv h
  have := hw s.data.toList.length (by simp [DataW.weights])
  have hr : reachBytes = 140737488351232 := rfl
  rw [hr, Array.length_toList] at this
  exact ⟨s, rfl, this⟩
theorem open_byte {P : Program} {t : TypeId} (ht : P.underlying t = some (.int .u8)) (hv : Value.okWide P w r b0 t v) (h : DataW.Trod enc P w base sp held t v d p) : ∃ u : UInt8, v = .int .u8 (u.toNat : Int) := by
  obtain ⟨n, rfl, -, -, hn⟩ := open_int ht hv h
  have hb := fits8_of hn
  refine ⟨UInt8.ofNat n.toNat, ?_⟩
  have : (UInt8.ofNat n.toNat).toNat = n.toNat := by rw [UInt8.toNat_ofNat']; omega
  rw [this]
  congr 1
  omega
end
/-- what weighs in one argument is weighed -/
theorem sized_arg {H : Type} {P : Program} {ts : List TypeId} {ds : List (DataW H)} (h : (DataW.weightsEach P ts ds).all (· ≤ reachBytes) = true) {j : Nat} {t : TypeId} {d : DataW H} (ht : ts[j]? = some t) (hd : ds[j]? = some d) :
    ∀ n ∈ d.weights P t, n ≤ reachBytes := fun n hn => by simpa using List.all_eq_true.1 h n (DataW.weights_mem_each ht hd n hn)
end Go.Proofs.Ytpganpiidgkofaa
/- More words for walks. -/
namespace Go.Proofs.Ytpganpiidgkofaa
open Go.RowKit
theorem Ans.call {P : Program} {f : FuncId} {args : Array Value} {v : Value} (h : Ans P f args v) (w : World) : Calls P f args w fun e w' => e = .returned v ∧ Below w.heap.size w w' := h w
/-- Rows that a world bears. -/
def Knows (W : World) : List (Nat × Array Value) → Prop
  | [] => True
  | (g, X) :: L => (row? W g = some X ∧ g < W.heap.size) ∧ Knows W L
/-- W has come of w: what was there is as it was; these rows are known. -/
def St (w W : World) (L : List (Nat × Array Value)) : Prop := Below w.heap.size w W ∧ Knows W L
section
variable {w W W' : World} {L : List (Nat × Array Value)}
theorem Knows.of_rows (hr : ∀ g X, row? W g = some X → row? W' g = some X) : ∀ {L : List (Nat × Array Value)}, Knows W L → Knows W' L
  | [], _ => trivial
  | (_, _) :: _, h => ⟨⟨hr _ _ h.1.1, row_lt (hr _ _ h.1.1)⟩, Knows.of_rows hr h.2⟩
theorem St.start (w : World) : St w w [] := ⟨Below.refl _ _, trivial⟩
theorem St.below (h : St w W L) : Below w.heap.size w W := h.1
theorem St.call (h : St w W L) (hb : Below W.heap.size W W') : St w W' L :=
  ⟨h.1.trans (hb.mono h.1.size), h.2.of_rows fun _ _ hr => (row_below hb (row_lt hr)).trans hr⟩
theorem St.new (h : St w W L) (c : Array Value) (t : TypeId) : St w (W.alloc (.cells c t)) ((W.heap.size, c) :: L) :=
  ⟨h.1.alloc h.1.size _, ⟨by rw [row_alloc, if_pos rfl], by simp⟩, h.2.of_rows fun g _ hr => (row_alloc_ne W g _ (Nat.ne_of_lt (row_lt hr))).trans hr⟩
theorem St.keep (h : St w W L) (o : Obj) : St w (W.alloc o) L :=
  ⟨h.1.alloc h.1.size _, h.2.of_rows fun g _ hr => (row_alloc_ne W g _ (Nat.ne_of_lt (row_lt hr))).trans hr⟩
theorem St.drew (h : St w W L) : St w W.drew L := ⟨h.1.drew, Knows.of_rows (W := W) (W' := W.drew) (fun _ _ hr => hr) h.2⟩
theorem St.drewN (h : St w W L) (n : Nat) : St w (W.drewN n) L := ⟨below_drewN h.1 n, Knows.of_rows (W := W) (W' := W.drewN n) (fun _ _ hr => hr) h.2⟩
theorem St.ext (h : St w W L) (x : World) : St w (Go.Proofs.Ytpganpiidgkofaa.ext W x) L := h.call (ext_below W x)
end
theorem wp_region_st {P : Program} {id : Nat} {Q : Exit → Act → World → Prop} {a : Act} {W : World} {l : List Oper} (hm : P.follows .mixedOrders = true) (hB : Region.lexB .any l.toArray = true)
    (h : wpQuiet P l.toArray (fun w' => ∃ n, w' = ext W n) (fun a' => ∀ w', (∃ n, w' = ext W n) → Q .normal a' w') l a) : (Code.region id l.toArray true).wp P Q a W := wp_region_ext hm hB h
/-- What is known of a world, in the place of the world. -/
theorem forget {P : Program} {c : Code} {Q : Exit → Act → World → Prop} {a : Act} {W : World} (F : World → Prop) (hF : F W) (h : ∀ w1, F w1 → Code.wp P c Q a w1) : Code.wp P c Q a W := h W hF
end Go.Proofs.Ytpganpiidgkofaa
