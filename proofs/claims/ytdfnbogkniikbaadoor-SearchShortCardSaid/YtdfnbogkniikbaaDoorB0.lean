/-
  From what a statement says of a law's arguments to the encodings, and back: readings opened, readings kept. No program is named here.
-/
import Derived.Test.YtdfnbogkniikbaaDoorAB
import Derived.SizedLaws
import Derived.Deep.Slices
import Derived.ChangeSame
import Derived.Carry
import Derived.OpenShut
import Derived.RowKit
namespace Go.Proofs.YtdfnbogkniikbaaDoor.V
open Go Go.ChangeShapes Go.WideShapes Go.RowKit
set_option linter.unusedVariables false

/-- What of a type reads as data means something, of which G is known. -/
structure Rd (P : Program) (t : TypeId) {α : Type} (E : En α) (G : α → Prop) : Prop where
  sz : P.cellsOf t = E.sz
  rd : ∀ {H : Type} (enc : TypeId × Value → H) (w : World) (fuel : Nat) (cs : List Value) (x : DataW H × List MemPlace),
    DataW.trod enc P w 0 (fun _ => true) true fuel t cs = some x → (∀ n ∈ x.1.weights P t, n ≤ reachBytes) → ∃ y, E.R w (fun b => b < w.heap.size) cs y ∧ G y
  vl : ∀ (w : World) (v : Value), Value.okWide P w .any 0 t v → (∃ y, E.R w (fun b => b < w.heap.size) v.cells.toList y) → v = E.val v.cells.toList

theorem one_val {v : Value} (h : v.oneCell' = true) : v.cells.toList = [v] := by cases v <;> first | rfl | simp [Value.oneCell'] at h

theorem Rd.int {P : Program} {t : TypeId} {k : IntKind} (ht : P.underlying t = some (.int k)) (hc : P.cellsOf t = 1) : Rd P t (En.int k) (InR k) := by
  refine ⟨hc, ?_, ?_⟩
  · intro H enc w fuel cs x h _
    obtain ⟨n, rfl, _, hw⟩ := DataW.trod_int ht h
    have : InR k n := by simpa [Lit.wf, InR] using hw
    exact ⟨n, ⟨rfl, this⟩, this⟩
  · intro w v hv _
    obtain ⟨n, rfl⟩ := okWide_int ht hv
    rfl
theorem Rd.bool {P : Program} {t : TypeId} (ht : P.underlying t = some .bool) (hc : P.cellsOf t = 1) : Rd P t En.bool (fun _ => True) := by
  refine ⟨hc, ?_, ?_⟩
  · intro H enc w fuel cs x h _
    obtain ⟨b, rfl, _⟩ := DataW.trod_bool ht h
    exact ⟨b, rfl, trivial⟩
  · intro w v hv _
    simp only [Value.okWide, ht, Cell.okWide, Cell.ok] at hv
    cases v <;> simp at hv
    rfl
theorem Rd.str {P : Program} {t : TypeId} (ht : P.underlying t = some .string) (hc : P.cellsOf t = 1) : Rd P t En.str (fun y => y.length ≤ 140737488351232) := by
  refine ⟨hc, ?_, ?_⟩
  · intro H enc w fuel cs x h hwt
    obtain ⟨s, rfl, hx, hs⟩ := DataW.trod_string ht h
    have hl : s.data.toList.length ≤ 9223372036854775807 := by simpa [maxLen] using hs
    have h2 : s.data.toList.length ≤ 140737488351232 := hwt _ (by rw [hx]; simp [DataW.weights])
    exact ⟨s.data.toList, ⟨rfl, hl⟩, h2⟩
  · intro w v hv _
    simp only [Value.okWide, ht, Cell.okWide, Cell.ok] at hv
    cases v <;> simp at hv
    rfl
theorem weights_all {H : Type} {P : Program} {e : TypeId} : ∀ {l : List (DataW H)} {d : DataW H}, d ∈ l → ∀ n ∈ d.weights P e, n ∈ DataW.weightsAll P e l
  | [], _, h, _, _ => by cases h
  | d' :: l, d, h, n, hn => by
    simp only [DataW.weightsAll, List.mem_append]
    rcases List.mem_cons.1 h with rfl | h
    · exact .inl hn
    · exact .inr (weights_all h n hn)
theorem Rd.slice {P : Program} {t e : TypeId} {α : Type} {E : En α} {G : α → Prop} (ht : P.underlying t = some (.slice e)) (hc : P.cellsOf t = 1) (hby : Nat.blt 0 (P.bytesOf e) = true) (he : Rd P e E G) :
    Rd P t (En.slice E) (fun xs => xs.length ≤ 140737488351232 ∧ ∀ y ∈ xs, G y) := by
  refine ⟨hc, ?_, ?_⟩
  · intro H enc w fuel cs x h hwt
    rcases Deep.open_slice ht h with ⟨rfl, _⟩ | ⟨a, len, cap, m, n, D, Pl, rfl, hb, hl, hm, hmm, hxe, hx⟩
    · exact ⟨[], ⟨_, rfl, slV_nil E _ _⟩, Nat.zero_le _, by simp⟩
    · simp only [if_true] at hmm
      subst hmm
      have hall : ∀ i, i < len → ∃ p : α × List Value, w.cells? 0 (a.add (i * P.cellsOf e)) (P.cellsOf e) = some p.2 ∧ E.R w (fun b => b < w.heap.size) p.2 p.1 ∧ G p.1 := fun i hi => by
        obtain ⟨cs', h1, h2⟩ := hx i (by omega)
        obtain ⟨y, h3, h4⟩ := he.rd enc w n cs' _ h2 fun q hq => hwt q (by
          rw [hxe]
          simp only [DataW.weights, ht, List.mem_cons, List.mem_append]
          exact .inr (.inl (weights_all (List.mem_map.2 ⟨i, by simpa using hi, rfl⟩) q hq)))
        exact ⟨(y, cs'), h1, h3, h4⟩
      have hmax2 : len ≤ 140737488351232 := by
        have h1 := hwt ((len + (m - len)) * P.bytesOf e) (by rw [hxe]; simp [DataW.weights, ht])
        have h2 : 0 < P.bytesOf e := Nat.le_of_ble_eq_true hby
        have h3 : (len + (m - len)) * 1 ≤ (len + (m - len)) * P.bytesOf e := Nat.mul_le_mul_left _ h2
        have h4 : reachBytes = 140737488351232 := rfl
        omega
      have hmax : len ≤ lim := by have : maxLen ≤ lim := by decide
                                  omega
      by_cases h0 : len = 0
      · subst h0
        exact ⟨[], ⟨_, rfl, some a, m, rfl, Nat.zero_le _, (fun h => by cases h), Nat.zero_le _, fun h => absurd rfl h⟩, Nat.zero_le _, by simp⟩
      have hinh : Inhabited (α × List Value) := ⟨(hall 0 (by omega)).choose⟩
      obtain ⟨f, hf⟩ := Deep.choose_lt hall
      have hsz := E.pos
      rw [← he.sz] at hsz
      obtain ⟨hcell0, hblk⟩ : a.spot = none ∧ a.block < w.heap.size := by
        obtain ⟨_, hl2, hcl⟩ := World.cells?_some (hf 0 (by omega)).1
        have h2 := hcl 0 hsz
        rw [List.getElem?_eq_getElem (by omega)] at h2
        simp only [Nat.zero_mul, Addr.add, if_true, World.cell?] at h2
        cases hb2 : w.heap[a.block]? with
        | none => simp [hb2] at h2
        | some o =>
          refine ⟨?_, (Array.getElem?_eq_some_iff.1 hb2).1⟩
          cases o <;> simp [hb2] at h2
          exact h2.1
      refine ⟨(List.range len).map (fun i => (f i).1), ⟨_, rfl, some a, m, ?_, by simpa using hl, (fun h => by cases h), by simpa using hmax, fun _ => ⟨a.block, a.off, (List.range len).map (fun i => (f i).2), ?_, hblk, ⟨by simp, ?_⟩, ?_⟩⟩, by simpa using hmax2, ?_⟩
      · simp
      · cases a; simp at hcell0; subst hcell0; rfl
      · intro i c y hc1 hy1
        have hi : i < len := by have := (List.getElem?_eq_some_iff.1 hc1).1; simpa using this
        simp [hi] at hc1 hy1
        subst hc1; subst hy1
        exact (hf i hi).2.1
      · have hlens : ∀ c ∈ (List.range len).map (fun i => (f i).2), c.length = E.sz := by
          intro c hc
          simp only [List.mem_map, List.mem_range] at hc
          obtain ⟨i, hi, rfl⟩ := hc
          rw [(World.cells?_some (hf i hi).1).2.1, he.sz]
        intro j u hj
        have hjl : j < len * E.sz := by
          have := (List.getElem?_eq_some_iff.1 hj).1
          rw [flat_len hlens] at this; simpa using this
        have hp : 0 < E.sz := E.pos
        have hi : j / E.sz < len := Nat.div_lt_of_lt_mul (by rw [Nat.mul_comm]; exact hjl)
        have hk : j % E.sz < E.sz := Nat.mod_lt _ hp
        obtain ⟨_, hl2, hcl⟩ := World.cells?_some (hf _ hi).1
        have hcell := hcl (j % E.sz) (by rw [he.sz]; exact hk)
        rw [he.sz] at hl2
        have hg := flat_get hlens (i := j / E.sz) (cs := (f (j / E.sz)).2) (j := j % E.sz) (u := (f (j / E.sz)).2[j % E.sz]'(by omega)) (by simp [hi]) (by simp)
        rw [Nat.mul_comm, Nat.div_add_mod] at hg
        rw [hg] at hj
        rw [List.getElem?_eq_getElem (by omega), hj, Deep.add_add, he.sz, Nat.mul_comm, Nat.div_add_mod] at hcell
        rw [← hcell]
        cases a; simp at hcell0; subst hcell0; rw [add_lit]
      · intro y hy
        simp only [List.mem_map, List.mem_range] at hy
        obtain ⟨i, hi, rfl⟩ := hy
        exact (hf i hi).2.2
  · intro w v hv _
    simp only [Value.okWide, ht, Cell.okWide, Cell.ok] at hv
    cases v <;> simp at hv
    rfl

theorem u64_word {n : Int} (h : InR .u64 n) : ∃ m : Nat, m < 2 ^ 64 ∧ n = m := by
  simp [InR, IntKind.min, IntKind.max, IntKind.signed, IntKind.bits] at h
  exact ⟨n.toNat, by omega, by omega⟩

theorem Rd.cls {P : Program} {t e : TypeId} (ht : P.underlying t = some (.array 4 e)) (hc : P.cellsOf t = 4) (he : P.underlying e = some (.int .u64)) (hce : P.cellsOf e = 1) : Rd P t En.cls (fun _ => True) := by
  refine ⟨hc, ?_, ?_⟩
  · intro H enc w fuel cs x h _
    obtain ⟨xs, m, rfl, rfl, hlen, hn, hx⟩ := DataW.trod_array ht h
    rw [hc] at hlen
    match cs, hlen with
    | [u0, u1, u2, u3], _ =>
      have hx' : ∀ i (hi : i < 4) u, [u0, u1, u2, u3][i]? = some u → ∃ q : Nat, q < 2 ^ 64 ∧ u = .int .u64 q := by
        intro i hi u hu
        have h1 := hx i hi
        rw [hce, Nat.mul_one, List.getElem?_eq_getElem (by omega)] at h1
        have h2 : List.take 1 (List.drop i [u0, u1, u2, u3]) = [u] := by
          match i, hi with
          | 0, _ | 1, _ | 2, _ | 3, _ => simp at hu; subst hu; rfl
        rw [h2] at h1
        obtain ⟨n, h3, _, h4⟩ := DataW.trod_int he h1
        obtain ⟨q, hq, rfl⟩ := u64_word (n := n) (by simpa [Lit.wf, InR] using h4)
        simp at h3
        exact ⟨q, hq, h3⟩
      obtain ⟨q0, h0, rfl⟩ := hx' 0 (by omega) u0 rfl
      obtain ⟨q1, h1, rfl⟩ := hx' 1 (by omega) u1 rfl
      obtain ⟨q2, h2, rfl⟩ := hx' 2 (by omega) u2 rfl
      obtain ⟨q3, h3, rfl⟩ := hx' 3 (by omega) u3 rfl
      refine ⟨Cl.ofWords q0 q1 q2 q3, ?_, trivial⟩
      obtain ⟨e0, e1, e2, e3⟩ := Cl.ofWords_word h0 h1 h2 h3
      show _ = clsCells _
      unfold clsCells
      rw [e0, e1, e2, e3]
  · intro w v hv _
    simp only [Value.okWide, ht] at hv
    obtain ⟨cs, rfl, _⟩ := hv
    simp [En.val, En.cls, Value.cells]

/-! ### structs read -/
/-- What of fields reads as data means something, from cell o on. -/
structure RdF (P : Program) (fs : List Field) (o : Nat) {α : Type} (E : En α) (G : α → Prop) : Prop where
  rd : ∀ {H : Type} (enc : TypeId × Value → H) (w : World) (fuel : Nat) (cs : List Value) (xs : List (DataW H × List MemPlace)), xs.length = fs.length →
    (∀ (i : Nat) (f : Field), fs[i]? = some f → DataW.trod enc P w 0 (fun _ => true) true fuel f.type ((cs.drop f.offset).take (P.cellsOf f.type)) = xs[i]?) →
    (∀ n ∈ DataW.weightsEach P (fs.map (·.type)) (xs.map (·.1)), n ≤ reachBytes) → ∃ y, E.R w (fun b => b < w.heap.size) ((cs.drop o).take E.sz) y ∧ G y
theorem RdF.last {P : Program} {f : Field} {o : Nat} {α : Type} {E : En α} {G : α → Prop} (h : Rd P f.type E G) (ho : f.offset = o) : RdF P [f] o E G := ⟨by
  intro H enc w fuel cs xs hl hx hw
  obtain ⟨x, rfl⟩ : ∃ x, xs = [x] := List.length_eq_one_iff.1 hl
  have h1 := hx 0 f rfl
  rw [ho, h.sz] at h1
  exact h.rd enc w fuel _ x h1 fun n hn => hw n (by simp [DataW.weightsEach, hn])⟩
theorem RdF.solo {P : Program} {fs : List Field} {o : Nat} {α : Type} {E : En α} {G : α → Prop} (h : RdF P fs o E G) : RdF P fs o E.solo G := ⟨h.rd⟩
theorem take_add_split {xs : List Value} {o m n : Nat} : (xs.drop o).take (m + n) = (xs.drop o).take m ++ (xs.drop (o + m)).take n := by
  rw [List.take_add, List.drop_drop]
theorem RdF.cons {P : Program} {f : Field} {fs : List Field} {o : Nat} {α β : Type} {E : En α} {F : En β} {G : α → Prop} {K : β → Prop} (h : Rd P f.type E G) (ho : f.offset = o) (hr : RdF P fs (o + E.sz) F K) : RdF P (f :: fs) o (E.cat F) (fun x => G x.1 ∧ K x.2) := ⟨by
  intro H enc w fuel cs xs hl hx hw
  obtain ⟨x, xs', rfl⟩ : ∃ x xs', xs = x :: xs' := by
    cases xs with
    | nil => simp at hl
    | cons x xs' => exact ⟨x, xs', rfl⟩
  have h1 := hx 0 f rfl
  rw [ho, h.sz] at h1
  obtain ⟨y, hy1, hy2⟩ := h.rd enc w fuel _ x h1 fun n hn => hw n (by simp [DataW.weightsEach, hn])
  obtain ⟨z, hz1, hz2⟩ := hr.rd enc w fuel cs xs' (by simpa using hl) (fun i g hg => by have := hx (i + 1) g (by simpa using hg); simpa using this) fun n hn => hw n (by
    simp only [List.map_cons, DataW.weightsEach, List.mem_append]; exact .inr hn)
  exact ⟨(y, z), ⟨_, _, take_add_split, hy1, hz1⟩, hy2, hz2⟩⟩
theorem Rd.struct {P : Program} {t : TypeId} {fs : Array Field} {α : Type} {E : En α} {G : α → Prop} (ht : P.underlying t = some (.struct fs)) (ha : E.agg = true) (hc : P.cellsOf t = E.sz) (h : RdF P fs.toList 0 E G) : Rd P t E G := by
  refine ⟨hc, ?_, ?_⟩
  · intro H enc w fuel cs x hx hw
    obtain ⟨xs, n, rfl, rfl, hlen, hxl, hf⟩ := DataW.trod_struct ht hx
    obtain ⟨y, hy1, hy2⟩ := h.rd enc w n cs xs (by simpa using hxl) (fun i f hi => hf i f (by simpa using hi)) fun q hq => hw q (by
      simp only [DataW.weights, ht]; exact hq)
    rw [List.drop_zero, List.take_of_length_le (by rw [hlen, hc]; exact Nat.le_refl _)] at hy1
    exact ⟨y, hy1, hy2⟩
  · intro w v hv _
    obtain ⟨cs, rfl, _⟩ := okWide_struct ht hv
    unfold En.val
    rw [ha]
    simp [Value.cells]

/-- An argument opened. -/
theorem Rd.open {P : Program} {t : TypeId} {α : Type} {E : En α} {G : α → Prop} (hr : Rd P t E G) {H : Type} {enc : TypeId × Value → H} {W : World} {v : Value} {d : DataW H} {p : List MemPlace}
    (hv : Value.okWide P W .any 0 t v) (hd : DataW.Trod enc P W 0 (fun _ => true) true t v d p) (hw : ∀ n ∈ d.weights P t, n ≤ reachBytes) : ∃ y, (Pd.rep E y).p ⟨W, fun _ => False, fun _ h => h.elim⟩ v ∧ G y := by
  obtain ⟨fuel, h⟩ := hd
  obtain ⟨y, hy, hg⟩ := hr.rd enc W fuel _ _ h hw
  refine ⟨y, ⟨v.cells.toList, hr.vl W v hv ⟨y, hy⟩, ?_⟩, hg⟩
  exact E.mono (fun b hb => ⟨hb, fun h => h⟩) hy

theorem Ex.below {s s' : St} (h : Ex s s') : Below s.w.heap.size s.w s'.w := ⟨h.mv.os, h.mv.tape, h.mv.output, h.mv.size, fun k hk => h.mv.blk k hk (fun h => h)⟩

theorem okWide_any {P : Program} {W : World} {b : Nat} {t : TypeId} {v : Value} (h : Value.okWide P W .any b t v) : Value.okWide P W .any 0 t v := by
  unfold Value.okWide Row.okWide Cell.okWide Cell.ok World.has at *
  exact h

section
variable {H : Type} {enc : TypeId × Value → H} {P : Program}
/-- The arguments read as they did. -/
theorem stays {W W' : World} (hl : laidOutB P = true) (hb : Below W.heap.size W W') {sp : Nat → Bool} : ∀ {ts : List TypeId} {vs : List Value} {ds : List (DataW H)} {ps : List MemPlace},
    (ts.all fun t => P.readableRec t && decide (t < P.types.size)) = true → DataW.TrodAll enc P W 0 (fun _ => true) true ts vs ds ps → (∀ p ∈ ps, p.block < W.heap.size) → (∀ p ∈ ps, sp p.block = true) →
    DataW.TrodAll enc P W' 0 sp true ts vs ds ps
  | [], vs, ds, ps, _, h, _, _ => by
    obtain ⟨rfl, rfl, rfl⟩ := trodAll_nil h
    exact trodAll_mk0
  | t :: ts, vs, ds, ps, ha, h, hlt, hsp => by
    obtain ⟨v, vs', d, ds', p, q, rfl, rfl, rfl, h1, h2⟩ := trodAll_cons h
    simp only [List.all_cons, Bool.and_eq_true, decide_eq_true_eq] at ha
    refine trodAll_cons_mk (WideElems.Trod_stays hl ha.1.1 ha.1.2 h1 (fun x hx => hb.same (hlt x (List.mem_append_left _ hx))) fun x hx => hsp x (List.mem_append_left _ hx)) ?_
    exact stays hl hb (by simpa using ha.2) h2 (fun x hx => hlt x (List.mem_append_right _ hx)) fun x hx => hsp x (List.mem_append_right _ hx)

/-- What a law's statement asks behind the call. -/
theorem post_law {f : Func} {s : ChangeSpec} {apart fresh handsOn again : Bool} {W W' : World} {args : Array Value} {v : Value} {ds gs : List (DataW H)} {before : List MemPlace} {tb : TypeId}
    (hW : DataW.Whole enc P f.params.toList s.vars apart W args.toList ds gs before) (hb : Below W.heap.size W W') (hl : laidOutB P = true)
    (hrd : (f.params.toList.all fun t => P.readableRec t && decide (t < P.types.size)) = true) (hs : s.vars = []) (hrt : f.resultTypes = #[tb]) (hub : P.underlying tb = some .bool) (hv : v = .bool true)
    (hres : (s.fn H (ds ++ gs)).results = [.lit (.bool true)]) (hargs : (s.fn H (ds ++ gs)).args = ds) (hvars : (s.fn H (ds ++ gs)).vars = []) : s.post enc P f apart fresh handsOn again W args v W' := by
  subst hv
  have hlt := hW.lt
  have hW' := hW
  obtain ⟨p, q, hA, hV, rfl, hz, hn⟩ := hW
  rw [hs] at hV
  obtain ⟨rfl, rfl⟩ := trodVars_none hV
  have hsub : ∀ x ∈ p, x ∈ p ++ ([] : List MemPlace) := fun x hx => by simpa using hx
  have harg : ∀ sp : Nat → Bool, (∀ x ∈ p ++ ([] : List MemPlace), sp x.block = true) → DataW.TrodAll enc P W' 0 sp true f.params.toList args.toList (s.fn H (ds ++ [])).args p := fun sp hsp => by
    rw [hargs]
    exact stays hl hb hrd hA (fun x hx => hlt x (hsub x hx)) fun x hx => hsp x (hsub x hx)
  have hvar : ∀ sp : Nat → Bool, DataW.TrodVars enc P W' sp s.vars (s.fn H (ds ++ [])).vars [] := fun sp => by rw [hs, hvars]; exact rfl
  have hr : ∀ (b : Nat) (sp : Nat → Bool) (hd : Bool), DataW.TrodAll enc P W' b sp hd f.resultTypes.toList ((Value.bool true).resultList f.resultTypes.size) (s.fn H (ds ++ [])).results [] := fun b sp hd => by
    rw [hres, hrt]
    exact trodAll_cons_mk (shut_bool hub _) trodAll_mk0
  have hold : ∀ x ∈ p ++ ([] : List MemPlace), (fun b => decide (b < W.heap.size)) x.block = true := fun x hx => by simpa using hlt x hx
  refine ⟨ds, [], p ++ [], [], p, [], hW', hr _ _ _, harg _ hold, hvar _, World.keptBut_mono (fun x hx => ⟨hx, ?_⟩) (hb.frame (· ∈ p ++ [])), fun _ => ?_⟩
  · simpa using hx
  · refine ⟨ok_one hrt rfl (okWide_bool_mk hub _), _, _, ([] ++ p) ++ [], ⟨[] ++ p, [], trodAll_append (harg _ (fun _ _ => rfl)) (hr _ _ _), hvar _, rfl, ?_, ?_⟩, ?_⟩
    · intro b off hp
      have hp' : MemPlace.cell b off ∈ p ++ ([] : List MemPlace) := by simpa using hp
      rw [hb.frozen (p := ⟨b, off, none⟩) (hlt _ hp')]
      exact hz b off hp'
    · intro ha
      simpa using hn ha
    · intro x hx _
      simpa using hx
end
end Go.Proofs.YtdfnbogkniikbaaDoor.V
