/-
  Maps of the function's own: made, looked up, written. No program is named here.
-/
import Derived.Test.YtdfnbogkniikbaaDoorAB
import Derived.Maps.Keyed
namespace Go.Proofs.YtdfnbogkniikbaaDoor.V
open Go Go.MapKept
set_option linter.unusedVariables false

/-- How keys lie: kv x is the value of the key x. -/
structure KeyT {κ : Type} (P : Program) (kt : TypeId) (K : En κ) (kv : κ → Value) : Prop where
  val : ∀ {w S cs x}, K.R w S cs x → K.val cs = kv x
  inj : ∀ {x y}, kv x = kv y → x = y
  check : ∀ (w : World) (em : Bool) (x : κ), (Instr.checkKey em 10000 kt (kv x)).run P w = .ok () w
  find : ∀ (w : World) (x : κ) (es : List MapEntry), (∀ e ∈ es, ∃ y, e.key = kv y) →
    ((Instr.findKey kt (kv x) es).run P w = .ok none w ∧ ∀ e ∈ es, e.key ≠ kv x) ∨ ∃ j e, (Instr.findKey kt (kv x) es).run P w = .ok (some (j, e.val)) w ∧ es[j]? = some e ∧ e.key = kv x
  stays : ∀ (w : World) (x : κ), (Instr.keyThatStays (kv x) (kv x)).run P w = .ok (kv x) w

theorem key_plain {κ : Type} {P : Program} {kt : TypeId} {K : En κ} {kv : κ → Value} {d : TypeDesc} (hd : P.underlying kt = some d) (hk : ∀ x, IsKey d (kv x)) (hv : ∀ {w S cs x}, K.R w S cs x → K.val cs = kv x) (hi : ∀ {x y}, kv x = kv y → x = y) : KeyT P kt K kv where
  val := hv
  inj := hi
  check := fun w em x => run_checkKey hd (hk x) em 9999
  find := fun w x es hes => by
    have hks : ∀ y ∈ es, IsKey d y.key := fun y hy => by
      obtain ⟨z, hz⟩ := hes y hy
      rw [hz]; exact hk z
    rcases findNow_spec (hk x) es 0 hks with ⟨h1, h2⟩ | ⟨j, e0, h1, h2, h3⟩
    · exact .inl ⟨run_findKey hd h1, h2⟩
    · exact .inr ⟨j, e0, by simpa using run_findKey hd h1, h2, h3⟩
  stays := fun w x => run_keyThatStays (hk x)

abbrev kvStr : Str → Value := fun x => .string ⟨x.toArray⟩
theorem key_str {P : Program} {kt : TypeId} (hd : P.underlying kt = some .string) : KeyT P kt En.str kvStr :=
  key_plain hd (fun x => trivial) (fun ⟨h, _⟩ => by subst h; rfl) (fun {x y} h => by simpa using h)

/-- The value at a key, or z. -/
def mget {κ ν : Type} [DecidableEq κ] (xs : List (κ × ν)) (k : κ) (z : ν) : ν := match xs.find? (fun p => p.1 == k) with | some p => p.2 | none => z
/-- Is the key there? -/
def mhas {κ ν : Type} [DecidableEq κ] (xs : List (κ × ν)) (k : κ) : Bool := xs.any (fun p => p.1 == k)
/-- A value is put at a key. -/
def mput {κ ν : Type} [DecidableEq κ] (xs : List (κ × ν)) (k : κ) (v : ν) : List (κ × ν) := bif mhas xs k then xs.map (fun p => bif p.1 == k then (k, v) else p) else xs ++ [(k, v)]

/-- What a map's entries mean. -/
structure MpR {κ ν : Type} (K : En κ) (kv : κ → Value) (E : En ν) (w : World) (S : Nat → Prop) (es : Array MapEntry) (clock : Nat) (xs : List (κ × ν)) : Prop where
  st : Stamped es clock
  len : es.toList.length = xs.length
  ent : ∀ (i : Nat) (e : MapEntry) (p : κ × ν), es.toList[i]? = some e → xs[i]? = some p → e.key = kv p.1 ∧ (∃ cs, K.R w S cs p.1) ∧ ∃ cs, e.val = E.val cs ∧ E.R w S cs p.2

section
variable {κ ν : Type} {K : En κ} {kv : κ → Value} {E : En ν}

theorem MpR.go {T : Nat → Prop} {s s' : St} {es clock} {xs : List (κ × ν)} (h : Mv T s s') (hM : MpR K kv E s.w (foot s) es clock xs) : MpR K kv E s'.w (foot s') es clock xs :=
  ⟨hM.st, hM.len, fun i e p a b => let ⟨h1, ⟨cs, h2⟩, cs', h3, h4⟩ := hM.ent i e p a b; ⟨h1, ⟨cs, K.go h h2⟩, cs', h3, E.go h h4⟩⟩

/-- A map of the function's own. -/
def Pd.map (K : En κ) (kv : κ → Value) (E : En ν) (N : Nat) (og : Option Nat) (xs : List (κ × ν)) : Pd :=
  ⟨fun s v => ∃ g, og = some g ∧ v = .map (some g) ∧ N ≤ g ∧ s.X g ∧ ∃ es clock, s.w.heap[g]? = some (.map es clock) ∧ MpR K kv E s.w (foot s) es clock xs, fun b => og = some b,
    fun {T s s' v} h hb ⟨g, ho, hv, hN, hx, es, clock, hg, hM⟩ => ⟨g, ho, hv, hN, (hb g ho).2 hx, es, clock, by
      rw [h.blk g (Array.getElem?_eq_some_iff.1 hg).1 (hb g ho).1]; exact hg, hM.go h⟩⟩

theorem MpR.keys {w S es clock} {xs : List (κ × ν)} (hM : MpR K kv E w S es clock xs) : ∀ e ∈ es.toList, ∃ y, e.key = kv y := fun e he => by
  obtain ⟨i, hi⟩ := List.getElem?_of_mem he
  have hlt : i < xs.length := by rw [← hM.len]; exact (List.getElem?_eq_some_iff.1 hi).1
  exact ⟨_, (hM.ent i e _ hi (List.getElem?_eq_getElem hlt)).1⟩

theorem MpR.nodup {P : Program} {kt : TypeId} (hK : KeyT P kt K kv) {w S es clock} {xs : List (κ × ν)} (hM : MpR K kv E w S es clock xs) : ∀ (i j : Nat) (p q : κ × ν), xs[i]? = some p → xs[j]? = some q → p.1 = q.1 → i = j := by
  intro i j p q hi hj h
  have hli : i < es.toList.length := by rw [hM.len]; exact (List.getElem?_eq_some_iff.1 hi).1
  have hlj : j < es.toList.length := by rw [hM.len]; exact (List.getElem?_eq_some_iff.1 hj).1
  have h1 := (hM.ent i _ p (List.getElem?_eq_getElem hli) hi).1
  have h2 := (hM.ent j _ q (List.getElem?_eq_getElem hlj) hj).1
  have hn : (es.toList.map (·.key)).Nodup := hM.st.2.2
  have e1 : (es.toList.map (·.key))[i]? = some (kv p.1) := by simp only [List.getElem?_map, List.getElem?_eq_getElem hli, Option.map_some, h1]
  have e2 : (es.toList.map (·.key))[j]? = some (kv q.1) := by simp only [List.getElem?_map, List.getElem?_eq_getElem hlj, Option.map_some, h2]
  rw [h] at e1
  exact (List.getElem?_inj (by simpa using hli) hn).1 (e1.trans e2.symm)

theorem map_lt {N : Nat} {og : Option Nat} {xs : List (κ × ν)} {s : St} {v : Value} (h : (Pd.map K kv E N og xs).p s v) : ∀ b, og = some b → N ≤ b ∧ b < s.w.heap.size := fun b hb => by
  obtain ⟨g, hog, _, hN, hX, _⟩ := h
  rw [hog] at hb; cases hb; exact ⟨hN, s.lt _ hX⟩
theorem map_uniq {N : Nat} {og : Option Nat} {xs ys : List (κ × ν)} {s : St} {u v : Value} (h : (Pd.map K kv E N og xs).p s u) (k : (Pd.map K kv E N og ys).p s v) : u = v := by
  obtain ⟨g, hog, hv, _⟩ := h
  obtain ⟨g', hog', hv', _⟩ := k
  rw [hog] at hog'; cases hog'; rw [hv, hv']

section
variable {P : Program} {ops : Array Oper} {o : Oper} {L : Lst} {Q : Exit → Act → World → Prop} {rest : List Oper} {M : Nat → Prop} {n : Nat} {s0 : St} {a : Act} {s : St} {t : TypeId}
theorem st_mkmap (d : Nat) (K : En κ) (kv : κ → Value) (E : En ν) (hL : Has M n s0 a s L) (ho : o.op = .makeMap t none) (hg : o.guard = none) (hd : o.dst = some d) (hn : Nat.blt d n = true)
    (k : ∀ a' s' g, s.w.heap.size ≤ g → Has M n s0 a' s' ((d, Pd.map K kv E s0.w.heap.size (some g) []) :: L) → wpList P ops Q rest a' s'.w) : wpList P ops Q (o :: rest) a s.w := by
  have hr : (execOp a.eval o).run P s.w = .ok (.value (.map (some s.w.heap.size))) (s.pushX (.map #[] 0)).w := by
    unfold execOp; rw [ho]
    simp [Instr.makeMap, St.pushX]
  refine wpList_plain hg fun K hK => ?_
  unfold Oper.wp
  rw [hr]
  refine hK _ _ ?_
  simp only [hd]
  exact k _ _ s.w.heap.size (Nat.le_refl _) (hL.put (Ex.pushX s _) hn ⟨_, rfl, rfl, hL.ent.mv.size, .inr rfl, #[], 0, heap_alloc_new s.w _, ⟨by simp [Stamped], rfl, fun i e p h => by simp at h⟩⟩)

theorem Has.mlt {N : Nat} {og : Option Nat} {xs : List (κ × ν)} (h : Has M n s0 a s L) (t : Nat) (hl : lk L t = some (Pd.map K kv E N og xs)) : ∀ k, og = some k → k < s.w.heap.size := fun k hk => (map_lt (h.get t hl) k hk).2
end
/-- A zero value, as a value. -/
structure TyV {α : Type} (P : Program) (t : TypeId) (E : En α) (z : α) : Prop where
  zero : ∃ i cs, P.info? t = some i ∧ i.zero = some (E.val cs) ∧ ∀ w S, E.R w S cs z

end

section
variable {κ ν : Type} [DecidableEq κ] {K : En κ} {kv : κ → Value} {E : En ν}
theorem find_at {xs : List (κ × ν)} {k : κ} {j : Nat} {p : κ × ν} (hn : ∀ (i j : Nat) (p q : κ × ν), xs[i]? = some p → xs[j]? = some q → p.1 = q.1 → i = j) (hj : xs[j]? = some p) (hk : p.1 = k) : xs.find? (fun p => p.1 == k) = some p := by
  cases h : xs.find? (fun p => p.1 == k) with
  | none =>
    have := List.find?_eq_none.1 h p (List.mem_of_getElem? hj)
    simp [hk] at this
  | some q =>
    have h1 := List.find?_some h
    have h2 := List.mem_of_find?_eq_some h
    obtain ⟨i, hi⟩ := List.getElem?_of_mem h2
    have := hn i j q p hi hj (by rw [hk]; simpa using h1)
    subst this; rw [hi] at hj; exact hj

theorem mget_none {xs : List (κ × ν)} {k : κ} {z : ν} (h : ∀ p ∈ xs, p.1 ≠ k) : mget xs k z = z := by
  unfold mget
  rw [List.find?_eq_none.2 (fun p hp => by simpa using h p hp)]
theorem mhas_iff {xs : List (κ × ν)} {k : κ} : mhas xs k = true ↔ ∃ p ∈ xs, p.1 = k := by simp [mhas]

section
variable {P : Program} {ops : Array Oper} {o : Oper} {L L' : Lst} {Q : Exit → Act → World → Prop} {rest : List Oper} {M : Nat → Prop} {n : Nat} {s0 : St} {a : Act} {s : St} {t kt et : TypeId}

theorem t_mget {N : Nat} {og : Option Nat} {xs : List (κ × ν)} {k : κ} {z : ν} {x y : Operand} (hx : Opn L x (Pd.map K kv E N og xs)) (hy : Opn L y (Pd.rep K k)) (ht : P.underlying t = some (.map kt et)) (hK : KeyT P kt K kv) (hz : TyV P et E z)
    (ho : o.op = .lookup t x y false) (hg : o.guard = none) : T P ops o L (Pd.rep E (mget xs k z)) :=
  T.pure hg fun M n s0 a s hL => by
    obtain ⟨g, _, hv, _, _, es, clock, hgb, hM⟩ := hx M n s0 a s hL
    obtain ⟨cs, hkv, hkR⟩ := hy M n s0 a s hL
    rw [hK.val hkR] at hkv
    obtain ⟨i, zc, hz1, hz2, hz3⟩ := hz.zero
    have hzr : (zeroValue et).run P s.w = .ok (E.val zc) s.w := by simp [zeroValue, typeInfo, hz1, hz2]
    rcases hK.find s.w k es.toList hM.keys with ⟨h1, h2⟩ | ⟨j, e, h1, h2, h3⟩
    · refine ⟨E.val zc, ?_, zc, rfl, ?_⟩
      · unfold execOp; rw [ho]
        simp only [hv, hkv]
        simp [Instr.lookup, run_underlying ht, Go.MapKept.run_getObj_map hgb, hK.check, h1, hzr, Result.andThen]
      · rw [mget_none fun p hp e => ?_]; exact hz3 _ _
        obtain ⟨i, hi⟩ := List.getElem?_of_mem hp
        have hlt : i < es.toList.length := by rw [hM.len]; exact (List.getElem?_eq_some_iff.1 hi).1
        exact h2 _ (List.getElem_mem hlt) (by rw [(hM.ent i _ p (List.getElem?_eq_getElem hlt) hi).1, e])
    · have hlt : j < xs.length := by rw [← hM.len]; exact (List.getElem?_eq_some_iff.1 h2).1
      have hj := List.getElem?_eq_getElem hlt
      obtain ⟨hk1, _, cs', hv', hR'⟩ := hM.ent j e _ h2 hj
      have hk2 : xs[j].1 = k := hK.inj (hk1.symm.trans h3)
      refine ⟨e.val, ?_, cs', hv', ?_⟩
      · unfold execOp; rw [ho]
        simp only [hv, hkv]
        simp [Instr.lookup, run_underlying ht, Go.MapKept.run_getObj_map hgb, hK.check, h1, Result.andThen]
      · unfold mget
        rw [find_at (hM.nodup hK) hj hk2]; exact hR'

theorem run_mput {N : Nat} {og : Option Nat} {xs : List (κ × ν)} {k : κ} {v1 : ν} {s : St} {v kvl vvl : Value} (hx : (Pd.map K kv E N og xs).p s v) (hy : (Pd.rep K k).p s kvl) (hz : (Pd.rep E v1).p s vvl) (ht : P.underlying t = some (.map kt et)) (hK : KeyT P kt K kv) :
    ∃ s', (Instr.mapUpdate t v kvl vvl).run P s.w = .ok () s'.w ∧ Ef (fun b => og = some b) s s' ∧ (∀ b, s.X b → s'.X b) ∧ (Pd.map K kv E N og (mput xs k v1)).p s' v := by
  obtain ⟨g, hog, hv, hN, hX, es, clock, hgb, hM⟩ := hx
  obtain ⟨cs, hkv, hkR⟩ := hy
  rw [hK.val hkR] at hkv
  obtain ⟨cs1, hvv, hvR⟩ := hz
  subst hv hkv
  have hlt := (Array.getElem?_eq_some_iff.1 hgb).1
  have step : ∀ es' clock', ∃ s' : St, s'.w = { s.w with heap := s.w.heap.setIfInBounds g (.map es' clock') } ∧ Ef (fun b => og = some b) s s' ∧ (∀ b, s.X b → s'.X b) ∧ s'.w.heap[g]? = some (.map es' clock') ∧ s'.X = s.X := fun es' clock' => by
    refine ⟨⟨{ s.w with heap := s.w.heap.setIfInBounds g (.map es' clock') }, s.X, fun b hb => by simpa using s.lt b hb⟩, rfl, ⟨⟨rfl, rfl, rfl, by simp, fun b hb hnb => ?_, fun b hb => ?_, fun b hb => .inl hb⟩, fun b hb _ => hb⟩, fun b hb => hb, (heap_set hgb).1, rfl⟩
    · exact (heap_set hgb).2 b (fun e => hnb (by rw [hog, e]))
    · rw [hog] at hb; cases hb; exact hX
  rcases hK.find s.w k es.toList hM.keys with ⟨h1, h2⟩ | ⟨j, e, h1, h2, h3⟩
  · have hno : mhas xs k = false := by
      rw [← Bool.not_eq_true, mhas_iff]
      rintro ⟨p, hp, e⟩
      obtain ⟨i, hi⟩ := List.getElem?_of_mem hp
      have hlt : i < es.toList.length := by rw [hM.len]; exact (List.getElem?_eq_some_iff.1 hi).1
      exact h2 _ (List.getElem_mem hlt) (by rw [(hM.ent i _ p (List.getElem?_eq_getElem hlt) hi).1, e])
    obtain ⟨s', hw, hE, hXX, hgb', hXe⟩ := step (es.push ⟨kv k, vvl, clock⟩) (clock + 1)
    refine ⟨s', ?_, hE, hXX, g, hog, rfl, hN, hXX g hX, _, _, hgb', ?_⟩
    · rw [hw]; simp [Instr.mapUpdate, run_underlying ht, Go.MapKept.run_getObj_map hgb, hK.check, h1, Go.MapKept.run_setObj_map _ hgb, Result.andThen]
    · have hM' := hM.go hE.mv
      refine ⟨stamped_push hM.st (fun x hx => h2 x hx), ?_, fun i e p he hp => ?_⟩
      · have := hM.len
        simp only [mput, hno, cond_false, Array.toList_push, List.length_append, List.length_cons, List.length_nil]; omega
      · simp only [mput, hno, cond_false, Array.toList_push] at he hp
        by_cases hi : i < xs.length
        · rw [List.getElem?_append_left hi] at hp
          rw [List.getElem?_append_left (by rw [hM.len]; exact hi)] at he
          exact hM'.ent i e p he hp
        · have hie : i = xs.length := by
            have := (List.getElem?_eq_some_iff.1 hp).1
            simp at this; omega
          subst hie
          rw [List.getElem?_append_right (Nat.le_refl _)] at hp
          rw [List.getElem?_append_right (by rw [hM.len]; exact Nat.le_refl _), hM.len] at he
          simp at he hp; subst he; subst hp
          exact ⟨rfl, ⟨cs, K.go hE.mv hkR⟩, cs1, hvv, E.go hE.mv hvR⟩
  · have hltj : j < xs.length := by rw [← hM.len]; exact (List.getElem?_eq_some_iff.1 h2).1
    have hjx := List.getElem?_eq_getElem hltj
    have hk2 : xs[j].1 = k := hK.inj ((hM.ent j e _ h2 hjx).1.symm.trans h3)
    have hyes : mhas xs k = true := mhas_iff.2 ⟨_, List.getElem_mem hltj, hk2⟩
    have hj : es[j]? = some e := by simpa using h2
    have hlist : (es.modify j (fun e' => { e' with key := kv k, val := vvl })).toList = es.toList.set j { e with key := kv k, val := vvl } := by rw [Array.toList_modify, Go.ChangeMaps.modify_eq_set _ _ _ _ h2]
    have hkeyf : ∀ e', es[j]? = some e' → ({ e' with key := kv k, val := vvl } : MapEntry).key = e'.key := fun e' he' => by rw [hj] at he'; cases he'; exact h3.symm
    obtain ⟨s', hw, hE, hXX, hgb', hXe⟩ := step (es.modify j (fun e' => { e' with key := kv k, val := vvl })) clock
    refine ⟨s', ?_, hE, hXX, g, hog, rfl, hN, hXX g hX, _, _, hgb', ?_⟩
    · rw [hw]; simp [Instr.mapUpdate, run_underlying ht, Go.MapKept.run_getObj_map hgb, hK.check, h1, hj, h3, hK.stays, Go.MapKept.run_setObj_map _ hgb, Result.andThen]
    · have hM' := hM.go hE.mv
      refine ⟨stamped_modify hM.st _ _ (fun _ _ => rfl) (fun e' _ he' => hkeyf e' he'), ?_, fun i e1 p he hp => ?_⟩
      · rw [hlist]; simp only [mput, hyes, cond_true, List.length_map, List.length_set]; exact hM.len
      · rw [hlist] at he
        simp only [mput, hyes, cond_true, List.getElem?_map] at hp
        obtain ⟨p0, hp0, rfl⟩ := Option.map_eq_some_iff.1 hp
        by_cases hij : j = i
        · subst hij
          rw [hjx] at hp0; cases hp0
          have hjl : j < es.toList.length := by rw [hM.len]; exact hltj
          rw [List.getElem?_set_self hjl] at he
          cases he
          simp only [hk2, beq_self_eq_true, cond_true]
          exact ⟨trivial, ⟨cs, K.go hE.mv hkR⟩, cs1, hvv, E.go hE.mv hvR⟩
        · rw [List.getElem?_set_ne hij] at he
          have hne : (p0.1 == k) = false := by
            rw [← Bool.not_eq_true]
            intro hh
            exact hij (hM.nodup hK j i _ p0 hjx hp0 (by rw [hk2]; exact (by simpa using hh : p0.1 = k).symm))
          rw [hne]; exact hM'.ent i e1 p0 he hp0

theorem st_mputC {og : Option Nat} {xs : List (κ × ν)} {k : κ} {v1 : ν} {x y z : Operand} (hL : Has M n s0 a s L) (hx : Opn L x (Pd.map K kv E s0.w.heap.size og xs)) (hy : Opn L y (Pd.rep K k)) (hz : Opn L z (Pd.rep E v1))
    (ht : P.underlying t = some (.map kt et)) (hK : KeyT P kt K kv) (ho : o.op = .mapUpdate t x y z ∨ o.op = .insert t x y z) (hg : o.guard = none) (hd : o.dst = none)
    (hk : Kw (fun b => og = some b) L (Pd.map K kv E s0.w.heap.size og xs) (Pd.map K kv E s0.w.heap.size og (mput xs k v1)) L')
    (kk : ∀ s', Has M n s0 a s' L' → wpList P ops Q rest a s'.w) : wpList P ops Q (o :: rest) a s.w := by
  have hxv := hx M n s0 a s hL
  obtain ⟨s', hr, hE, hXX, hp⟩ := run_mput (P := P) hxv (hy M n s0 a s hL) (hz M n s0 a s hL) ht hK
  refine wpList_plain hg fun K' hK' => ?_
  unfold Oper.wp execOp
  have h2 : wpList P ops Q rest a s'.w := kk s' (hL.turn hE (.inl fun b hb => (map_lt hxv b hb).1) hXX hk fun v hv => by rw [map_uniq hv hxv]; exact hp)
  rcases ho with ho | ho
  all_goals
    simp only [ho, Sem.run_bind, hr, Result.andThen_ok, Sem.run_pure]
    refine hK' _ _ ?_
    simp only [hd]
    exact h2
end
end
end Go.Proofs.YtdfnbogkniikbaaDoor.V
