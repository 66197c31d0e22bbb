/-
  A function literal that appends to a variable which it captured: called by a function that takes it as a value. No program is named here.
-/
import Derived.Test.YtdfnbogkniikbaaDoorAC
namespace Go.Proofs.YtdfnbogkniikbaaDoor.V
open Go
set_option linter.unusedVariables false

/-- A value as it is. -/
def En.raw : En Value where
  sz := 1
  agg := false
  R := fun _ _ cs x => cs = [x] ∧ x.oneCell' = true
  sc := fun _ => rfl
  pos := Nat.one_pos
  len := by rintro _ _ _ _ ⟨rfl, _⟩; rfl
  one := by rintro _ _ _ _ ⟨rfl, h⟩ u hu; simp at hu; subst hu; exact h
  mono := fun _ h => h
  move := fun _ h => h
theorem rep_raw {x : Value} {s : St} {v : Value} : (Pd.rep En.raw x).p s v ↔ v = x ∧ x.oneCell' = true :=
  ⟨fun ⟨_, hv, hc, hr⟩ => by subst hc; exact ⟨hv, hr⟩, fun ⟨hv, hr⟩ => ⟨[x], hv, rfl, hr⟩⟩

/-- The function literal f over the variable in block c. -/
def hv (f c : Nat) : Value := .func (.func f) #[] #[.pointer (some ⟨c, 0, none⟩)]

/-- Block c is a variable that holds a row of its own. -/
def Gh {α : Type} (E : En α) (N : Nat) (te : TypeId) (c : Nat) (og : Option Nat) (xs : List α) (s : St) : Prop :=
  s.X c ∧ og ≠ some c ∧ ∃ v t, s.w.heap[c]? = some (.cells #[v] t (0, 0)) ∧ (Pd.row E N te og xs).p s v
theorem Gh.mv {α : Type} {E : En α} {N : Nat} {te : TypeId} {c : Nat} {og : Option Nat} {xs : List α} {T : Nat → Prop} {s s' : St} (h : Mv T s s') (hb : ∀ b, (some c = some b ∨ og = some b) → ¬ T b ∧ (s.X b → s'.X b)) (hp : Gh E N te c og xs s) : Gh E N te c og xs s' := by
  obtain ⟨hx, hne, v, t, hc, hr⟩ := hp
  refine ⟨(hb c (.inl rfl)).2 hx, hne, v, t, ?_, (Pd.row E N te og xs).mv h (fun b hbo => hb b (.inr hbo)) hr⟩
  rw [h.blk c (Array.getElem?_eq_some_iff.1 hc).1 (hb c (.inl rfl)).1]; exact hc

def Pd.gh {α : Type} (E : En α) (N : Nat) (te : TypeId) (c : Nat) (og : Option Nat) (xs : List α) : Pd :=
  ⟨fun s _ => Gh E N te c og xs s, fun b => some c = some b ∨ og = some b, fun h hb hp => hp.mv h hb⟩
/-- .. and the value points to it. -/
def Pd.gv {α : Type} (E : En α) (N : Nat) (te : TypeId) (c : Nat) (og : Option Nat) (xs : List α) : Pd :=
  ⟨fun s v => v = .pointer (some ⟨c, 0, none⟩) ∧ N ≤ c ∧ Gh E N te c og xs s, fun b => some c = some b ∨ og = some b, fun h hb hp => ⟨hp.1, hp.2.1, hp.2.2.mv h hb⟩⟩

theorem Dis.o1 {g : Nat} {c og : Option Nat} (h : Dis (some g) c) (k : Dis (some g) og) : ∀ b, b = g → ¬ (c = some b ∨ og = some b) := fun b e h2 => h2.elim (fun h2 => h b (by rw [e]) h2) (fun h2 => k b (by rw [e]) h2)
theorem Dis.o2 {o c og : Option Nat} (h : Dis o c) (k : Dis o og) : ∀ b, o = some b → ¬ (c = some b ∨ og = some b) := fun b e h2 => h2.elim (fun h2 => h b e h2) (fun h2 => k b e h2)
theorem Dis.o3 {o c og : Option Nat} (h : Dis c o) (k : Dis og o) : ∀ b, (c = some b ∨ og = some b) → ¬ o = some b := fun b h2 e => h2.elim (fun h2 => h b h2 e) (fun h2 => k b h2 e)

/-- A contract of such a literal: it appends what it is handed, and says no. -/
structure HitOk (P : Program) (f : FuncId) (te : TypeId) : Prop where
  call : ∀ (args : Array Value) (w : World), (callFunc f args).run P w = .ok (.enter f args) w
  run : ∀ (N c : Nat) (og : Option Nat) (xs : List Int) (x : Int) (s : St) (v : Value), Gl s → N ≤ s.w.heap.size → xs.length + 1 ≤ 2147483648 → (Pd.rep (En.int .i64) x).p s v → Gh (En.int .i64) N te c og xs s →
    Calls P f #[v, .pointer (some ⟨c, 0, none⟩)] s.w fun e w' => ∃ s' og', e = .returned (.bool false) ∧ s'.w = w' ∧ Ef (fun b => some c = some b ∨ og = some b) s s' ∧ s'.X c ∧ (∀ b, og' = some b → og = some b ∨ s.w.heap.size ≤ b) ∧ Gh (En.int .i64) N te c og' (xs ++ [x]) s'

theorem Ef.exg {M T : Nat → Prop} {s0 s s' : St} (h : Fr M s0 s) (e : Ef T s s') (hT : ∀ b, T b → M b ∨ s0.w.heap.size ≤ b) (hk : ∀ b, M b → s.X b → s'.X b) : Fr M s0 s' :=
  ⟨⟨e.mv.os.trans h.mv.os, e.mv.tape.trans h.mv.tape, e.mv.output.trans h.mv.output, Nat.le_trans h.mv.size e.mv.size,
    fun b hb hn => (e.mv.blk b (Nat.lt_of_lt_of_le hb h.mv.size) (fun ht => (hT b ht).elim hn (fun hs => by omega))).trans (h.mv.blk b hb hn), h.mv.tx,
    fun b hb => (e.mv.xx b hb).elim (fun j => h.mv.xx b j) (fun j => .inr (Nat.le_trans h.mv.size j))⟩,
   fun b hb => by
    by_cases ht : T b
    · rcases hT b ht with hm | hs
      · exact hk b hm (h.keep b hb)
      · have := s0.lt b hb; omega
    · exact e.keep b (h.keep b hb) ht⟩
theorem Has.efg {M : Nat → Prop} {n : Nat} {s0 : St} {a : Act} {s s' : St} {L L' : Lst} {T : Nat → Prop} (h : Has M n s0 a s L) (e : Ef T s s') (hT : ∀ b, T b → M b ∨ s0.w.heap.size ≤ b) (hX : ∀ b, M b → s.X b → s'.X b) (hk : Kp T L L') : Has M n s0 a s' L' where
  size := h.size
  defers := h.defers
  ent := e.exg h.ent hT hX
  gl := h.gl
  at_ := fun t q hl => let ⟨h1, h2⟩ := hk.get t q hl; q.mv e.mv (fun b hb => ⟨h2 b hb, fun hx => e.keep b hx (h2 b hb)⟩) (h.at_ t q h1)

/-- A contract of a function that takes such a literal: the variable, ahead nil, then holds zs. -/
structure Fg (P : Program) (f : FuncId) (c : Nat) (te : TypeId) (qs : List Pd) (R : St → Value → Prop) (zs : List Int) : Prop where
  call : ∀ (args : Array Value) (w : World), (callFunc f args).run P w = .ok (.enter f args) w
  run : ∀ s vs, Gl s → Gh (En.int .i64) s.w.heap.size te c none [] s → Vals s qs vs → Calls P f vs.toArray s.w fun e w' => ∃ v s', e = .returned v ∧ s'.w = w' ∧ Fr (fun b => some c = some b) s s' ∧ R s' v ∧ ∃ og, Gh (En.int .i64) s.w.heap.size te c og zs s'

def Rg (te : TypeId) (c : Nat) (R : St → Value → Prop) (zs : List Int) : St → St → Value → Prop := fun s s' v => R s' v ∧ ∃ og, Gh (En.int .i64) s.w.heap.size te c og zs s'

theorem fg_of {P : Program} {f : FuncId} {fn : Func} {cd : Code} {n c : Nat} {te : TypeId} {qs : List Pd} {R : St → Value → Prop} {zs : List Int} (hf : P.funcs[f]? = some fn) (hb : fn.body = some cd) (hn : fn.ntmps = n) (hm : (fn.name == "runtime.NumGoroutine") = false) (hq : qs.length ≤ n)
    (h : ∀ s0 a, Has (fun b => some c = some b) n s0 a s0 ((999901, Pd.gh (En.int .i64) s0.w.heap.size te c none []) :: num 0 qs) → cd.wp P (bodyPost P fn (Pst (fun b => some c = some b) (Rg te c R zs) s0)) a s0.w) : Fg P f c te qs R zs where
  call := fun args w => by
    have hm' : ¬ fn.name = "runtime.NumGoroutine" := by simpa using hm
    simp [callFunc, hf, hm', hb]
  run := fun s vs hg hgh hv => by
    refine calls_of_wp hf hb ?_
    have hl := vals_len hv
    have h0 : Has (fun b => some c = some b) n s { tmps := vs.toArray ++ Array.replicate (fn.ntmps - vs.toArray.size) undef, defers := [] } s (num 0 qs) := by
      refine ⟨?_, rfl, Fr.refl (fun b hb => by cases hb; exact hgh.1), hg, fun t q ht => ?_⟩
      · simp [hn, hl]; omega
      · obtain ⟨v, _, h2, h3⟩ := num_vals hv 0 t q ht
        have : (({ tmps := vs.toArray ++ Array.replicate (fn.ntmps - vs.toArray.size) undef, defers := [] } : Act).eval (.tmp t)) = v := by
          simp only [Nat.sub_zero] at h2
          have hlt : t < vs.length := (List.getElem?_eq_some_iff.1 h2).1
          simp only [Act.eval]
          rw [Array.getD_eq_getD_getElem?, Array.getElem?_append_left (by simpa using hlt)]
          simp [h2]
        rw [this]; exact h3
    exact h s _ (h0.cons 999901 hgh)

section
variable {P : Program} {ops : Array Oper} {o : Oper} {L L' : Lst} {Q : Exit → Act → World → Prop} {rest : List Oper} {M : Nat → Prop} {n : Nat} {s0 : St} {a : Act} {s : St} {te : TypeId} {c : Nat} {og : Option Nat}

theorem retg {fn : Func} {a0 t0 : Nat} {α : Type} {E : En α} {x : α} {N g : Nat} {xs : List Int} (hr : fn.results = #[.cell a0 t0]) (hE : Ty P t0 E) (hL : Has M n s0 a s L) (hl : lk L a0 = some (Pd.box E N g x)) (hgl : lk L 999901 = some (Pd.gh (En.int .i64) s0.w.heap.size te c og xs)) :
    bodyPost P fn (Pst M (Rg te c (fun s v => (Pd.rep E x).p s v) xs) s0) .ret a s.w := by
  obtain ⟨hv, _, _, cs, t', hc, hR⟩ := hL.get a0 hl
  exact ⟨hL.defers, _, results_cell hr hE hv hR (cellsAt_block hc), _, s, rfl, rfl, hL.ent, ⟨cs, rfl, hR⟩, og, hL.get 999901 hgl⟩

theorem Has.gltc {N : Nat} {xs : List Int} (h : Has M n s0 a s L) (t : Nat) (hl : lk L t = some (Pd.gh (En.int .i64) N te c og xs)) : ∀ k, some c = some k → k < s.w.heap.size := fun k hk => by cases hk; exact s.lt _ (h.get t hl).1
theorem Has.glto {N : Nat} {xs : List Int} (h : Has M n s0 a s L) (t : Nat) (hl : lk L t = some (Pd.gh (En.int .i64) N te c og xs)) : ∀ k, og = some k → k < s.w.heap.size := fun k hk => by
  obtain ⟨_, _, v, t, _, hr⟩ := h.get t hl
  exact (row_lt hr k hk).2
theorem Has.gvc {N : Nat} {xs : List Int} (h : Has M n s0 a s L) (t : Nat) (hl : lk L t = some (Pd.gv (En.int .i64) N te c og xs)) : ∀ k, some c = some k → k < s.w.heap.size := fun k hk => by cases hk; exact s.lt _ (h.get t hl).2.2.1

/-- The literal, made. -/
theorem t_mkraw {f : FuncId} {x : Nat} {N : Nat} {xs : List Int} (hx : lk L x = some (Pd.gv (En.int .i64) N te c og xs)) (ho : o.op = .makeFunc (.func f) #[] #[.tmp x]) (hg : o.guard = none) : T P ops o L (Pd.rep En.raw (hv f c)) :=
  T.pure hg fun M n s0 a s hL => by
    refine ⟨hv f c, ?_, rep_raw.2 ⟨rfl, rfl⟩⟩
    unfold execOp
    rw [ho]
    have := (hL.get x hx).1
    simp [Instr.makeFunc, hv, this]

/-- The literal, called. -/
theorem st_hit {f : FuncId} (d : Nat) {t : Nat} {y : Operand} {x : Int} {xs : List Int} {h : Value} {ats : Array TypeId} (hL : Has M n s0 a s L) (hf : HitOk P f te) (hM : M c) (hgl : lk L 999901 = some (Pd.gh (En.int .i64) s0.w.heap.size te c og xs))
    (hx : Opn L (.tmp t) (Pd.rep En.raw h)) (he : h = hv f c) (hy : Opn L y (Pd.rep (En.int .i64) x)) (hlen : xs.length + 1 ≤ 2147483648) (ho : o.op = .call { callee := .value (.tmp t), args := #[y], argTypes := ats }) (hg : o.guard = none) (hd : o.dst = some d) (hn : Nat.blt d n = true)
    (hk : Kp (fun b => some c = some b ∨ og = some b) L L')
    (k : ∀ a' s' og', (∀ b, og' = some b → og = some b ∨ s.w.heap.size ≤ b) → Has M n s0 a' s' ((d, Pd.rep En.bool false) :: (999901, Pd.gh (En.int .i64) s0.w.heap.size te c og' (xs ++ [x])) :: L') → wpList P ops Q rest a' s'.w) : wpList P ops Q (o :: rest) a s.w := by
  have hv := (rep_raw.1 (hx M n s0 a s hL)).1
  rw [he] at hv
  have hgh := hL.get 999901 hgl
  have e : (execOp a.eval o).run P s.w = .ok (.enter f #[a.eval y, .pointer (some ⟨c, 0, none⟩)]) s.w := by
    have e1 : execOp a.eval o = (do let d ← Deferred.ofValue (a.eval (.tmp t)) (#[y].map a.eval); invoke d.target d.args) := by
      unfold execOp; rw [ho]; rfl
    rw [e1, hv]
    have := hf.call #[a.eval y, .pointer (some ⟨c, 0, none⟩)] s.w
    simpa [Deferred.ofValue, invoke, V.hv] using this
  refine wpList_plain hg fun K hK => ?_
  unfold Oper.wp
  rw [e, Oper.upon_enter]
  refine (hf.run s0.w.heap.size c og xs x s _ hL.gls hL.ent.mv.size hlen (hy M n s0 a s hL) hgh).mono fun en w' ⟨s', og', he, hw, hE, hXc, hog, hgh'⟩ => ?_
  subst he; subst hw
  refine hK _ _ ?_
  rw [hd]
  have hT : ∀ b, (some c = some b ∨ og = some b) → M b ∨ s0.w.heap.size ≤ b := fun b hb => hb.elim (fun e => by cases e; exact .inl hM) (fun e => .inr (by obtain ⟨_, _, _, _, _, hr⟩ := hgh; exact (row_lt hr b e).1))
  have h1 : Has M n s0 a s' L' := hL.efg hE hT (fun b hb hx => by
    by_cases hbc : b = c
    · rw [hbc]; exact hXc
    · refine hE.keep b hx (fun ht => ht.elim (fun e => hbc (by cases e; rfl)) (fun e => ?_))
      obtain ⟨_, _, _, _, _, hr⟩ := hgh
      have := (row_lt hr b e).1
      have := hL.ent.mv.tx b hb
      have := s0.lt b this
      omega) hk
  exact k _ s' og' hog ((h1.cons 999901 hgh').put' hn (rep_bool.2 rfl))

/-- A variable for a literal, nil. -/
structure TyN (P : Program) (t : TypeId) : Prop where
  zero : ∃ i, P.info? t = some i ∧ i.zero = some (.slice none 0 0)
theorem st_allocg {t : TypeId} (te : TypeId) (d : Nat) (hL : Has M n s0 a s L) (hz : TyN P t) (ho : o.op = .alloc t) (hg : o.guard = none) (hd : o.dst = some d) (hn : Nat.blt d n = true)
    (k : ∀ a' s' g, s.w.heap.size ≤ g → Has M n s0 a' s' ((d, Pd.gv (En.int .i64) s0.w.heap.size te g none []) :: L) → wpList P ops Q rest a' s'.w) : wpList P ops Q (o :: rest) a s.w := by
  obtain ⟨i, h1, h2⟩ := hz.zero
  have hr : (execOp a.eval o).run P s.w = .ok (.value (.pointer (some ⟨s.w.heap.size, 0, none⟩))) (s.pushX (.cells #[.slice none 0 0] t)).w := by
    unfold execOp; rw [ho]
    simp [Instr.alloc, zeroValue, typeInfo, h1, h2, newVar, newRow, St.pushX, Value.cells]
  refine wpList_plain hg fun K hK => ?_
  unfold Oper.wp
  rw [hr]
  refine hK _ _ ?_
  simp only [hd]
  exact k _ _ s.w.heap.size (Nat.le_refl _) (hL.put (Ex.pushX s _) hn ⟨rfl, hL.ent.mv.size, .inr rfl, (fun h => by cases h), .slice none 0 0, t, heap_alloc_new s.w _, own_nil _ _ _ _⟩)

/-- A call that takes the literal: then the variable, and what it holds, is only read. -/
theorem st_callg {α : Type} {E2 : En α} {r : α} {f : FuncId} {xs : List Operand} {qs : List Pd} {ats : Array TypeId} {zs : List Int} (d c3 : Nat) (hL : Has M n s0 a s L) (hc : lk L c3 = some (Pd.gv (En.int .i64) s0.w.heap.size te c none [])) (hf : Fg P f c te qs (fun s v => (Pd.rep E2 r).p s v) zs) (hx : Opns L xs qs)
    (ho : o.op = .call { callee := .value (.func f), args := xs.toArray, argTypes := ats }) (hg : o.guard = none) (hd : o.dst = some d) (hn : Nat.blt d n = true) (hne : d ≠ c3) (hk : Kp (fun b => some c = some b) L L')
    (k : ∀ a' s', Has M n s0 a' s' ((d, Pd.rep E2 r) :: (c3, Pd.ptr (En.slice (En.int .i64)) zs) :: L') → wpList P ops Q rest a' s'.w) : wpList P ops Q (o :: rest) a s.w := by
  obtain ⟨hpv, hNc, hX, hno, v0, t0, hc0, hr0⟩ := hL.get c3 hc
  have hgh : Gh (En.int .i64) s.w.heap.size te c none [] s := by
    refine ⟨hX, hno, v0, t0, hc0, ?_⟩
    obtain ⟨h1, h2, h3, css, h4, h5⟩ := hr0
    refine ⟨h1, h2, h3, css, h4, h5.1, ?_⟩
    rcases h5.2 with hn | ⟨g, cap, cur, e, _⟩
    · exact .inl hn
    · subst e; cases h1
  have hcall := hf.call (xs.map a.eval).toArray s.w
  have e : (execOp a.eval o).run P s.w = .ok (.enter f (xs.map a.eval).toArray) s.w := by
    have e : execOp a.eval o = callFunc f (#[] ++ (xs.toArray).map a.eval ++ #[]) := by unfold execOp; rw [ho]; rfl
    rw [e]; simpa using hcall
  refine wpList_plain hg fun K hK => ?_
  unfold Oper.wp
  rw [e, Oper.upon_enter]
  refine (hf.run s _ hL.gls hgh (hx.vals hL)).mono fun en w' ⟨v, s', he, hw, hfr, hp, og', hX', hne', v', t', hc', hr'⟩ => ?_
  subst he; subst hw
  refine hK _ _ ?_
  rw [hd]
  have hlt := row_lt hr'
  let s2 : St := ⟨s'.w, fun b => s'.X b ∧ ¬ some c = some b ∧ og' ≠ some b, fun b hb => s'.lt b hb.1⟩
  have hE : Ef (fun b => some c = some b) s s2 := ⟨⟨hfr.mv.os, hfr.mv.tape, hfr.mv.output, hfr.mv.size, hfr.mv.blk, hfr.mv.tx, fun b hb => hfr.mv.xx b hb.1⟩, fun b hb hn => ⟨hfr.keep b hb, hn, fun e => by have := (hlt b e).1; have := s.lt b hb; omega⟩⟩
  have hM2 : Mv (fun _ => False) s' s2 := ⟨rfl, rfl, rfl, Nat.le_refl _, fun _ _ _ => rfl, fun _ h => h.elim, fun b hb => .inl hb.1⟩
  have h1 : Has M n s0 a s2 L' := hL.ef hE (fun b hb => by cases hb; exact hNc) hk
  have h2 : (Pd.rep E2 r).p s2 v := (Pd.rep E2 r).mv hM2 (fun b hb => hb.elim) hp
  have hsl := own_slV hr' (s' := s2) rfl (fun b hb => ⟨hb.1, hb.2.2⟩)
  have hptr : (Pd.ptr (En.slice (En.int .i64)) zs).p s2 (a.eval (.tmp c3)) := ⟨c, 0, [v'], hpv, ⟨(Array.getElem?_eq_some_iff.1 hc').1, fun hx => hx.2.1 rfl⟩, cellsAt_block hc', v', rfl, hsl⟩
  exact k _ s2 ((h1.cons c3 hptr).put' hn h2)
end
end Go.Proofs.YtdfnbogkniikbaaDoor.V
