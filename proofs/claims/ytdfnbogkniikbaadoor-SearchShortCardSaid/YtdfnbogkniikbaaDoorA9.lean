/-
  Function values; rows that came in as a parameter and are written in place. No program is named here.
-/
import Derived.Test.YtdfnbogkniikbaaDoorA8
import Derived.OpenShut
namespace Go.Proofs.YtdfnbogkniikbaaDoor.V
open Go
set_option linter.unusedVariables false

/-! ### rows that came in, and are written -/
/-- A row that came in as the value v0. -/
def Pd.prow {α : Type} (E : En α) (te : TypeId) (v0 : Value) (xs : List α) : Pd :=
  ⟨fun s v => v = v0 ∧ (Pd.row E 0 te v0.ownBlock xs).p s v, fun b => v0.ownBlock = some b, fun h hb hp => ⟨hp.1, (Pd.row E 0 te v0.ownBlock xs).mv h hb hp.2⟩⟩

section
variable {P : Program} {ops : Array Oper} {o : Oper} {L L' : Lst} {Q : Exit → Act → World → Prop} {rest : List Oper} {M : Nat → Prop} {n : Nat} {s0 : St} {a : Act} {s : St}

theorem o_p {α : Type} {E : En α} {te : TypeId} {v0 : Value} {xs : List α} {x : Operand} (h : Opn L x (Pd.prow E te v0 xs)) : Opn L x (Pd.row E 0 te v0.ownBlock xs) := fun M n s0 a s hL => (h M n s0 a s hL).2

theorem st_storp {α β : Type} {E : En α} {E' : En β} {xs : List α} {e0 e1 : α} {y0 y1 : β} {v0 : Value} {off : Nat} {i : Int} {x y : Operand} {t te : TypeId} (c : Nat) (hw : ∀ b, v0.ownBlock = some b → M b) (hL : Has M n s0 a s L) (hc : lk L c = some (Pd.prow E te v0 xs)) (hi : at? xs i = some e0)
    (hx : Opn L x (Pd.optr E' 0 v0.ownBlock (i.toNat * E.sz + off) y0)) (hy : Opn L y (Pd.rep E' y1)) (hs : Sub E off E' e0 e1 y1) (ht : Ty P t E') (ho : o.op = .store t x y) (hg : o.guard = none) (hd : o.dst = none) (hk : Kw (fun b => v0.ownBlock = some b) L (Pd.prow E te v0 xs) (Pd.prow E te v0 (xs.set i.toNat e1)) L')
    (k : ∀ s', Has M n s0 a s' L' → wpList P ops Q rest a s'.w) : wpList P ops Q (o :: rest) a s.w := by
  have hrow := hL.get c hc
  exact st_storC hrow.2 hi (hx M n s0 a s hL) (hy M n s0 a s hL) hs ht ho hg hd fun s' e hX hr => k s' (hL.turn e (.inr hw) hX hk fun v hv => ⟨hv.1, by have h1 := hrow.1; rw [h1] at hr; rw [hv.1]; exact hr⟩)

/-- A call that writes a row in place which came in. -/
theorem st_callm {α : Type} {E : En α} {te : TypeId} {xs ys : List α} {v0 : Value} {f : FuncId} {x0 : Operand} {zs : List Operand} {qs : List Pd} {ats : Array TypeId} (d : Nat)
    (hf : ∀ v0 : Value, Fm P f (fun b => v0.ownBlock = some b) (Pd.prow E te v0 xs :: qs) (fun _ s' _ => (Pd.prow E te v0 ys).p s' v0))
    (hL : Has M n s0 a s L) (hw : ∀ b, v0.ownBlock = some b → M b) (hx0 : Opn L x0 (Pd.prow E te v0 xs)) (hx : Opns L zs qs)
    (ho : o.op = .call { callee := .value (.func f), args := (x0 :: zs).toArray, argTypes := ats }) (hg : o.guard = none) (hd : o.dst = some d) (hn : Nat.blt d n = true) (hk : Kw (fun b => v0.ownBlock = some b) L (Pd.prow E te v0 xs) (Pd.prow E te v0 ys) L')
    (k : ∀ a' s', Has M n s0 a' s' ((d, Pd.any) :: L') → wpList P ops Q rest a' s'.w) : wpList P ops Q (o :: rest) a s.w := by
  refine wpList_plain hg fun K hK => ?_
  have hv := hx0 M n s0 a s hL
  have hcall := (hf v0).call ((x0 :: zs).map a.eval).toArray s.w
  have e : execOp a.eval o = callFunc f (#[] ++ ((x0 :: zs).toArray).map a.eval ++ #[]) := by unfold execOp; rw [ho]; rfl
  have hrun : (execOp a.eval o).run P s.w = .ok (.enter f ((x0 :: zs).map a.eval).toArray) s.w := by rw [e]; simpa using hcall
  unfold Oper.wp
  rw [hrun, Oper.upon_enter]
  have hX : ∀ b, v0.ownBlock = some b → s.X b := fun b hb => hv.2.2.1 b hb
  have hvals : Vals s (Pd.prow E te v0 xs :: qs) ((x0 :: zs).map a.eval) := ⟨hv, hx.vals hL⟩
  refine ((hf v0).run s _ hL.gls hX hvals).mono fun en w' ⟨v, s', he, hw', hfr, hp⟩ => ?_
  subst he; subst hw'
  refine hK _ _ ?_
  have hef : Ef (fun b => v0.ownBlock = some b) s s' := ⟨hfr.mv, fun b hb _ => hfr.keep b hb⟩
  have hL2 := hL.turn hef (.inr hw) hfr.keep hk fun u hu => by rw [hu.1]; exact hp
  rw [hd]
  exact k _ s' (hL2.put' hn trivial)

/-- A call that writes a row in place, of the function's own. -/
theorem st_callr {α : Type} {E : En α} {te : TypeId} {xs ys : List α} {og : Option Nat} {f : FuncId} {x0 : Operand} {zs : List Operand} {qs : List Pd} {ats : Array TypeId} (d : Nat)
    (hf : ∀ v0 : Value, Fm P f (fun b => v0.ownBlock = some b) (Pd.prow E te v0 xs :: qs) (fun _ s' _ => (Pd.prow E te v0 ys).p s' v0))
    (hL : Has M n s0 a s L) (hx0 : Opn L x0 (Pd.row E s0.w.heap.size te og xs)) (hx : Opns L zs qs)
    (ho : o.op = .call { callee := .value (.func f), args := (x0 :: zs).toArray, argTypes := ats }) (hg : o.guard = none) (hd : o.dst = some d) (hn : Nat.blt d n = true) (hk : Kw (fun b => og = some b) L (Pd.row E s0.w.heap.size te og xs) (Pd.row E s0.w.heap.size te og ys) L')
    (k : ∀ a' s', Has M n s0 a' s' ((d, Pd.any) :: L') → wpList P ops Q rest a' s'.w) : wpList P ops Q (o :: rest) a s.w := by
  refine wpList_plain hg fun K hK => ?_
  have hv := hx0 M n s0 a s hL
  obtain ⟨v0, hv0⟩ : ∃ v0, a.eval x0 = v0 := ⟨_, rfl⟩
  rw [hv0] at hv
  have hog : v0.ownBlock = og := hv.1
  have hcall := (hf v0).call ((x0 :: zs).map a.eval).toArray s.w
  have e : execOp a.eval o = callFunc f (#[] ++ ((x0 :: zs).toArray).map a.eval ++ #[]) := by unfold execOp; rw [ho]; rfl
  have hrun : (execOp a.eval o).run P s.w = .ok (.enter f ((x0 :: zs).map a.eval).toArray) s.w := by rw [e]; simpa using hcall
  unfold Oper.wp
  rw [hrun, Oper.upon_enter]
  have hX : ∀ b, v0.ownBlock = some b → s.X b := fun b hb => hv.2.1 b (by rw [← hog]; exact hb)
  have hvals : Vals s (Pd.prow E te v0 xs :: qs) ((x0 :: zs).map a.eval) := ⟨⟨hv0, by rw [hv0, hog]; exact row_weak (Nat.zero_le _) hv⟩, hx.vals hL⟩
  refine ((hf v0).run s _ hL.gls hX hvals).mono fun en w' ⟨v, s', he, hw', hfr, hp⟩ => ?_
  subst he; subst hw'
  refine hK _ _ ?_
  have hef : Ef (fun b => og = some b) s s' := by
    have := hfr.mv
    simp only [hog] at this
    exact ⟨this, fun b hb _ => hfr.keep b hb⟩
  have hlt := row_lt hv
  have hrow : (Pd.row E s0.w.heap.size te og ys).p s' v0 := by
    obtain ⟨_, h1, h2, h3, css, h4, h5⟩ := hp
    rw [hog] at h1 h2
    refine ⟨hog, h2, h3, css, h4, h5.1, h5.2.imp id ?_⟩
    rintro ⟨g, cap, cur, e, _, r⟩
    exact ⟨g, cap, cur, e, (hlt g (by rw [← hog, e]; rfl)).1, r⟩
  have hL2 := hL.turn hef (.inl fun b hb => (hlt b hb).1) hfr.keep hk fun u hu => by rw [row_uniq hu hv]; exact hrow
  rw [hd]
  exact k _ s' (hL2.put' hn trivial)

/-- The end of a function that wrote a row which came in. -/
theorem retm {α : Type} {E : En α} {te : TypeId} {v0 : Value} {ys : List α} {fn : Func} {c : Nat} (hr : fn.results = #[]) (hL : Has M n s0 a s L) (hc : lk L c = some (Pd.prow E te v0 ys)) :
    bodyPost P fn (Pst M (fun _ s' _ => (Pd.prow E te v0 ys).p s' v0) s0) .ret a s.w := by
  have h := hL.get c hc
  refine ⟨hL.defers, .tuple #[], ?_, .tuple #[], s, rfl, rfl, hL.ent, ?_⟩
  · simp [results, hr]
  · have e := h.1; rw [e] at h; exact h
end

/-- A conversion of numbers. -/
theorem t_cvt {P : Program} {ops : Array Oper} {o : Oper} {L : Lst} {k k' : IntKind} {x : Int} {y : Operand} {t u : TypeId} (hy : Opn L y (Pd.rep (En.int k) x)) (ht : P.underlying t = some (.int k)) (hu : P.underlying u = some (.int k')) (ho : o.op = .convert t u y) (hg : o.guard = none) :
    T P ops o L (Pd.rep (En.int k') (IntKind.wrap k' x)) :=
  T.pure hg fun M n s0 ac s hL => by
    obtain ⟨h1, h2⟩ := rep_int.1 (hy M n s0 ac s hL)
    refine ⟨.int k' (k'.wrap x), ?_, rep_int.2 ⟨rfl, by simpa [Lit.wf, InR] using wf_wrap k' x⟩⟩
    unfold execOp; rw [ho]
    have := run_conv (k := k) (k' := k') (x := x) ht hu s.w
    simp only [h1, Sem.run_bind, this, Result.andThen_ok, Sem.run_pure]

/-- The less, the greater one. -/
theorem t_min {P : Program} {ops : Array Oper} {o : Oper} {L : Lst} {k : IntKind} {x y : Int} {u v : Operand} {ats : Array TypeId} (hx : Opn L u (Pd.rep (En.int k) x)) (hy : Opn L v (Pd.rep (En.int k) y)) (ho : o.op = .call { callee := .builtin .min, args := #[u, v], argTypes := ats }) (hg : o.guard = none) :
    T P ops o L (Pd.rep (En.int k) (min x y)) :=
  T.pure hg fun M n s0 ac s hL => by
    obtain ⟨h1, h2⟩ := rep_int.1 (hx M n s0 ac s hL)
    obtain ⟨h3, h4⟩ := rep_int.1 (hy M n s0 ac s hL)
    refine ⟨.int k (min x y), ?_, rep_int.2 ⟨rfl, by unfold InR at *; omega⟩⟩
    unfold execOp; rw [ho]
    simp only [resolve, invoke, builtin, Builtin.min_, Sem.run_bind, Sem.run_pure, Result.andThen_ok]
    simp [h1, h3, Builtin.min2]
    by_cases h : x ≤ y
    · simp [Int.min_eq_left h, Int.not_lt.2 h]
    · have h' : y ≤ x := by omega
      simp [Int.min_eq_right h', Int.not_le.1 h]
theorem t_max {P : Program} {ops : Array Oper} {o : Oper} {L : Lst} {k : IntKind} {x y : Int} {u v : Operand} {ats : Array TypeId} (hx : Opn L u (Pd.rep (En.int k) x)) (hy : Opn L v (Pd.rep (En.int k) y)) (ho : o.op = .call { callee := .builtin .max, args := #[u, v], argTypes := ats }) (hg : o.guard = none) :
    T P ops o L (Pd.rep (En.int k) (max x y)) :=
  T.pure hg fun M n s0 ac s hL => by
    obtain ⟨h1, h2⟩ := rep_int.1 (hx M n s0 ac s hL)
    obtain ⟨h3, h4⟩ := rep_int.1 (hy M n s0 ac s hL)
    refine ⟨.int k (max x y), ?_, rep_int.2 ⟨rfl, by unfold InR at *; omega⟩⟩
    unfold execOp; rw [ho]
    simp only [resolve, invoke, builtin, Builtin.max_, Sem.run_bind, Sem.run_pure, Result.andThen_ok]
    simp [h1, h3, Builtin.max2]
    by_cases h : x ≤ y
    · simp [Int.max_eq_right h]; omega
    · have h' : y ≤ x := by omega
      simp [Int.max_eq_left h']; omega

/-! ### function values -/
/-- Function values that rely on what nobody writes any more: called at any later time with what q lists, where q is in F, they answer so. -/
def En.fun (P : Program) {β : Type} (qs : β → List Pd) (R : β → St → St → Value → Prop) : En (β → Prop) where
  sz := 1
  agg := false
  R := fun w S cs F => (cs = [.nilFunc] ∧ ∀ q, ¬ F q) ∨ ∃ (f : FuncId) (first cap : Array Value), cs = [.func (.func f) first cap] ∧ (∀ (args : Array Value) (w : World), (callFunc f args).run P w = .ok (.enter f args) w) ∧
    ∀ s : St, Gl s → (∀ b, S b → foot s b) → Same S w s.w → ∀ q, F q → ∀ vs, Vals s (qs q) vs → Calls P f (first ++ vs.toArray ++ cap) s.w fun e w' => ∃ (v : Value) (s' : St), e = .returned v ∧ s'.w = w' ∧ Ex s s' ∧ R q s s' v
  sc := fun _ => rfl
  pos := Nat.one_pos
  len := by rintro _ _ _ _ (⟨rfl, _⟩ | ⟨_, _, _, rfl, _⟩) <;> rfl
  one := by rintro _ _ _ _ (⟨rfl, _⟩ | ⟨_, _, _, rfl, _⟩) u hu <;> (simp at hu; subst hu; rfl)
  mono := by
    rintro w S S' cs F h (h0 | ⟨f, first, cap, hc, h1, h2⟩)
    · exact .inl h0
    · exact .inr ⟨f, first, cap, hc, h1, fun s hg ha hb => h2 s hg (fun b hS => ha b (h b hS)) fun b hS => hb b (h b hS)⟩
  move := by
    rintro w w' S cs F h (h0 | ⟨f, first, cap, hc, h1, h2⟩)
    · exact .inl h0
    · exact .inr ⟨f, first, cap, hc, h1, fun s hg ha hb => h2 s hg ha fun b hS => (hb b hS).trans (h b hS)⟩

/-- What stays known while memory that nobody writes stays. -/
def Pd.Enc (q : Pd) : Prop := ∀ s s' v, (∀ b, foot s b → foot s' b) → Same (foot s) s.w s'.w → q.p s v → q.p s' v
theorem enc_rep {α : Type} {E : En α} {x : α} : (Pd.rep E x).Enc := fun s s' v hf hs ⟨cs, hv, hR⟩ => ⟨cs, hv, E.mono hf (E.move hs hR)⟩
theorem enc_ptr {α : Type} {E : En α} {x : α} : (Pd.ptr E x).Enc := fun s s' v hf hs ⟨b, o, cs, hv, hb, hc, hR⟩ => ⟨b, o, cs, hv, hf b hb, hc.same (hs b hb), E.mono hf (E.move hs hR)⟩
theorem vals_enc {s s' : St} (hf : ∀ b, foot s b → foot s' b) (hs : Same (foot s) s.w s'.w) : ∀ {qs : List Pd} {vs : List Value}, (∀ q ∈ qs, q.Enc) → Vals s qs vs → Vals s' qs vs
  | [], [], _, h => h
  | [], _ :: _, _, h => h.elim
  | _ :: _, [], _, h => h.elim
  | q :: qs, v :: vs, ho, h => ⟨ho q (by simp) s s' v hf hs h.1, vals_enc hf hs (fun q' hq' => ho q' (by simp [hq'])) h.2⟩
theorem vals_app {s : St} : ∀ {qs qs' : List Pd} {vs vs' : List Value}, Vals s qs vs → Vals s qs' vs' → Vals s (qs ++ qs') (vs ++ vs')
  | [], _, [], _, _, h => h
  | [], _, _ :: _, _, h, _ => h.elim
  | _ :: _, _, [], _, h, _ => h.elim
  | _ :: _, _, _ :: _, _, h, k => ⟨h.1, vals_app h.2 k⟩

section
variable {P : Program} {ops : Array Oper} {o : Oper} {L : Lst} {β : Type} {qs : β → List Pd} {R : β → St → St → Value → Prop} {F : β → Prop}

/-- A function of the program, as a value. -/
theorem o_fun {f : FuncId} (hc : ∀ (args : Array Value) (w : World), (callFunc f args).run P w = .ok (.enter f args) w) (h : ∀ q, F q → Fn P f (qs q) (R q)) : Opn L (.func f) (Pd.rep (En.fun P qs R) F) :=
  fun M n s0 a s hL => ⟨[.func (.func f) #[] #[]], rfl, .inr ⟨f, #[], #[], rfl, hc, fun s1 hgl _ _ q hq vs hv => by simpa using (h q hq).run s1 vs hgl hv⟩⟩

/-- A function literal that captures. -/
theorem t_mkfun {f : FuncId} {cs : List Operand} {qc : List Pd} (hx : Opns L cs qc) (hc : ∀ (args : Array Value) (w : World), (callFunc f args).run P w = .ok (.enter f args) w)
    (henc : ∀ q ∈ qc, q.Enc) (h : ∀ q, F q → Fn P f (qs q ++ qc) (R q)) (ho : o.op = .makeFunc (.func f) #[] cs.toArray) (hg : o.guard = none) : T P ops o L (Pd.rep (En.fun P qs R) F) :=
  T.pure hg fun M n s0 a s hL => by
    refine ⟨.func (.func f) #[] (cs.map a.eval).toArray, ?_, [.func (.func f) #[] (cs.map a.eval).toArray], rfl, .inr ⟨f, #[], (cs.map a.eval).toArray, rfl, hc, fun s1 hgl hf hs q hq vs hv => ?_⟩⟩
    · unfold execOp
      rw [ho]
      simp [Instr.makeFunc]
    · have := (h q hq).run s1 (vs ++ cs.map a.eval) hgl (vals_app hv (vals_enc hf hs henc (hx.vals hL)))
      simpa using this

/-- A call of a function value. -/
theorem t_callf {t : Nat} {xs : List Operand} {q : β} {q' : Pd} {ats : Array TypeId} (hf : Opn L (.tmp t) (Pd.rep (En.fun P qs R) F)) (hq : F q) (hx : Opns L xs (qs q)) (hR : ∀ s s' v, R q s s' v → q'.p s' v)
    (ho : o.op = .call { callee := .value (.tmp t), args := xs.toArray, argTypes := ats }) (hg : o.guard = none) : T P ops o L q' := fun M n s0 a s hL Q k hk => by
  simp only [Region.wanted, hg, if_true]
  obtain ⟨cs, hv, h⟩ := hf M n s0 a s hL
  rcases h with ⟨_, h0⟩ | ⟨f, first, cap, hcs, hc, hr⟩
  · exact (h0 q hq).elim
  subst hcs
  have hv : a.eval (.tmp t) = .func (.func f) first cap := hv
  have e : (execOp a.eval o).run P s.w = .ok (.enter f (first ++ (xs.map a.eval).toArray ++ cap)) s.w := by
    have e1 : execOp a.eval o = (do let d ← Deferred.ofValue (a.eval (.tmp t)) (xs.toArray.map a.eval); invoke d.target d.args) := by
      unfold execOp; rw [ho]; rfl
    rw [e1, hv]
    have := hc (first ++ (xs.map a.eval).toArray ++ cap) s.w
    simpa [Deferred.ofValue, invoke] using this
  unfold Oper.wp
  rw [e, Oper.upon_enter]
  refine (hr s hL.gls (fun _ h => h) (fun _ _ => rfl) q hq _ (hx.vals hL)).mono fun e w' ⟨v, s', he, hw, hx, hq⟩ => ?_
  subst he; subst hw
  exact hk v s' ⟨hx, hR _ _ _ hq⟩
end

theorem enc_nil : ∀ q ∈ ([] : List Pd), q.Enc := fun q h => by cases h
theorem enc_cons {q : Pd} {qs : List Pd} (h : q.Enc) (k : ∀ q ∈ qs, q.Enc) : ∀ q' ∈ q :: qs, q'.Enc := fun q' hq => (List.mem_cons.1 hq).elim (fun e => e ▸ h) (k q')
theorem call_of {P : Program} {f : FuncId} {fn : Func} {c : Code} (hf : P.funcs[f]? = some fn) (hb : fn.body = some c) (hm : (fn.name == "runtime.NumGoroutine") = false) : ∀ (args : Array Value) (w : World), (callFunc f args).run P w = .ok (.enter f args) w := fun args w => by
  have hm' : ¬ fn.name = "runtime.NumGoroutine" := by simpa using hm
  simp [callFunc, hf, hm', hb]
theorem o_q {L : Lst} {x : Operand} (q : Pd) (h : Opn L x q) : Opn L x q := h
theorem t_q {P : Program} {ops : Array Oper} {o : Oper} {L : Lst} (q : Pd) (h : T P ops o L q) : T P ops o L q := h
theorem Has.plt {α : Type} {E : En α} {te : TypeId} {v0 : Value} {xs : List α} {M : Nat → Prop} {n : Nat} {s0 : St} {a : Act} {s : St} {L : Lst} (h : Has M n s0 a s L) (t : Nat) (hl : lk L t = some (Pd.prow E te v0 xs)) : ∀ k, v0.ownBlock = some k → k < s.w.heap.size := fun k hk => (row_lt (h.get t hl).2 k hk).2

/-- A variable of its own is given away: from now on nobody writes it. -/
theorem Has.freezeb {α : Type} {E : En α} {g : Nat} {x : α} {M : Nat → Prop} {n : Nat} {s0 : St} {a : Act} {s : St} {L L' : Lst} (h : Has M n s0 a s L) (t : Nat) (hl : lk L t = some (Pd.box E s0.w.heap.size g x))
    (hk : Kp (fun b => some g = some b) L L') : ∃ s', s'.w = s.w ∧ Has M n s0 a s' ((t, Pd.ptr E x) :: L') := by
  obtain ⟨hv, hN, hX, cs, te, hg, hR⟩ := h.get t hl
  refine ⟨⟨s.w, fun b => s.X b ∧ ¬ some g = some b, fun b hb => s.lt b hb.1⟩, rfl, ?_⟩
  have e : Ef (fun b => some g = some b) s ⟨s.w, fun b => s.X b ∧ ¬ some g = some b, fun b hb => s.lt b hb.1⟩ :=
    ⟨⟨rfl, rfl, rfl, Nat.le_refl _, fun _ _ _ => rfl, fun b hb => by cases hb; exact hX, fun b hb => .inl hb.1⟩, fun b hb hn => ⟨hb, hn⟩⟩
  refine (h.ef e (fun b hb => by cases hb; exact hN) hk).cons t ⟨g, 0, cs, hv, ⟨(Array.getElem?_eq_some_iff.1 hg).1, fun hx => hx.2 rfl⟩, cellsAt_block hg, ?_⟩
  exact E.mono (fun b hb => ⟨hb.1, fun hx => hb.2 hx.1⟩) hR
end Go.Proofs.YtdfnbogkniikbaaDoor.V
