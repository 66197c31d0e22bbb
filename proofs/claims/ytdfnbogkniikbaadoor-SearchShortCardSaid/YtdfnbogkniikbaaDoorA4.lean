/-
  Calls and contracts; where a function begins and ends; tests and loops; variables that are written. No program is named here.
-/
import Derived.Test.YtdfnbogkniikbaaDoorA3
namespace Go.Proofs.YtdfnbogkniikbaaDoor.V
open Go
set_option linter.unusedVariables false

def Vals (s : St) : List Pd → List Value → Prop
  | [], [] => True
  | q :: qs, v :: vs => q.p s v ∧ Vals s qs vs
  | _, _ => False

/-- A CONTRACT: called with values of which qs are known, the function returns one of which R is known; nothing that was there has turned. -/
structure Fn (P : Program) (f : FuncId) (qs : List Pd) (R : St → St → Value → Prop) : Prop where
  call : ∀ (args : Array Value) (w : World), (callFunc f args).run P w = .ok (.enter f args) w
  run : ∀ s vs, Gl s → Vals s qs vs → Calls P f vs.toArray s.w fun e w' => ∃ v s', e = .returned v ∧ s'.w = w' ∧ Ex s s' ∧ R s s' v

def Rq (q : Pd) : St → St → Value → Prop := fun _ s' v => q.p s' v
/-- A row of its own is handed back. -/
def Ro {α : Type} (E : En α) (te : TypeId) (xs : List α) : St → St → Value → Prop := fun s s' v => ∃ og, (Pd.row E s.w.heap.size te og xs).p s' v

inductive Opns (L : Lst) : List Operand → List Pd → Prop
  | nil : Opns L [] []
  | cons {x : Operand} {q : Pd} {xs : List Operand} {qs : List Pd} : Opn L x q → Opns L xs qs → Opns L (x :: xs) (q :: qs)

theorem Opns.vals {L : Lst} {xs : List Operand} {qs : List Pd} (h : Opns L xs qs) {M : Nat → Prop} {n : Nat} {s0 : St} {a : Act} {s : St} (hL : Has M n s0 a s L) : Vals s qs (xs.map a.eval) := by
  induction h with
  | nil => trivial
  | cons hx _ ih => exact ⟨hx M n s0 a s hL, ih⟩

theorem row_weak {α : Type} {E : En α} {N N' : Nat} {te : TypeId} {og : Option Nat} {xs : List α} {s : St} {v : Value} (hN : N' ≤ N) (h : (Pd.row E N te og xs).p s v) : (Pd.row E N' te og xs).p s v := by
  obtain ⟨h1, h2, h3, css, h4, h5⟩ := h
  refine ⟨h1, h2, h3, css, h4, h5.1, h5.2.imp id ?_⟩
  rintro ⟨g, cap, cur, e, hg, r⟩
  exact ⟨g, cap, cur, e, Nat.le_trans hN hg, r⟩

/-- What is handed back, from now on only read. -/
theorem Fn.frz {P : Program} {f : FuncId} {qs : List Pd} {α : Type} {E : En α} {te : TypeId} {xs : List α} (h : Fn P f qs (Ro E te xs)) : Fn P f qs (Rq (Pd.rep (En.slice E) xs)) :=
  ⟨h.call, fun s vs hg hv => (h.run s vs hg hv).mono fun e w' ⟨v, s', he, hw, hx, og, ho⟩ => by
    have hlt := row_lt ho
    refine ⟨v, ⟨s'.w, fun b => s'.X b ∧ og ≠ some b, fun b hb => s'.lt b hb.1⟩, he, hw, ?_, rep_slice.2 (own_slV ho rfl fun b hb => hb)⟩
    exact ⟨⟨hx.mv.os, hx.mv.tape, hx.mv.output, hx.mv.size, hx.mv.blk, fun _ h => h.elim, fun b hb => hx.mv.xx b hb.1⟩, fun b hb => ⟨hx.keep b hb, fun e => by have := (hlt b e).1; have := s.lt b hb; omega⟩⟩⟩

section
variable {P : Program} {ops : Array Oper} {o : Oper} {L : Lst}

theorem run_callop {f : FuncId} {xs : List Operand} {ats : Array TypeId} {qs R} (hf : Fn P f qs R) (a : Act) (w : World) (ho : o.op = .call { callee := .value (.func f), args := xs.toArray, argTypes := ats }) :
    (execOp a.eval o).run P w = .ok (.enter f (xs.map a.eval).toArray) w := by
  have h := hf.call (xs.map a.eval).toArray w
  have e : execOp a.eval o = callFunc f (#[] ++ (xs.toArray).map a.eval ++ #[]) := by unfold execOp; rw [ho]; rfl
  rw [e]
  simpa using h

theorem t_call {f : FuncId} {xs : List Operand} {qs : List Pd} {q : Pd} {ats : Array TypeId} (hf : Fn P f qs (Rq q)) (hx : Opns L xs qs) (ho : o.op = .call { callee := .value (.func f), args := xs.toArray, argTypes := ats }) (hg : o.guard = none) :
    T P ops o L q := fun M n s0 a s hL Q k hk => by
  simp only [Region.wanted, hg, if_true]
  unfold Oper.wp
  rw [run_callop hf a s.w ho, Oper.upon_enter]
  refine (hf.run s _ hL.gls (hx.vals hL)).mono fun e w' ⟨v, s', he, hw, hx, hq⟩ => ?_
  subst he; subst hw
  exact hk v s' ⟨hx, hq⟩

/-- A call that hands back a row of its own. -/
theorem st_callo {Q : Exit → Act → World → Prop} {rest : List Oper} {M : Nat → Prop} {n : Nat} {s0 : St} {a : Act} {s : St} {α : Type} {E : En α} {te : TypeId} {zs : List α} {f : FuncId} {xs : List Operand} {qs : List Pd} {ats : Array TypeId} (d : Nat)
    (hL : Has M n s0 a s L) (hf : Fn P f qs (Ro E te zs)) (hx : Opns L xs qs) (ho : o.op = .call { callee := .value (.func f), args := xs.toArray, argTypes := ats }) (hg : o.guard = none) (hd : o.dst = some d) (hn : Nat.blt d n = true)
    (k : ∀ a' s' og, (∀ b, og = some b → s.w.heap.size ≤ b) → Has M n s0 a' s' ((d, Pd.row E s0.w.heap.size te og zs) :: L) → wpList P ops Q rest a' s'.w) : wpList P ops Q (o :: rest) a s.w := by
  refine wpList_plain hg fun K hK => ?_
  unfold Oper.wp
  rw [run_callop hf a s.w ho, Oper.upon_enter]
  refine (hf.run s _ hL.gls (hx.vals hL)).mono fun e w' ⟨v, s', he, hw, hx, og, hq⟩ => ?_
  subst he; subst hw
  refine hK _ _ ?_
  rw [hd]
  exact k _ s' og (fun b hb => (row_lt hq b hb).1) (hL.put hx hn (row_weak hL.ent.mv.size hq))
end

/-! ### where a function begins and ends -/
def num : Nat → List Pd → Lst
  | _, [] => []
  | k, q :: qs => (k, q) :: num (k + 1) qs

def Pst (M : Nat → Prop) (R : St → St → Value → Prop) (s0 : St) : Ending → World → Prop := fun e w' => ∃ v s', e = .returned v ∧ s'.w = w' ∧ Fr M s0 s' ∧ R s0 s' v

theorem num_vals {s : St} : ∀ {qs : List Pd} {vs : List Value} (h : Vals s qs vs) (k t : Nat) (q : Pd), lk (num k qs) t = some q → ∃ v, k ≤ t ∧ vs[t - k]? = some v ∧ q.p s v
  | [], _, _, k, t, q, hl => by cases hl
  | q' :: qs, [], h, _, _, _, _ => h.elim
  | q' :: qs, v :: vs, h, k, t, q, hl => by
    unfold num lk at hl
    by_cases ht : k = t
    · subst ht; simp at hl; subst hl; exact ⟨v, Nat.le_refl _, by simp, h.1⟩
    · rw [beq_no ht] at hl
      obtain ⟨u, h1, h2, h3⟩ := num_vals h.2 (k + 1) t q hl
      refine ⟨u, by omega, ?_, h3⟩
      rw [show t - k = (t - (k + 1)) + 1 by omega]; simpa using h2

theorem vals_len {s : St} : ∀ {qs : List Pd} {vs : List Value}, Vals s qs vs → vs.length = qs.length
  | [], [], _ => rfl
  | [], _ :: _, h => h.elim
  | _ :: _, [], h => h.elim
  | _ :: _, _ :: _, h => by simp [vals_len h.2]

/-- A CONTRACT of a function that may change the blocks of M, which its caller owns. -/
structure Fm (P : Program) (f : FuncId) (M : Nat → Prop) (qs : List Pd) (R : St → St → Value → Prop) : Prop where
  call : ∀ (args : Array Value) (w : World), (callFunc f args).run P w = .ok (.enter f args) w
  run : ∀ s vs, Gl s → (∀ b, M b → s.X b) → Vals s qs vs → Calls P f vs.toArray s.w fun e w' => ∃ v s', e = .returned v ∧ s'.w = w' ∧ Fr M s s' ∧ R s s' v

theorem fm_of {P : Program} {f : FuncId} {fn : Func} {c : Code} {n : Nat} {M : Nat → Prop} {qs : List Pd} {R : St → St → Value → Prop} (hf : P.funcs[f]? = some fn) (hb : fn.body = some c) (hn : fn.ntmps = n) (hm : (fn.name == "runtime.NumGoroutine") = false) (hq : qs.length ≤ n)
    (h : ∀ s0 a, Has M n s0 a s0 (num 0 qs) → c.wp P (bodyPost P fn (Pst M R s0)) a s0.w) : Fm P f M qs R where
  call := fun args w => by
    have hm' : ¬ fn.name = "runtime.NumGoroutine" := by simpa using hm
    simp [callFunc, hf, hm', hb]
  run := fun s vs hg hM hv => by
    refine calls_of_wp hf hb ?_
    have hl := vals_len hv
    refine h s _ ⟨?_, rfl, Fr.refl hM, hg, fun t q ht => ?_⟩
    · simp [hn, hl]; omega
    · obtain ⟨v, _, h2, h3⟩ := num_vals hv 0 t q ht
      have : (({ tmps := vs.toArray ++ Array.replicate (fn.ntmps - vs.toArray.size) undef, defers := [] } : Act).eval (.tmp t)) = v := by
        simp only [Nat.sub_zero] at h2
        have hlt : t < vs.length := (List.getElem?_eq_some_iff.1 h2).1
        simp only [Act.eval]
        rw [Array.getD_eq_getD_getElem?, Array.getElem?_append_left (by simpa using hlt)]
        simp [h2]
      rw [this]; exact h3

theorem Fm.fn {P : Program} {f : FuncId} {qs : List Pd} {R : St → St → Value → Prop} (h : Fm P f N0 qs R) : Fn P f qs R :=
  ⟨h.call, fun s vs hg hv => (h.run s vs hg (fun _ h => h.elim) hv).mono fun e w' ⟨v, s', he, hw, hx, hr⟩ => ⟨v, s', he, hw, hx.ex, hr⟩⟩

theorem fn_of {P : Program} {f : FuncId} {fn : Func} {c : Code} {n : Nat} {qs : List Pd} {R : St → St → Value → Prop} (hf : P.funcs[f]? = some fn) (hb : fn.body = some c) (hn : fn.ntmps = n) (hm : (fn.name == "runtime.NumGoroutine") = false) (hq : qs.length ≤ n)
    (h : ∀ s0 a, Has N0 n s0 a s0 (num 0 qs) → c.wp P (bodyPost P fn (Pst N0 R s0)) a s0.w) : Fn P f qs R := (fm_of hf hb hn hm hq h).fn

section
variable {P : Program} {fn : Func} {M : Nat → Prop} {n : Nat} {s0 : St} {a : Act} {s : St} {L : Lst} {R : St → St → Value → Prop}
theorem ret1 {t : Nat} (hr : fn.results = #[.tmp t]) (hL : Has M n s0 a s L) (hR : R s0 s (a.eval (.tmp t))) : bodyPost P fn (Pst M R s0) .ret a s.w :=
  ⟨hL.defers, _, results_tmp hr a.tmps P s.w, _, s, rfl, rfl, hL.ent, hR⟩
theorem retq {t : Nat} {q : Pd} (hr : fn.results = #[.tmp t]) (hL : Has M n s0 a s L) (hl : lk L t = some q) : bodyPost P fn (Pst M (Rq q) s0) .ret a s.w := ret1 hr hL (hL.get t hl)
theorem reto {α : Type} {E : En α} {te : TypeId} {og : Option Nat} {xs : List α} {t : Nat} (hr : fn.results = #[.tmp t]) (hL : Has M n s0 a s L) (hl : lk L t = some (Pd.row E s0.w.heap.size te og xs)) : bodyPost P fn (Pst M (Ro E te xs) s0) .ret a s.w :=
  ret1 hr hL ⟨og, hL.get t hl⟩

/-- Two results. -/
def Rq2 (q r : Pd) : St → St → Value → Prop := fun _ s' v => ∃ x y, v = .tuple #[x, y] ∧ q.p s' x ∧ r.p s' y
theorem ret2 {t u : Nat} {q r : Pd} (hr : fn.results = #[.tmp t, .tmp u]) (hL : Has M n s0 a s L) (hl : lk L t = some q) (hm : lk L u = some r) : bodyPost P fn (Pst M (Rq2 q r) s0) .ret a s.w :=
  ⟨hL.defers, _, results_tmp2 hr a.tmps P s.w, _, s, rfl, rfl, hL.ent, _, _, rfl, hL.get t hl, hL.get u hm⟩

/-- A result that lies in a variable. -/
theorem results_cell {a0 t0 : Nat} (hr : fn.results = #[.cell a0 t0]) {α : Type} {E : En α} {x : α} (hE : Ty P t0 E) {b o : Nat} {cs : List Value} {S : Nat → Prop} {w w' : World} {tmps : Array Value} (hv : tmps.getD a0 undef = .pointer (some ⟨b, o, none⟩)) (hR : E.R w' S cs x) (hc : CellsAt w b o cs) :
    (results fn tmps).run P w = .ok (E.val cs) w := by
  have := run_loadVarE hE hR hc
  rw [Array.getD_eq_getD_getElem?] at hv
  simp [results, hr, hv, asAddr, this]
theorem retb {a0 t0 : Nat} {α : Type} {E : En α} {x : α} {N g : Nat} (hr : fn.results = #[.cell a0 t0]) (hE : Ty P t0 E) (hL : Has M n s0 a s L) (hl : lk L a0 = some (Pd.box E N g x)) : bodyPost P fn (Pst M (Rq (Pd.rep E x)) s0) .ret a s.w := by
  obtain ⟨hv, _, _, cs, t', hc, hR⟩ := hL.get a0 hl
  exact ⟨hL.defers, _, results_cell hr hE hv hR (cellsAt_block hc), _, s, rfl, rfl, hL.ent, cs, rfl, hR⟩
end

/-! ### tests and loops -/
section
variable {P : Program} {Q : Exit → Act → World → Prop} {M : Nat → Prop} {n : Nat} {s0 : St} {a : Act} {s : St} {L : Lst}
theorem cnd {t : Nat} {b : Bool} {x y : Code} (hL : Has M n s0 a s L) (hl : lk L t = some (Pd.rep En.bool b)) (h1 : b = true → x.wp P Q a s.w) (h2 : b = false → y.wp P Q a s.w) : (Code.cond (.tmp t) x y).wp P Q a s.w :=
  wp_cond_split (rep_bool.1 (hL.get t hl)) h1 h2

theorem lpg {c : Code} (I : Nat → Act → St → Prop) (k0 : Nat) (h0 : I k0 a s)
    (round : ∀ k a s, I k a s → ∀ K : Act → World → Prop, (∀ k' a' s', k' < k → I k' a' s' → K a' s'.w) → c.wp P (Exit.then K Q) a s.w) : (Code.loop c).wp P Q a s.w := by
  refine wp_loop_ghost (fun k a w => ∃ s, s.w = w ∧ I k a s) k0 ⟨s, rfl, h0⟩ ?_
  rintro k a w ⟨s, rfl, hI⟩
  exact round k a s hI _ fun k' a' s' hk hI' => ⟨k', hk, s', rfl, hI'⟩
end
end Go.Proofs.YtdfnbogkniikbaaDoor.V
