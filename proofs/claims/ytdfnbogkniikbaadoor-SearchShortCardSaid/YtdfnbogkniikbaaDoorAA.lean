/-
  Regions that draw their order, where new memory is made at no fixed time: new variables, rows, copies. No program is named here.
-/
import Derived.Test.YtdfnbogkniikbaaDoorA9
namespace Go.Proofs.YtdfnbogkniikbaaDoor.V
open Go
set_option linter.unusedVariables false

theorem no_own {α : Type} {E : En α} {N : Nat} {te : TypeId} {xs : List α} {T : Nat → Prop} : ∀ b, (Pd.row E N te none xs).own b → ¬ T b := fun b h => absurd (show none = some b from h) (by simp)
/-- At least so many blocks are there. -/
def Pd.ge (K : Nat) : Pd := ⟨fun s _ => K ≤ s.w.heap.size, fun _ => False, fun h _ hp => Nat.le_trans hp h.size⟩
/-- A variable of its own, in a block from K on. -/
def Pd.ebox {α : Type} (E : En α) (N K : Nat) (x : α) : Pd :=
  ⟨fun s v => ∃ g, K ≤ g ∧ (Pd.box E N g x).p s v, fun b => K ≤ b, fun h hb ⟨g, hg, hp⟩ => ⟨g, hg, (Pd.box E N g x).mv h (fun b hbg => by cases hbg; exact hb _ hg) hp⟩⟩
/-- A row of its own, nil or in a block from K on. -/
def Pd.erow {α : Type} (E : En α) (N K : Nat) (te : TypeId) (xs : List α) : Pd :=
  ⟨fun s v => ∃ og, (∀ b, og = some b → K ≤ b) ∧ (Pd.row E N te og xs).p s v, fun b => K ≤ b, fun h hb ⟨og, hg, hp⟩ => ⟨og, hg, (Pd.row E N te og xs).mv h (fun b hbg => hb _ (hg b hbg)) hp⟩⟩
/-- An empty row in a block from K on, without room. -/
def Pd.erow0 (N K : Nat) (te : TypeId) : Pd :=
  ⟨fun s v => ∃ g, K ≤ g ∧ N ≤ g ∧ v = .slice (some ⟨g, 0, none⟩) 0 0 ∧ s.X g ∧ s.w.heap[g]? = some (.cells #[] te (0, 0)), fun b => K ≤ b,
    fun {T s s' v} h hb ⟨g, h1, h2, h3, h4, h5⟩ => ⟨g, h1, h2, h3, (hb g h1).2 h4, by rw [h.blk g (Array.getElem?_eq_some_iff.1 h5).1 (hb g h1).1]; exact h5⟩⟩

section
variable {M : Nat → Prop} {n : Nat} {s0 : St} {a : Act} {s : St} {L : Lst}
theorem Has.mark (h : Has M n s0 a s L) (t : Nat) : ∃ K, K = s.w.heap.size ∧ s0.w.heap.size ≤ K ∧ Has M n s0 a s ((t, Pd.ge K) :: L) := ⟨_, rfl, h.ent.mv.size, h.cons t (Nat.le_refl _)⟩
theorem Has.openb {α : Type} {E : En α} {N K : Nat} {x : α} (h : Has M n s0 a s L) (t : Nat) (hl : lk L t = some (Pd.ebox E N K x)) : ∃ g, K ≤ g ∧ Has M n s0 a s ((t, Pd.box E N g x) :: L) := by
  obtain ⟨g, hg, hp⟩ := h.get t hl
  exact ⟨g, hg, h.cons t hp⟩
theorem Has.openr {α : Type} {E : En α} {N K : Nat} {te : TypeId} {xs : List α} (h : Has M n s0 a s L) (t : Nat) (hl : lk L t = some (Pd.erow E N K te xs)) : ∃ og, (∀ b, og = some b → K ≤ b) ∧ Has M n s0 a s ((t, Pd.row E N te og xs) :: L) := by
  obtain ⟨og, hg, hp⟩ := h.get t hl
  exact ⟨og, hg, h.cons t hp⟩
end

section
variable {P : Program} {ops : Array Oper} {o : Oper} {L : Lst}

theorem t_allocx {α : Type} (E : En α) {z : α} {t : TypeId} {N K m : Nat} (hk : lk L m = some (Pd.ge K)) (hN : N ≤ K) (hz : TyZ P t E z) (ho : o.op = .alloc t) (hg : o.guard = none) : T P ops o L (Pd.ebox E N K z) :=
  T.mk hg fun M n s0 a s hL => by
    obtain ⟨i, v, cs, h1, h2, h3, h4⟩ := hz.zero
    have hK : K ≤ s.w.heap.size := hL.get m hk
    refine ⟨.pointer (some ⟨s.w.heap.size, 0, none⟩), s.pushX (.cells cs.toArray t), ?_, Ex.pushX s _, s.w.heap.size, hK, rfl, Nat.le_trans hN hK, .inr rfl, cs, t, heap_alloc_new s.w _, h4 _ _⟩
    unfold execOp; rw [ho]
    simp [Instr.alloc, zeroValue, typeInfo, h1, h2, newVar, newRow, h3, St.pushX]

theorem t_boxx {α : Type} {E : En α} {x : α} {y : Operand} {t : TypeId} {N K m : Nat} (hk : lk L m = some (Pd.ge K)) (hN : N ≤ K) (hy : Opn L y (Pd.rep E x)) (ho : o.op = .box t y) (hg : o.guard = none) : T P ops o L (Pd.ebox E N K x) :=
  T.mk hg fun M n s0 a s hL => by
    obtain ⟨cs, hv, hR⟩ := hy M n s0 a s hL
    have hK : K ≤ s.w.heap.size := hL.get m hk
    refine ⟨.pointer (some ⟨s.w.heap.size, 0, none⟩), s.pushX (.cells cs.toArray t), ?_, Ex.pushX s _, s.w.heap.size, hK, rfl, Nat.le_trans hN hK, .inr rfl, cs, t, heap_alloc_new s.w _, E.go (Ex.pushX s _).mv hR⟩
    unfold execOp; rw [ho]
    simp only [hv, Instr.box, newVar, newRow, En.val_cells hR, Sem.run_bind, run_newObj, Result.andThen_ok, Sem.run_pure]
    rfl

theorem t_newx {α : Type} (E : En α) {te t : TypeId} {N K m : Nat} (hk : lk L m = some (Pd.ge K)) (hN : N ≤ K) (ht : P.underlying t = some (.slice te)) (hE : Ty P te E) (ho : o.op = .buildSlice t 0 #[]) (hg : o.guard = none) : T P ops o L (Pd.erow0 N K te) :=
  T.mk hg fun M n s0 a s hL => by
    have hK : K ≤ s.w.heap.size := hL.get m hk
    have hr : (execOp a.eval o).run P s.w = .ok (.value (.slice (some ⟨s.w.heap.size, 0, none⟩) 0 0)) (s.w.alloc (.cells ((Array.range (0 * E.sz)).map ((#[] : Array Value)[· % 0]!)) te)) := by
      unfold execOp; rw [ho]
      simp only [Instr.buildSlice, Sem.run_bind, run_underlying ht, Result.andThen_ok, run_sizeOfE hE]
      rw [if_neg (by omega), if_pos (by omega)]
      simp [Instr.fill, newRow]
    have hz : (Array.range (0 * E.sz)).map ((#[] : Array Value)[· % 0]!) = #[] := by rw [Nat.zero_mul]; exact Array.eq_empty_of_size_eq_zero (by simp)
    rw [hz] at hr
    exact ⟨_, s.pushX (.cells #[] te), hr, Ex.pushX s _, s.w.heap.size, hK, Nat.le_trans hN hK, rfl, .inr rfl, heap_alloc_new s.w _⟩

theorem t_litx {α : Type} {E : En α} {t te : TypeId} {xs : List Operand} {es : List α} {N K m : Nat} (hk : lk L m = some (Pd.ge K)) (hN : N ≤ K) (hx : OpL E L xs es) (ht : P.underlying t = some (.slice te)) (hE : Ty P te E) {k : Nat} {parts : Array (Nat × Operand)} (hkk : k = xs.length)
    (hp : parts = (xs.zipIdx.map fun (x, i) => (i, x)).toArray) (hs : k * E.sz ≤ 16777216) (ho : o.op = .buildSlice t k parts) (hg : o.guard = none) : T P ops o L (Pd.erow E N K te es) :=
  T.mk hg fun M n s0 a s hL => by
    have hK : K ≤ s.w.heap.size := hL.get m hk
    obtain ⟨hlen, css, hEl, hr⟩ := run_lit hx ht hE hkk hp hs ho hL
    have hk1 : k ≤ k * E.sz := Nat.le_mul_of_pos_right k E.pos
    have hfl : css.flatten.length = es.length * E.sz := by rw [flat_len hEl.lens, hEl.1]
    refine ⟨_, s.pushX (.cells css.flatten.toArray te), hr, Ex.pushX s _, some s.w.heap.size, fun b hb => by cases hb; exact hK, rfl, fun g hg => ?_, ?_, css, ⟨hEl.1, fun i cs x a b => E.go (Ex.pushX s _).mv (hEl.2 i cs x a b)⟩, ?_⟩
    · cases hg; exact .inr rfl
    · simp only [lim]; omega
    · refine ⟨hfl, .inr ⟨s.w.heap.size, es.length, css.flatten.toArray, rfl, Nat.le_trans hN hK, heap_alloc_new s.w _, Nat.le_refl _, ?_, by simpa using hfl, ?_⟩⟩
      · simp only [maxLen]; omega
      · simp; rw [← hfl, List.take_length]

theorem t_callox {α : Type} {E : En α} {te : TypeId} {zs : List α} {f : FuncId} {xs : List Operand} {qs : List Pd} {ats : Array TypeId} {N K m : Nat} (hk : lk L m = some (Pd.ge K)) (hN : N ≤ K) (hf : Fn P f qs (Ro E te zs)) (hx : Opns L xs qs)
    (ho : o.op = .call { callee := .value (.func f), args := xs.toArray, argTypes := ats }) (hg : o.guard = none) : T P ops o L (Pd.erow E N K te zs) := fun M n s0 a s hL Q k hkk => by
  have hK : K ≤ s.w.heap.size := hL.get m hk
  simp only [Region.wanted, hg, if_true]
  unfold Oper.wp
  rw [run_callop hf a s.w ho, Oper.upon_enter]
  refine (hf.run s _ hL.gls (hx.vals hL)).mono fun e w' ⟨v, s', he, hw, hx, og, hq⟩ => ?_
  subst he; subst hw
  exact hkk v s' ⟨hx, og, fun b hb => Nat.le_trans hK (row_lt hq b hb).1, row_weak (Nat.le_trans hN hK) hq⟩

/-- An append to an empty row without room. -/
theorem run_app0 {α : Type} {E : En α} {t te : TypeId} (ht : P.underlying t = some (.slice te)) (hE : Ty P te E) {N g : Nat} {ys : List α} {s : St} {u : Value} (hgb : s.w.heap[g]? = some (.cells #[] te (0, 0))) (hNg : N ≤ g) (hX : s.X g) (hu : SlV E s.w (foot s) u ys)
    (hlen : ys.length ≤ 2147483648) (ty : TypeId) : ∃ v' s' og', (Builtin.append_ #[t, t] ty #[.slice (some ⟨g, 0, none⟩) 0 0, u]).run P s.w = .ok v' s'.w ∧ Ex s s' ∧ (Pd.row E N te og' ys).p s' v' ∧ (∀ b, og' = some b → g = b ∨ s.w.heap.size ≤ b) := by
  have hgl := (Array.getElem?_eq_some_iff.1 hgb).1
  obtain ⟨i, z, hi, hsz, hz, hzs, hby⟩ := hE.info
  have h5 : s.w.ownsRow N te E.sz (.slice (some ⟨g, 0, none⟩) 0 0) 0 [] := ⟨by simp, .inr ⟨g, 0, #[], rfl, hNg, hgb, Nat.le_refl _, Nat.zero_le _, by simp, by simp⟩⟩
  obtain ⟨ad, cap, rfl, hc1, hc2, hc3, hc4⟩ := hu
  by_cases hys : ys = []
  · subst hys
    have hrow : (Pd.row E N te (some g) ([] : List α)).p s (.slice (some ⟨g, 0, none⟩) 0 0) := ⟨rfl, fun b hb => by cases hb; exact hX, Nat.zero_le _, [], ⟨rfl, by simp⟩, h5⟩
    by_cases had : ad = none
    · subst had
      have hcap := hc2 rfl
      subst hcap
      exact ⟨_, s, some g, run_append_owned_none (P := P) (w := s.w) N t ty te i E.sz ht hi _ 0 [] h5, Ex.refl s, hrow, fun b hb => .inl (by cases hb; rfl)⟩
    · obtain ⟨a, rfl⟩ : ∃ a, ad = some a := by cases ad with | none => exact absurd rfl had | some a => exact ⟨a, rfl⟩
      have hrr := run_append_room (P := P) s.w t ty te i ht hi g 0 0 #[] hgb a 0 cap [] (by simp) (by simp) (by simp) (by omega) (by simp)
      have e : Ex s (s.set g []) := by
        refine ⟨⟨rfl, rfl, rfl, by simp [St.set, World.setRow], fun b hb _ => ?_, fun _ h => h.elim, fun b hb => .inl hb⟩, fun b hb => hb⟩
        by_cases hbg : b = g
        · subst hbg
          rw [hgb]; exact setRow_heap s.w b #[] _ te (0, 0) hgb
        · exact setRow_other s.w g b _ hbg
      refine ⟨_, s.set g [], some g, by simpa [St.set] using hrr, e, Pd.ex e hrow, fun b hb => .inl (by cases hb; rfl)⟩
  · obtain ⟨b, off, dss, rfl, hb, hD, hcell⟩ := hc4 hys
    have hpos : 0 < ys.length := List.length_pos_iff.2 hys
    have hdl : dss.flatten.length = ys.length * E.sz := by rw [flat_len hD.lens, hD.1]
    have hone : ∀ u ∈ dss.flatten, u.oneCell' = true := by
      intro u hu
      rw [List.mem_flatten] at hu
      obtain ⟨cs, hcs, hu⟩ := hu
      obtain ⟨j, hj⟩ := List.getElem?_of_mem hcs
      have hlt : j < dss.length := (List.getElem?_eq_some_iff.1 hj).1
      exact E.one (hD.2 j cs (ys[j]'(hD.1 ▸ hlt)) hj (by simp)) u hu
    have hby' : (0 + ys.length) * i.bytes ≤ 140737488355328 := Nat.le_trans (Nat.mul_le_mul (show 0 + ys.length ≤ 2147483648 by omega) hby) (by decide)
    have hnews : ∀ j u, dss.flatten[j]? = some u → s.w.cell? ((⟨b, off, none⟩ : Addr).add j) = some u := fun j u hu => by rw [add_lit]; exact hcell j u hu
    obtain ⟨v', w', hr, ho, hg, hnil⟩ := run_append_own (P := P) s.w N t ty te i z E.sz i.bytes ht hi hz hsz rfl hzs E.pos _ 0 [] h5 ⟨b, off, none⟩ ys.length cap dss.flatten hdl hnews hone (by simp [maxLen]; omega) hby' (Nat.le_trans hNg (Nat.le_of_lt hgl))
    have hrr := run_append_grow (P := P) s.w t ty te i z ht hi hz ⟨g, 0, none⟩ 0 0 [] (by simp) (by simp) ⟨b, off, none⟩ ys.length cap dss.flatten (by rw [hsz]; exact hdl) hnews (by omega) (by omega) (growslice_fits (by omega) hby')
    rw [hrr] at hr
    cases hr
    have e : Ex s ⟨(s.w.drew.alloc (.cells (([] : List Value).toArray ++ dss.flatten.toArray ++ Builtin.zeroCells z.cells (grownCap s.w (0 + ys.length) 0 te - (0 + ys.length))) te)), fun b => s.X b ∨ b = s.w.heap.size, fun b hb => hb.elim (fun h => Nat.lt_of_lt_of_le (s.lt b h) (by simp)) (fun h => by subst h; simp)⟩ :=
      ⟨⟨rfl, rfl, rfl, by simp, fun b hb _ => Go.RowKit.Below.heap_alloc s.w.drew _ b hb, fun _ h => h.elim, fun b hb => hb.imp id (fun h => Nat.le_of_eq h.symm)⟩, fun b hb => .inl hb⟩
    refine ⟨_, _, some s.w.heap.size, hrr, e, ⟨rfl, fun b hb => by cases hb; exact .inr rfl, by simp only [lim]; omega, dss, hD.go e.mv, ?_⟩, fun b hb => .inr (by cases hb; exact Nat.le_refl _)⟩
    simpa using ho

theorem t_app0 {α : Type} {E : En α} {t te : TypeId} {N K : Nat} {x y : Operand} {ys : List α} (hx : Opn L x (Pd.erow0 N K te)) (hy : Opn L y (Pd.rep (En.slice E) ys)) (ht : P.underlying t = some (.slice te)) (hE : Ty P te E) (hlen : ys.length ≤ 2147483648) {m : Nat} (hk : lk L m = some (Pd.ge K))
    (ho : o.op = .call { callee := .builtin .append, args := #[x, y], argTypes := #[t, t] }) (hg : o.guard = none) : T P ops o L (Pd.erow E N K te ys) :=
  T.mk hg fun M n s0 a s hL => by
    have hK : K ≤ s.w.heap.size := hL.get m hk
    obtain ⟨g, h1, h2, h3, h4, h5⟩ := hx M n s0 a s hL
    have hu := rep_slice.1 (hy M n s0 a s hL)
    obtain ⟨v', s', og', hr, e, hq, hf⟩ := run_app0 ht hE h5 h2 h4 hu hlen o.type
    refine ⟨v', s', ?_, e, og', fun b hb => (hf b hb).elim (fun h => h ▸ h1) (fun h => Nat.le_trans hK h), hq⟩
    unfold execOp; rw [ho]
    simp only [resolve, invoke, builtin]
    simp only [List.map_toArray, List.map_cons, List.map_nil, Sem.run_bind, Sem.run_pure, Result.andThen_ok, h3]
    rw [hr]; rfl
end
end Go.Proofs.YtdfnbogkniikbaaDoor.V
