/-
  Texts out of bytes; texts held against each other, put together. No program is named here.
-/
import Derived.Test.YtdfnbogkniikbaaDoorAE
import Derived.Laws.BytesArg
namespace Go.Proofs.YtdfnbogkniikbaaDoor.V
open Go
set_option linter.unusedVariables false

def strB (l : List Int) : Str := l.map fun n => UInt8.ofNat n.toNat
/-- Is the one text less than, or the same as, the other one? -/
def strLe (x y : Str) : Bool := Op.bytesLess x y || x == y

theorem els_u8 {k : IntKind} {w : World} {S : Nat → Prop} : ∀ {css : List (List Value)} {xs : List Int}, Els (En.int k) w S css xs → css.flatten = xs.map (Value.int k)
  | [], [], _ => rfl
  | [], _ :: _, h => by cases h.1
  | _ :: _, [], h => by cases h.1
  | cs :: css, x :: xs, h => by
    have h1 := h.2 0 cs x rfl rfl
    have ih := els_u8 (css := css) (xs := xs) ⟨by simpa using h.1, fun i c y a b => h.2 (i + 1) c y (by simpa using a) (by simpa using b)⟩
    rw [List.flatten_cons, ih, h1.1]; rfl

section
variable {P : Program} {ops : Array Oper} {o : Oper} {L : Lst}

theorem t_bstr {xs : List Int} {y : Operand} {t e u : TypeId} (hy : Opn L y (Pd.rep (En.slice (En.int .u8)) xs)) (ht : P.underlying t = some (.slice e)) (he : P.underlying e = some (.int .u8)) (hu : P.underlying u = some .string) (ho : o.op = .convert t u y) (hg : o.guard = none) :
    T P ops o L (Pd.rep En.str (strB xs)) :=
  T.pure hg fun M n s0 ac s hL => by
    have hv := rep_slice.1 (hy M n s0 ac s hL)
    obtain ⟨v, hv0⟩ : ∃ v, ac.eval y = v := ⟨_, rfl⟩
    rw [hv0] at hv
    obtain ⟨ad, cap, rfl, hc1, hc2, hc3, hc4⟩ := hv
    by_cases hne : xs = []
    · subst hne
      refine ⟨.string ⟨#[]⟩, ?_, rep_str.2 ⟨rfl, by simp [strB]⟩⟩
      unfold execOp; rw [ho]
      simp only [hv0, Sem.run_bind, run_convert_bytes_string s.w t u e _ _ _ ht he hu]
      cases ad with
      | none => simp [Conv.bytesToString, ByteArray.empty, ByteArray.emptyWithCapacity]; rfl
      | some a => simp [Conv.bytesToString, loadCells, loadCellsFrom, ByteArray.empty, ByteArray.emptyWithCapacity]; rfl
    · obtain ⟨b, off, css, rfl, _, hEl, hcell⟩ := hc4 hne
      have hf := els_u8 hEl
      refine ⟨.string (strOfNums xs), ?_, rep_str.2 ⟨rfl, by simp [strB]; simp only [lim] at hc3; omega⟩⟩
      unfold execOp; rw [ho]
      have := run_convert_bytes_arg (P := P) s.w t e ht he b off xs.length cap xs rfl (fun i hi => hcell i _ (by rw [hf, List.getElem?_map, List.getElem?_eq_getElem hi]; simp [List.getD, List.getElem?_eq_getElem hi])) u hu
      simp only [hv0, Sem.run_bind, this, Result.andThen_ok, Sem.run_pure]

theorem t_strop (op : BinOp) (f : Str → Str → Bool) (hf : ∀ (t : TypeId) (a b : Str), (binOp op t (.string ⟨a.toArray⟩) (.string ⟨b.toArray⟩) : Sem Value) = pure (.bool (f a b))) (hop : op = .leq ∨ op = .lss ∨ op = .gtr ∨ op = .geq) {x y : Operand} {a b : Str} (hx : Opn L x (Pd.rep En.str a)) (hy : Opn L y (Pd.rep En.str b)) {t u : TypeId} (ho : o.op = .binOp op t x y u) (hg : o.guard = none) :
    T P ops o L (Pd.rep En.bool (f a b)) :=
  T.pure hg fun M n s0 ac s hL => by
    obtain ⟨h1, _⟩ := rep_str.1 (hx M n s0 ac s hL)
    obtain ⟨h2, _⟩ := rep_str.1 (hy M n s0 ac s hL)
    refine ⟨.bool (f a b), ?_, rep_bool.2 rfl⟩
    unfold execOp; rw [ho]
    have hfa := hf t a b
    rcases hop with rfl | rfl | rfl | rfl <;> simp [eqGuard, h1, h2, hfa]
theorem t_strle {x y : Operand} {a b : Str} (hx : Opn L x (Pd.rep En.str a)) (hy : Opn L y (Pd.rep En.str b)) {t u : TypeId} (ho : o.op = .binOp .leq t x y u) (hg : o.guard = none) :
    T P ops o L (Pd.rep En.bool (strLe a b)) :=
  t_strop .leq strLe (fun t a b => by simp [binOp, Op.stringOp, strLe, ByteArray.toList_eq]) (.inl rfl) hx hy ho hg
end
end Go.Proofs.YtdfnbogkniikbaaDoor.V
