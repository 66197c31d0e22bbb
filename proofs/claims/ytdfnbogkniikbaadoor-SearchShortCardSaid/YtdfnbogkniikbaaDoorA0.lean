/-
  What stands in memory as abstract data, kept while the run goes on: states, predicates on slots, the frame as an association list, typed operations, and the rules of the walk over them. No program is named here.
-/
import Derived.WalkKit
import Derived.Deep.LoopGhost
import Derived.Orders
import Derived.Lib.Hide
import Derived.Test.YtdfnbogkniikbaaDoorAG
namespace Go.Proofs.YtdfnbogkniikbaaDoor.V
open Go
set_option linter.unusedVariables false

/-- A world, and the blocks that the functions under way may still write. -/
structure St where
  w : World
  X : Nat → Prop
  lt : ∀ b, X b → b < w.heap.size

/-- From s to s': but for the blocks of T (all of them owned) what was there is as it was; what is newly owned is new. -/
structure Mv (T : Nat → Prop) (s s' : St) : Prop where
  os : s'.w.os = s.w.os
  tape : s'.w.tape = s.w.tape
  output : s'.w.output = s.w.output
  size : s.w.heap.size ≤ s'.w.heap.size
  blk : ∀ b, b < s.w.heap.size → ¬ T b → s'.w.heap[b]? = s.w.heap[b]?
  tx : ∀ b, T b → s.X b
  xx : ∀ b, s'.X b → s.X b ∨ s.w.heap.size ≤ b

/-- Nothing that was there has turned; what was owned is owned. -/
structure Ex (s s' : St) : Prop where
  mv : Mv (fun _ => False) s s'
  keep : ∀ b, s.X b → s'.X b

theorem Mv.refl (T : Nat → Prop) (s : St) (h : ∀ b, T b → s.X b) : Mv T s s := ⟨rfl, rfl, rfl, Nat.le_refl _, fun _ _ _ => rfl, h, fun _ h => .inl h⟩
theorem Ex.refl (s : St) : Ex s s := ⟨Mv.refl _ s (fun _ h => h.elim), fun _ h => h⟩
theorem Ex.trans {a b c : St} (h : Ex a b) (k : Ex b c) : Ex a c :=
  ⟨⟨k.mv.os.trans h.mv.os, k.mv.tape.trans h.mv.tape, k.mv.output.trans h.mv.output, Nat.le_trans h.mv.size k.mv.size,
    fun i hi hn => (k.mv.blk i (Nat.lt_of_lt_of_le hi h.mv.size) hn).trans (h.mv.blk i hi hn), fun _ h => h.elim,
    fun i hi => (k.mv.xx i hi).elim (fun j => h.mv.xx i j) (fun j => .inr (Nat.le_trans h.mv.size j))⟩, fun i hi => k.keep i (h.keep i hi)⟩

/-- The tables of the program's own stand as they were laid, and nobody may write them. -/
def Gl (s : St) : Prop := ∀ p ∈ gtab, ¬ s.X p.1 ∧ ∃ t fr, s.w.heap[p.1]? = some (.cells p.2.toArray t fr)
theorem Gl.mv {T : Nat → Prop} {s s' : St} (h : Gl s) (m : Mv T s s') : Gl s' := fun p hp => by
  obtain ⟨h1, t, fr, h2⟩ := h p hp
  have hlt : p.1 < s.w.heap.size := (Array.getElem?_eq_some_iff.1 h2).1
  refine ⟨fun hx => (m.xx _ hx).elim h1 (fun hk => by omega), t, fr, ?_⟩
  rw [m.blk _ hlt (fun ht => h1 (m.tx _ ht))]; exact h2

/-- No block. -/
abbrev N0 : Nat → Prop := fun _ => False
/-- From s to s' nothing that was there has turned, but for the blocks of M; what was owned is owned. -/
structure Fr (M : Nat → Prop) (s s' : St) : Prop where
  mv : Mv M s s'
  keep : ∀ b, s.X b → s'.X b
theorem Fr.ex {s s' : St} (h : Fr N0 s s') : Ex s s' := ⟨h.mv, h.keep⟩
theorem Fr.refl {M : Nat → Prop} {s : St} (h : ∀ b, M b → s.X b) : Fr M s s := ⟨Mv.refl M s h, fun _ h => h⟩
theorem Fr.trans {M : Nat → Prop} {a b c : St} (h : Fr M a b) (k : Ex b c) : Fr M a c :=
  ⟨⟨k.mv.os.trans h.mv.os, k.mv.tape.trans h.mv.tape, k.mv.output.trans h.mv.output, Nat.le_trans h.mv.size k.mv.size,
    fun i hi hn => (k.mv.blk i (Nat.lt_of_lt_of_le hi h.mv.size) (fun h => h)).trans (h.mv.blk i hi hn), h.mv.tx,
    fun i hi => (k.mv.xx i hi).elim (fun j => h.mv.xx i j) (fun j => .inr (Nat.le_trans h.mv.size j))⟩, fun i hi => k.keep i (h.keep i hi)⟩

/-- A predicate on values, and the blocks that it owns. -/
structure Pd where
  p : St → Value → Prop
  own : Nat → Prop
  mv : ∀ {T s s' v}, Mv T s s' → (∀ b, own b → ¬ T b ∧ (s.X b → s'.X b)) → p s v → p s' v

theorem Pd.ex {q : Pd} {s s' : St} {v : Value} (h : Ex s s') (hq : q.p s v) : q.p s' v := q.mv h.mv (fun b _ => ⟨id, h.keep b⟩) hq

/-- A predicate that owns nothing. -/
def Pd.Stable (q : Pd) : Prop := ∀ b, ¬ q.own b
theorem Pd.Stable.mv {q : Pd} (hq : q.Stable) {T : Nat → Prop} {s s' : St} {v : Value} (h : Mv T s s') (hp : q.p s v) : q.p s' v :=
  q.mv h (fun b hb => (hq b hb).elim) hp

def Pd.any : Pd := ⟨fun _ _ => True, fun _ => False, fun _ _ h => h⟩
/-- A value that is known. -/
def Pd.is (x : Value) : Pd := ⟨fun _ v => v = x, fun _ => False, fun _ _ h => h⟩
/-- Under a condition; else nothing was done. -/
def Pd.when (c : Prop) (q : Pd) : Pd := ⟨fun s v => (c → q.p s v) ∧ (¬ c → v = undef), q.own, fun h hb hp => ⟨fun hc => q.mv h hb (hp.1 hc), hp.2⟩⟩

abbrev Lst := List (Nat × Pd)
/-- The first entry of a slot. -/
def lk : Lst → Nat → Option Pd
  | [], _ => none
  | (d, q) :: r, t => bif Nat.beq d t then some q else lk r t

/-- What is known where the function that was entered in s0 stands in frame a, state s. -/
structure Has (M : Nat → Prop) (n : Nat) (s0 : St) (a : Act) (s : St) (L : Lst) : Prop where
  size : a.tmps.size = n
  defers : a.defers = []
  ent : Fr M s0 s
  gl : Gl s0
  at_ : ∀ t q, lk L t = some q → q.p s (a.eval (.tmp t))

theorem Has.gls {M : Nat → Prop} {n : Nat} {s0 : St} {a : Act} {s : St} {L : Lst} (h : Has M n s0 a s L) : Gl s := h.gl.mv h.ent.mv
theorem Has.get {M : Nat → Prop} {n : Nat} {s0 : St} {a : Act} {s : St} {L : Lst} (h : Has M n s0 a s L) (t : Nat) {q : Pd} (e : lk L t = some q) : q.p s (a.eval (.tmp t)) := h.at_ t q e

theorem eval_put_same {a : Act} {d n : Nat} {v : Value} (hn : a.tmps.size = n) (hd : Nat.blt d n = true) : (a.put (some d) v).eval (.tmp d) = v := by
  have : d < a.tmps.size := by rw [hn]; exact Nat.le_of_ble_eq_true hd
  simp [Act.eval, Act.put, Array.getD, this]
theorem eval_put_ne {a : Act} {d t : Nat} {v : Value} (h : d ≠ t) : (a.put (some d) v).eval (.tmp t) = a.eval (.tmp t) := by
  simp [Act.eval, Act.put, Array.getElem?_setIfInBounds_ne h]

theorem beq_no {d t : Nat} (h : d ≠ t) : Nat.beq d t = false := by
  rw [← Bool.not_eq_true]; exact fun e => h (Nat.eq_of_beq_eq_true e)

/-- A slot is written. -/
theorem Has.put {M : Nat → Prop} {n : Nat} {s0 : St} {a : Act} {s s' : St} {L : Lst} (h : Has M n s0 a s L) (e : Ex s s') {d : Nat} (hd : Nat.blt d n = true) {v : Value} {q : Pd} (hq : q.p s' v) :
    Has M n s0 (a.put (some d) v) s' ((d, q) :: L) where
  size := by simp [Act.put, h.size]
  defers := h.defers
  ent := h.ent.trans e
  gl := h.gl
  at_ := by
    intro t q' hl
    unfold lk at hl
    by_cases ht : d = t
    · subst ht
      simp at hl
      subst hl
      rw [eval_put_same h.size hd]; exact hq
    · have : Nat.beq d t = false := beq_no ht
      rw [this] at hl
      rw [eval_put_ne ht]
      exact Pd.ex e (h.at_ t q' hl)

/-- The world alone goes on. -/
theorem Has.ex {M : Nat → Prop} {n : Nat} {s0 : St} {a : Act} {s s' : St} {L : Lst} (h : Has M n s0 a s L) (e : Ex s s') : Has M n s0 a s' L where
  size := h.size
  defers := h.defers
  ent := h.ent.trans e
  gl := h.gl
  at_ := fun t q hl => Pd.ex e (h.at_ t q hl)

/-- Fewer things are known. -/
theorem Has.sub {M : Nat → Prop} {n : Nat} {s0 : St} {a : Act} {s : St} {L L' : Lst} (h : Has M n s0 a s L) (hs : ∀ t q, lk L' t = some q → q.p s (a.eval (.tmp t))) : Has M n s0 a s L' :=
  ⟨h.size, h.defers, h.ent, h.gl, hs⟩
theorem Has.nil {M : Nat → Prop} {n : Nat} {s0 : St} {a : Act} {s : St} {L : Lst} (h : Has M n s0 a s L) : Has M n s0 a s [] := ⟨h.size, h.defers, h.ent, h.gl, fun t q e => by cases e⟩
theorem Has.cons {M : Nat → Prop} {n : Nat} {s0 : St} {a : Act} {s : St} {L : Lst} (h : Has M n s0 a s L) (d : Nat) {q : Pd} (hq : q.p s (a.eval (.tmp d))) : Has M n s0 a s ((d, q) :: L) := by
  refine ⟨h.size, h.defers, h.ent, h.gl, fun t q' hl => ?_⟩
  unfold lk at hl
  by_cases ht : d = t
  · subst ht; simp at hl; subst hl; exact hq
  · have : Nat.beq d t = false := beq_no ht
    rw [this] at hl; exact h.at_ t q' hl

/-- What an operation comes to. -/
def OpR (P : Program) (ops : Array Oper) (o : Oper) (a : Act) (s : St) (K : Value → St → Prop) : Prop :=
  ∀ (Q : Exit → Act → World → Prop) (k : Act → World → Prop), (∀ v s', K v s' → k (a.put o.dst v) s'.w) →
    (if Region.wanted o (yielded ops a.tmps) then o.wp P a s.w k Q else k (a.put o.dst undef) s.w)

/-- A typed operation: where L is known it leaves what was there, and yields a value of which q is known. -/
def T (P : Program) (ops : Array Oper) (o : Oper) (L : Lst) (q : Pd) : Prop :=
  ∀ M n s0 a s, Has M n s0 a s L → OpR P ops o a s (fun v s' => Ex s s' ∧ q.p s' v)

theorem OpR.of_run {P : Program} {ops : Array Oper} {o : Oper} {a : Act} {s : St} {K : Value → St → Prop} (hg : o.guard = none) {v : Value} {s' : St}
    (h : (execOp a.eval o).run P s.w = .ok (.value v) s'.w) (hK : K v s') : OpR P ops o a s K := by
  intro Q k hk
  simp only [Region.wanted, hg, if_true]
  unfold Oper.wp
  rw [h]
  exact hk v s' hK

/-- One typed operation of a region in order. -/
theorem st {P : Program} {ops : Array Oper} {Q : Exit → Act → World → Prop} {rest : List Oper} {o : Oper} {M : Nat → Prop} {n : Nat} {s0 : St} {a : Act} {s : St} {L : Lst} {q : Pd} (d : Nat)
    (h : T P ops o L q) (hd : o.dst = some d) (hn : Nat.blt d n = true) (hL : Has M n s0 a s L)
    (k : ∀ a' s', Ex s s' → Has M n s0 a' s' ((d, q) :: L) → wpList P ops Q rest a' s'.w) : wpList P ops Q (o :: rest) a s.w := by
  refine wpList_step fun K hK => ?_
  refine h M n s0 a s hL Q K fun v s' ⟨e, hq⟩ => hK _ _ ?_
  rw [hd]
  exact k _ s' e (hL.put e hn hq)

/-- The end of a region. -/
theorem en {P : Program} {ops : Array Oper} {K : Act → World → Prop} {Q : Exit → Act → World → Prop} {a : Act} {w : World} (h : K a w) : wpList P ops (Exit.then K Q) [] a w := h
theorem en' {P : Program} {ops : Array Oper} {Q : Exit → Act → World → Prop} {a : Act} {w : World} (h : Q .normal a w) : wpList P ops Q [] a w := h

/-- A region in order. -/
theorem rg {P : Program} {id : Nat} {l : List Oper} {Q : Exit → Act → World → Prop} {a : Act} {w : World} (h : wpList P l.toArray Q l a w) : (Code.region id l.toArray false).wp P Q a w := wp_region_lit h

/-- What the operations ahead of number i, on which it waits, have left: newest first. -/
def depL (ops : Array Oper) (qs : List Pd) : List Edge → Lst → Lst
  | [], L => L
  | e :: r, L => match Region.binds .any e, (ops[e.on]?).bind (·.dst), qs[e.on]? with
    | true, some d, some q => (d, q) :: depL ops qs r L
    | _, _, _ => depL ops qs r L

/-- Does number i wait for number k, directly or through others? -/
def reach (ops : Array Oper) : Nat → Nat → Nat → Bool
  | 0, _, _ => false
  | f + 1, i, k => match ops[i]? with
    | none => false
    | some o => (o.after.toList.any fun e => Region.binds .any e && Nat.beq e.on k) || (o.after.toList.any fun e => Region.binds .any e && reach ops f e.on k)

theorem reach_listed {ops : Array Oper} {p : Nat → Prop} (hp : ∀ i o, p i → ops[i]? = some o → ∀ e ∈ o.after.toList, Region.binds .any e = true → p e.on) :
    ∀ (f i k : Nat), reach ops f i k = true → (∀ o, ops[i]? = some o → ∀ e ∈ o.after.toList, Region.binds .any e = true → p e.on) → p k := by
  intro f
  induction f with
  | zero => intro i k h; cases h
  | succ f ih =>
    intro i k h hi
    unfold reach at h
    cases ho : ops[i]? with
    | none => rw [ho] at h; cases h
    | some o =>
      simp only [ho, Bool.or_eq_true, List.any_eq_true, Bool.and_eq_true] at h
      rcases h with ⟨e, he, hb, hk⟩ | ⟨e, he, hb, hk⟩
      · rw [← Nat.eq_of_beq_eq_true hk]; exact hi o ho e he hb
      · have := hi o ho e he hb
        exact ih e.on k hk fun o' ho' => hp e.on o' this ho'

/-- Of a region that draws its order: the first m operations write new slots, each its own; each of the others waits for all that are ahead of it. -/
def okDraw (ops : Array Oper) (m n : Nat) (ks : List Nat) (F : List Nat) : Bool :=
  (F.all fun k => Nat.blt k m) &&
  (List.range ops.size).all fun i => match ops[i]? with
    | none => false
    | some o => (o.after.toList.all fun e => !Region.binds .any e || Nat.blt e.on i) &&
      (if i < m then F.contains i || (match o.dst with
        | none => false
        | some d => Nat.blt d n && ks.all (fun t => !Nat.beq t d) && (List.range m).all fun j => Nat.beq j i || !((ops[j]?).bind (·.dst) == some d))
      else (List.range i).all fun k => F.contains k || reach ops ops.size i k)

theorem mem_ready {ops : Array Oper} {listed : Array Bool} {i : Nat} : i ∈ Region.ready .any ops listed ↔
    i < ops.size ∧ listed.getD i true = false ∧ ∃ o, ops[i]? = some o ∧ ∀ e ∈ o.after.toList, Region.binds .any e = true → listed.getD e.on false = true := by
  unfold Region.ready
  simp only [List.mem_filter, List.mem_range, Bool.and_eq_true, Bool.not_eq_true']
  constructor
  · rintro ⟨h1, h2, h3⟩
    refine ⟨h1, h2, ?_⟩
    cases ho : ops[i]? with
    | none => simp [ho] at h3
    | some o =>
      refine ⟨o, rfl, fun e he hb => ?_⟩
      simp only [ho, Option.map_some, Option.getD_some] at h3
      rw [← Array.all_toList, List.all_eq_true] at h3
      have := h3 e he
      simpa [hb] using this
  · rintro ⟨h1, h2, o, ho, h3⟩
    refine ⟨h1, h2, ?_⟩
    simp only [ho, Option.map_some, Option.getD_some]
    rw [← Array.all_toList, List.all_eq_true]
    intro e he
    cases hb : Region.binds .any e
    · simp
    · simp [h3 e he hb]

theorem getD_set {listed : Array Bool} {i k : Nat} {d : Bool} (h : i < listed.size) : (listed.setIfInBounds i true).getD k d = if k = i then true else listed.getD k d := by
  simp only [Array.getD_eq_getD_getElem?, Array.getElem?_setIfInBounds]
  by_cases hk : k = i
  · subst hk; simp [h]
  · simp [hk, Ne.symm hk]

theorem wpAny_tail {P : Program} {ops : Array Oper} {Q : Exit → Act → World → Prop} {m n : Nat} {ks F : List Nat} (hok : okDraw ops m n ks F = true) :
    ∀ (f k : Nat) (listed : Array Bool) (a : Act) (w : World), k + f = ops.size → m ≤ k → listed.size = ops.size → (∀ i, i < ops.size → listed.getD i true = decide (i < k)) →
      wpOps P ops Q (List.range' k f) a w → wpAny P .any ops Q f listed a w := by
  unfold okDraw at hok
  rw [Bool.and_eq_true] at hok
  obtain ⟨hF, hok⟩ := hok
  rw [List.all_eq_true] at hok hF
  intro f
  induction f with
  | zero =>
    intro k listed a w hk hm hs hl h
    refine ⟨?_, h⟩
    cases hr : Region.ready .any ops listed with
    | nil => rfl
    | cons x xs =>
      have hx : x ∈ Region.ready .any ops listed := by rw [hr]; simp
      obtain ⟨h1, h2, _⟩ := mem_ready.1 hx
      rw [hl x h1] at h2
      simp at h2; omega
  | succ f ih =>
    intro k listed a w hk hm hs hl h
    rw [List.range'_succ, wpOps_cons] at h
    have hkr : k ∈ Region.ready .any ops listed := by
      obtain ⟨o, ho⟩ : ∃ o, ops[k]? = some o := ⟨ops[k]'(by omega), by simp⟩
      refine mem_ready.2 ⟨by omega, by rw [hl k (by omega)]; simp, o, ho, fun e he hb => ?_⟩
      have := hok k (by simp; omega)
      simp only [ho, Bool.and_eq_true] at this
      have h1 := List.all_eq_true.1 this.1 e he
      simp only [hb, Bool.not_true, Bool.false_or] at h1
      have h2 : e.on < k := Nat.le_of_ble_eq_true h1
      have h3 := hl e.on (by omega)
      have h4 : listed.getD e.on false = listed.getD e.on true := by simp [Array.getD, hs, show e.on < ops.size by omega]
      rw [h4, h3]; simpa using h2
    refine ⟨fun he => by rw [he] at hkr; simp at hkr, fun i hi => ?_⟩
    obtain ⟨h1, h2, o, ho, h3⟩ := mem_ready.1 hi
    have hik : ¬ i < k := by rw [hl i h1] at h2; simpa using h2
    have : i = k := by
      rcases Nat.lt_or_ge k i with hlt | hge
      · exfalso
        have h5 := hok i (by simpa using h1)
        simp only [ho, Bool.and_eq_true] at h5
        have h6 := h5.2
        rw [if_neg (by omega), List.all_eq_true] at h6
        have h7 := h6 k (by simpa using hlt)
        have hkF : F.contains k = false := by
          cases hc : F.contains k
          · rfl
          · have := hF k (by simpa using hc)
            have : k < m := Nat.le_of_ble_eq_true this
            omega
        rw [hkF, Bool.false_or] at h7
        have h8 := reach_listed (ops := ops) (p := fun j => listed.getD j false = true) (fun j o' hj ho' e he hb => by
          have hjs : j < ops.size := by
            rcases Nat.lt_or_ge j ops.size with h | h
            · exact h
            · simp [Array.getElem?_eq_none h] at ho'
          have hjk : j < k := by
            have : listed.getD j false = listed.getD j true := by simp [Array.getD, hs, hjs]
            rw [this, hl j hjs] at hj; simpa using hj
          have hok2 := hok j (by simpa using hjs)
          simp only [ho', Bool.and_eq_true] at hok2
          have h9 := List.all_eq_true.1 hok2.1 e he
          simp only [hb, Bool.not_true, Bool.false_or] at h9
          have h10 : e.on < j := Nat.le_of_ble_eq_true h9
          have : listed.getD e.on false = listed.getD e.on true := by simp [Array.getD, hs, show e.on < ops.size by omega]
          rw [this, hl e.on (by omega)]; simp; omega) _ i k h7 (fun o' ho' => by rw [ho] at ho'; cases ho'; exact h3)
        have h10 : listed.getD k false = listed.getD k true := by simp [Array.getD, hs, show k < ops.size by omega]
        rw [h10, hl k (by omega)] at h8
        simp at h8
      · omega
    subst this
    refine wpOp_mono (fun a w hw => ih (i + 1) _ a w (by omega) (by omega) (by simpa using hs) (fun j hj => ?_) hw) h
    rw [getD_set (by omega), hl j hj]
    by_cases hj' : j = i
    · simp [hj']
    · simp only [if_neg hj', decide_eq_decide]; omega

theorem depL_has {ops : Array Oper} {qs : List Pd} {M : Nat → Prop} {n : Nat} {s0 : St} {a : Act} {s : St} {L : Lst} (hL : Has M n s0 a s L) :
    ∀ (es : List Edge), (∀ e ∈ es, Region.binds .any e = true → ∀ d q, (ops[e.on]?).bind (·.dst) = some d → qs[e.on]? = some q → q.p s (a.eval (.tmp d))) → Has M n s0 a s (depL ops qs es L)
  | [], _ => hL
  | e :: r, h => by
    have ih := depL_has hL r (fun e' he' => h e' (by simp [he']))
    unfold depL
    split
    · rename_i d q hb hd hq
      exact ih.cons d (h e (by simp) hb d q hd hq)
    · exact ih

theorem lk_none {L : Lst} {d : Nat} (h : (L.map (·.1)).all (fun t => !Nat.beq t d) = true) : lk L d = none := by
  induction L with
  | nil => rfl
  | cons x r ih =>
    simp only [List.map_cons, List.all_cons, Bool.and_eq_true, Bool.not_eq_true'] at h
    unfold lk
    rw [h.1]; exact ih h.2

/-- The first m operations' slots, newest first. -/
def newL (ops : Array Oper) (qs : List Pd) : Nat → Lst → Lst
  | 0, L => L
  | i + 1, L => match (ops[i]?).bind (·.dst), qs[i]? with
    | some d, some q => (d, q) :: newL ops qs i L
    | _, _ => newL ops qs i L

theorem newL_has {ops : Array Oper} {qs : List Pd} {M : Nat → Prop} {n : Nat} {s0 : St} {a : Act} {s : St} {L : Lst} (hL : Has M n s0 a s L) :
    ∀ m, (∀ i, i < m → ∀ d q, (ops[i]?).bind (·.dst) = some d → qs[i]? = some q → q.p s (a.eval (.tmp d))) → Has M n s0 a s (newL ops qs m L)
  | 0, _ => hL
  | m + 1, h => by
    have ih := newL_has hL m (fun i hi => h i (by omega))
    unfold newL
    split
    · rename_i d q hd hq
      exact ih.cons d (h m (by omega) d q hd hq)
    · exact ih

/-- From any state in which some of the first m operations are done, those of F among them. -/
theorem rd_key {P : Program} {ops : Array Oper} {Q : Exit → Act → World → Prop} {M : Nat → Prop} {n : Nat} {s0 : St} {s : St} {L : Lst} (m : Nat) (qs : List Pd) (F : List Nat)
    (hok : okDraw ops m n (L.map (·.1)) F = true) (hq : qs.length = m) (hm : m ≤ ops.size)
    (hT : ∀ i o q, i < m → ops[i]? = some o → qs[i]? = some q → F.contains i = false → T P ops o (depL ops qs o.after.toList L) q)
    (hB : ∀ a' s', Ex s s' → Has M n s0 a' s' (newL ops qs m L) → wpOps P ops Q (List.range' m (ops.size - m)) a' s'.w) :
    ∀ (f : Nat) (listed : Array Bool) (a : Act) (s' : St), listed.size = ops.size → ((List.range ops.size).filter (fun i => !listed.getD i true)).length = f → Ex s s' → Has M n s0 a s' L →
      (∀ i o, listed.getD i false = true → ops[i]? = some o → ∀ e ∈ o.after.toList, Region.binds .any e = true → listed.getD e.on false = true) → (∀ i, i < ops.size → m ≤ i → listed.getD i true = false) →
      (∀ i, i < m → listed.getD i true = true → ∀ d q, (ops[i]?).bind (·.dst) = some d → qs[i]? = some q → q.p s' (a.eval (.tmp d))) → (∀ i ∈ F, listed.getD i true = true) → wpAny P .any ops Q f listed a s'.w := by
  have hok' := hok
  unfold okDraw at hok'
  rw [Bool.and_eq_true] at hok'
  obtain ⟨hF, hok'⟩ := hok'
  rw [List.all_eq_true] at hok'
  intro f
  induction f with
  | zero =>
    intro listed a s' hs hc e hL' hcl hn hd hl0
    have hall : ∀ i, i < ops.size → listed.getD i true = true := by
      intro i hi
      have : (List.range ops.size).filter (fun i => !listed.getD i true) = [] := List.length_eq_zero_iff.1 hc
      rw [List.filter_eq_nil_iff] at this
      have := this i (by simpa using hi)
      simpa using this
    have hmm : m = ops.size := by
      rcases Nat.lt_or_ge m ops.size with h | h
      · have := hn m h (Nat.le_refl _); rw [hall m h] at this; cases this
      · omega
    refine wpAny_tail hok 0 ops.size listed a s'.w (by omega) (by omega) hs (fun i hi => by rw [hall i hi]; simp [hi]) ?_
    have := hB a s' e (newL_has hL' m fun i hi => hd i hi (hall i (by omega)))
    rw [hmm] at this; simpa using this
  | succ f ih =>
    intro listed a s' hs hc e hL' hcl hn hd hl0
    by_cases hdone : ∀ i, i < m → listed.getD i true = true
    · -- the tail
      have hf : f + 1 = ops.size - m := by
        rw [← hc]
        have h1 : (List.range ops.size).filter (fun i => !listed.getD i true) = List.range' m (ops.size - m) := by
          have e1 : List.range ops.size = List.range' 0 m ++ List.range' m (ops.size - m) := by
            rw [List.range_eq_range', show ops.size = m + (ops.size - m) by omega, ← List.range'_append_1]
            simp
          rw [e1, List.filter_append]
          have e2 : (List.range' 0 m).filter (fun i => !listed.getD i true) = [] := by
            rw [List.filter_eq_nil_iff]; intro i hi; simp at hi; simp [hdone i hi]
          have e3 : (List.range' m (ops.size - m)).filter (fun i => !listed.getD i true) = List.range' m (ops.size - m) := by
            rw [List.filter_eq_self]; intro i hi; simp at hi; simp [hn i (by omega) (by omega)]
          rw [e2, e3, List.nil_append]
        rw [h1]; simp
      refine wpAny_tail hok (f + 1) m listed a s'.w (by omega) (Nat.le_refl _) hs (fun i hi => ?_) ?_
      · by_cases h : i < m
        · simp [h, hdone i h]
        · simp [h, hn i hi (by omega)]
      · rw [hf]; exact hB a s' e (newL_has hL' m fun i hi => hd i hi (hdone i hi))
    · have hex : ∃ i, i < m ∧ listed.getD i true = false := by
        have h1 := Classical.not_forall.1 hdone
        obtain ⟨i, hi⟩ := h1
        rw [Classical.not_imp] at hi
        exact ⟨i, hi.1, by simpa using hi.2⟩
      -- what is ready is one of the first m
      have hlow : ∀ i, i ∈ Region.ready .any ops listed → i < m := by
        intro i hi
        obtain ⟨h1, h2, o, ho, h3⟩ := mem_ready.1 hi
        rcases Nat.lt_or_ge i m with h | h
        · exact h
        · exfalso
          obtain ⟨k, hk, hkl⟩ := hex
          have h5 := hok' i (by simpa using h1)
          simp only [ho, Bool.and_eq_true] at h5
          have h6 := h5.2
          rw [if_neg (by omega), List.all_eq_true] at h6
          have h7 := h6 k (by simp; omega)
          have hkF : F.contains k = false := by
            cases hc' : F.contains k
            · rfl
            · have := hl0 k (by simpa using hc'); rw [this] at hkl; cases hkl
          rw [hkF, Bool.false_or] at h7
          have h8 := reach_listed (ops := ops) (p := fun j => listed.getD j false = true) hcl _ i k h7 (fun o' ho' => by rw [ho] at ho'; cases ho'; exact h3)
          have h10 : listed.getD k false = listed.getD k true := by simp [Array.getD, hs, show k < ops.size by omega]
          rw [h10, hkl] at h8
          cases h8
      refine ⟨fun hnil => ?_, fun i hi => ?_⟩
      · -- the least that isn't done is ready
        exfalso
        obtain ⟨k, hk, hmin⟩ := exists_least (p := fun i => i < m ∧ listed.getD i true = false) hex
        obtain ⟨o, ho⟩ : ∃ o, ops[k]? = some o := ⟨ops[k]'(by omega), by simp⟩
        have : k ∈ Region.ready .any ops listed := by
          refine mem_ready.2 ⟨by omega, hk.2, o, ho, fun e he hb => ?_⟩
          have h5 := hok' k (by simp; omega)
          simp only [ho, Bool.and_eq_true] at h5
          have h1 := List.all_eq_true.1 h5.1 e he
          simp only [hb, Bool.not_true, Bool.false_or] at h1
          have h2 : e.on < k := Nat.le_of_ble_eq_true h1
          have h4 : listed.getD e.on false = listed.getD e.on true := by simp [Array.getD, hs, show e.on < ops.size by omega]
          rw [h4]
          by_cases h6 : listed.getD e.on true = true
          · exact h6
          · have := hmin e.on ⟨by omega, by simpa using h6⟩; omega
        rw [hnil] at this; simp at this
      · have him := hlow i hi
        obtain ⟨h1, h2, o, ho, h3⟩ := mem_ready.1 hi
        obtain ⟨q, hqi⟩ : ∃ q, qs[i]? = some q := ⟨qs[i]'(by omega), by simp⟩
        have h5 := hok' i (by simpa using h1)
        have hiF : F.contains i = false := by
          cases hc' : F.contains i
          · rfl
          · have := hl0 i (by simpa using hc'); rw [this] at h2; cases h2
        simp only [ho, Bool.and_eq_true, if_pos him, hiF, Bool.false_or] at h5
        obtain ⟨d, hdst⟩ : ∃ d, o.dst = some d := by
          cases hd' : o.dst with
          | none => rw [hd'] at h5; simp at h5
          | some d => exact ⟨d, rfl⟩
        have h6 := h5.2
        rw [hdst] at h6
        simp only [Bool.and_eq_true] at h6
        have hdep : Has M n s0 a s' (depL ops qs o.after.toList L) := by
          refine depL_has hL' _ fun e' he' hb d' q' hd' hq' => ?_
          have h7 := h3 e' he' hb
          have h8 := List.all_eq_true.1 h5.1 e' he'
          simp only [hb, Bool.not_true, Bool.false_or] at h8
          have h9 : e'.on < i := Nat.le_of_ble_eq_true h8
          have h10 : listed.getD e'.on false = listed.getD e'.on true := by simp [Array.getD, hs, show e'.on < ops.size by omega]
          exact hd e'.on (by omega) (h10 ▸ h7) d' q' hd' hq'
        have hrun := hT i o q him ho hqi hiF M n s0 a s' hdep Q (wpAny P .any ops Q f (listed.setIfInBounds i true)) ?_
        · unfold wpOp
          simp only [ho]
          by_cases hw : Region.wanted o (yielded ops a.tmps) = true
          · rw [if_pos hw] at hrun ⊢; exact .inl hrun
          · rw [if_neg hw] at hrun ⊢; exact hrun
        · rintro v s'' ⟨e', hq'⟩
          have hfresh : lk L d = none := lk_none h6.1.2
          refine ih _ _ s'' (by simpa using hs) ?_ (e.trans e') ?_ ?_ ?_ ?_ ?_
          · -- one fewer
            have hnd : ((List.range ops.size).filter (fun j => !listed.getD j true)).Nodup := List.Nodup.sublist List.filter_sublist List.nodup_range
            have hmem : i ∈ (List.range ops.size).filter (fun j => !listed.getD j true) := List.mem_filter.2 ⟨by simpa using h1, by rw [h2]; rfl⟩
            have e1 : (List.range ops.size).filter (fun j => !(listed.setIfInBounds i true).getD j true) = ((List.range ops.size).filter (fun j => !listed.getD j true)).filter (fun j => j != i) := by
              rw [List.filter_filter]
              refine List.filter_congr fun j hj => ?_
              rw [getD_set (by omega)]
              by_cases hji : j = i <;> simp [hji]
            rw [e1, ← List.Nodup.erase_eq_filter hnd, List.length_erase_of_mem hmem, hc]; rfl
          · have hp := hL'.put e' (d := d) h6.1.1 hq'
            rw [hdst]
            refine hp.sub fun t q'' hl => hp.at_ t q'' ?_
            unfold lk
            have : d ≠ t := fun he => by rw [he] at hfresh; rw [hfresh] at hl; cases hl
            rw [beq_no this]; exact hl
          · intro j o' hj ho' e2 he2 hb2
            rw [getD_set (by omega)] at hj ⊢
            split
            · rfl
            · by_cases hji : j = i
              · subst hji; rw [ho] at ho'; cases ho'; exact h3 e2 he2 hb2
              · rw [if_neg hji] at hj; exact hcl j o' hj ho' e2 he2 hb2
          · intro j hj hmj
            rw [getD_set (by omega), if_neg (by omega)]; exact hn j hj hmj
          · intro j hj hlj d' q'' hd' hq''
            rw [hdst]
            by_cases hji : j = i
            · subst hji
              rw [ho, Option.bind_some, hdst] at hd'
              cases hd'
              rw [hqi] at hq''; cases hq''
              rw [eval_put_same hL'.size h6.1.1]; exact hq'
            · rw [getD_set (by omega), if_neg hji] at hlj
              have h7 := List.all_eq_true.1 h6.2 j (by simpa using hj)
              have h8 : Nat.beq j i = false := beq_no hji
              rw [h8, Bool.false_or, hd'] at h7
              have : d ≠ d' := fun he => by simp [he] at h7
              rw [eval_put_ne this]
              exact Pd.ex e' (hd j hj hlj d' q'' hd' hq'')
          · intro j hj
            rw [getD_set (by omega)]
            split
            · rfl
            · exact hl0 j hj

/-- A region that draws its order: m typed operations in whatever order, then the others, each behind all. -/
theorem rd {P : Program} {id : Nat} {ops : Array Oper} {Q : Exit → Act → World → Prop} {M : Nat → Prop} {n : Nat} {s0 : St} {a : Act} {s : St} {L : Lst} (hf : P.follows .mixedOrders = true) (m : Nat) (qs : List Pd)
    (hL : Has M n s0 a s L) (hok : okDraw ops m n (L.map (·.1)) [] = true) (hq : qs.length = m) (hm : m ≤ ops.size)
    (hT : ∀ i o q, i < m → ops[i]? = some o → qs[i]? = some q → T P ops o (depL ops qs o.after.toList L) q)
    (hB : ∀ a' s', Ex s s' → Has M n s0 a' s' (newL ops qs m L) → wpOps P ops Q (List.range' m (ops.size - m)) a' s'.w) : (Code.region id ops true).wp P Q a s.w := by
  refine wp_region_any hf ?_
  have := rd_key m qs [] hok hq hm (fun i o q h1 h2 h3 _ => hT i o q h1 h2 h3) hB ops.size (Array.replicate ops.size false) a ⟨{ s.w with drawn := s.w.drawn + 1 }, s.X, s.lt⟩ (by simp) ?_ ⟨⟨rfl, rfl, rfl, Nat.le_refl _, fun _ _ _ => rfl, fun _ h => h.elim, fun _ h => .inl h⟩, fun _ h => h⟩ ?_ ?_ ?_ ?_ (fun i h => by cases h)
  · exact this
  · rw [List.filter_eq_self.2]
    · simp
    · intro i hi; simp at hi; simp [hi]
  · exact hL.ex ⟨⟨rfl, rfl, rfl, Nat.le_refl _, fun _ _ _ => rfl, fun _ h => h.elim, fun _ h => .inl h⟩, fun _ h => h⟩
  · intro i o h; simp [Array.getD] at h
  · intro i hi _; simp [hi]
  · intro i hi h; simp [show i < ops.size by omega] at h

/-! ### operations that may also come behind a later one, but hang on no memory -/
/-- An operation that hangs on slots alone. -/
def TY (P : Program) (o : Oper) (L : Lst) (q : Pd) : Prop := o.guard = none ∧ ∀ M n s0 a s, Has M n s0 a s L → ∃ v, (∀ w, (execOp a.eval o).run P w = .ok (.value v) w) ∧ q.p s v

theorem rdf {P : Program} {id : Nat} {ops : Array Oper} {Q : Exit → Act → World → Prop} {M : Nat → Prop} {n : Nat} {s0 : St} {a : Act} {s : St} {L : Lst} (N : Nat) (hf : P.follows .mixedOrders = true) (hL : Has M n s0 a s L) (hN : ops.size = N)
    (h : ∀ s', Ex s s' → Has M n s0 a s' L → wpAny P .any ops Q N (Array.replicate N false) a s'.w) : (Code.region id ops true).wp P Q a s.w := by
  refine wp_region_any hf ?_
  subst hN
  have e : Ex s ⟨{ s.w with drawn := s.w.drawn + 1 }, s.X, s.lt⟩ := ⟨⟨rfl, rfl, rfl, Nat.le_refl _, fun _ _ _ => rfl, fun _ h => h.elim, fun _ h => .inl h⟩, fun _ h => h⟩
  exact h _ e (hL.ex e)

theorem fl_take {P : Program} {ops : Array Oper} {Q : Exit → Act → World → Prop} {M : Nat → Prop} {n : Nat} {s0 : St} {a : Act} {s : St} {L : Lst} {f : Nat} {listed : Array Bool} {o : Oper} {q : Pd} (i d : Nat) (hL : Has M n s0 a s L) (hi : ops[i]? = some o) (hs : Region.noSelect ops = true)
    (hf : Region.free .any ops listed i = true) (hr : (Region.ready .any ops listed).contains i = true) (hQ : ∀ v c a w, Q (.panic c) (a.put (some d) v) w → Q (.panic c) a w) (hT : TY P o L q) (hd : o.dst = some d) (hn : Nat.blt d n = true)
    (k : ∀ a', Has M n s0 a' s ((d, q) :: L) → wpAny P .any ops Q f (listed.setIfInBounds i true) a' s.w) : wpAny P .any ops Q (f + 1) listed a s.w := by
  obtain ⟨hg, hT⟩ := hT
  obtain ⟨v, hv, hq⟩ := hT M n s0 a s hL
  refine wpAny_take hi hs hf hr (fun c a w => by rw [hd]; exact hQ v c a w) (.inl ⟨by simp [Region.wanted, hg], hv⟩) ?_
  rw [hd]
  exact k _ (hL.put (Ex.refl s) hn hq)

/-- What is done at the start: those of F, and no others; what they wait for is done. -/
def okStart (ops : Array Oper) (listed : Array Bool) (m : Nat) (F : List Nat) : Bool :=
  Nat.beq listed.size ops.size && (List.range ops.size).all fun i => (listed.getD i true == F.contains i) && (!F.contains i || (Nat.blt i m && (match ops[i]? with
    | none => false
    | some o => o.after.toList.all fun e => !Region.binds .any e || F.contains e.on && Nat.blt e.on ops.size)))

/-- What is known of those of F. -/
inductive FlOk (ops : Array Oper) (qs : List Pd) (L : Lst) : List Nat → Prop
  | nil : FlOk ops qs L []
  | cons {i d : Nat} {o : Oper} {q : Pd} {r : List Nat} (ho : ops[i]? = some o) (hd : o.dst = some d) (hq : qs[i]? = some q) (hl : lk L d = some q) (h : FlOk ops qs L r) : FlOk ops qs L (i :: r)
theorem FlOk.at {ops : Array Oper} {qs : List Pd} {L : Lst} {F : List Nat} (h : FlOk ops qs L F) : ∀ i ∈ F, ∃ o d q, ops[i]? = some o ∧ o.dst = some d ∧ qs[i]? = some q ∧ lk L d = some q := by
  induction h with
  | nil => intro i h; cases h
  | cons ho hd hq hl _ ih =>
    intro i hi
    rcases List.mem_cons.1 hi with rfl | hi
    · exact ⟨_, _, _, ho, hd, hq, hl⟩
    · exact ih i hi

theorem fl_end {P : Program} {ops : Array Oper} {Q : Exit → Act → World → Prop} {M : Nat → Prop} {n : Nat} {s0 : St} {a : Act} {s : St} {L : Lst} {f : Nat} {listed : Array Bool} (m : Nat) (qs : List Pd) (F : List Nat) (hL : Has M n s0 a s L)
    (hok : okDraw ops m n (L.map (·.1)) F = true) (hst : okStart ops listed m F = true) (hc : ((List.range ops.size).filter (fun i => !listed.getD i true)).length = f) (hfl : FlOk ops qs L F) (hq : qs.length = m) (hm : m ≤ ops.size)
    (hT : ∀ i o q, i < m → ops[i]? = some o → qs[i]? = some q → F.contains i = false → T P ops o (depL ops qs o.after.toList L) q)
    (hB : ∀ a' s', Ex s s' → Has M n s0 a' s' (newL ops qs m L) → wpOps P ops Q (List.range' m (ops.size - m)) a' s'.w) : wpAny P .any ops Q f listed a s.w := by
  unfold okStart at hst
  rw [Bool.and_eq_true, List.all_eq_true] at hst
  obtain ⟨h1, h2⟩ := hst
  have hsz := Nat.eq_of_beq_eq_true h1
  have hg : ∀ i, i < ops.size → listed.getD i true = F.contains i := fun i hi => by
    have := h2 i (by simpa using hi)
    rw [Bool.and_eq_true] at this
    exact eq_of_beq this.1
  have hgf : ∀ i, i < ops.size → listed.getD i false = listed.getD i true := fun i hi => by simp [Array.getD, hsz, hi]
  have hFm : ∀ i ∈ F, i < m := by
    unfold okDraw at hok
    rw [Bool.and_eq_true, List.all_eq_true] at hok
    exact fun i hi => Nat.le_of_ble_eq_true (hok.1 i hi)
  refine rd_key m qs F hok hq hm hT hB f listed a s hsz hc (Ex.refl s) hL ?_ ?_ ?_ ?_
  · intro i o hi ho e he hb
    have hlt : i < ops.size := (Array.getElem?_eq_some_iff.1 ho).1
    rw [hgf i hlt, hg i hlt] at hi
    have := h2 i (by simpa using hlt)
    rw [Bool.and_eq_true, hi, ho] at this
    have h3 := this.2
    simp only [Bool.not_true, Bool.false_or, Bool.and_eq_true, List.all_eq_true] at h3
    have h4 := h3.2 e he
    simp only [hb, Bool.not_true, Bool.false_or, Bool.and_eq_true] at h4
    have h5 : e.on < ops.size := Nat.le_of_ble_eq_true h4.2
    rw [hgf _ h5, hg _ h5]; exact h4.1
  · intro i hi hmi
    rw [hg i hi]
    cases hcF : F.contains i
    · rfl
    · have := hFm i (by simpa using hcF); omega
  · intro i hi hl d q hd hqi
    rw [hg i (by omega)] at hl
    obtain ⟨o, d', q', ho, hd', hq', hlk⟩ := hfl.at i (by simpa using hl)
    rw [ho, Option.bind_some, hd'] at hd
    rw [hq'] at hqi
    cases hd; cases hqi
    exact hL.get _ hlk
  · intro i hi
    have := hFm i hi
    rw [hg i (by omega)]; simpa using hi
end Go.Proofs.YtdfnbogkniikbaaDoor.V
