/-
  Regions that draw their order, in which a new row is appended to at no fixed time. No program is named here.
-/
import Derived.Test.YtdfnbogkniikbaaDoorAD
namespace Go.Proofs.YtdfnbogkniikbaaDoor.V
open Go
set_option linter.unusedVariables false

/-- From s to s': what lay below block K is as it was; what was owned there is owned. -/
structure Xk (K : Nat) (s s' : St) : Prop where
  mv : Mv (fun b => K ≤ b ∧ s.X b) s s'
  keep : ∀ b, b < K → s.X b → s'.X b
theorem Xk.of {s s' : St} (h : Ex s s') (K : Nat) : Xk K s s' :=
  ⟨⟨h.mv.os, h.mv.tape, h.mv.output, h.mv.size, fun b hb _ => h.mv.blk b hb (fun h => h), fun b hb => hb.2, h.mv.xx⟩, fun b _ hb => h.keep b hb⟩
theorem Xk.trans {K : Nat} {a b c : St} (h : Xk K a b) (k : Xk K b c) : Xk K a c :=
  ⟨⟨k.mv.os.trans h.mv.os, k.mv.tape.trans h.mv.tape, k.mv.output.trans h.mv.output, Nat.le_trans h.mv.size k.mv.size,
    fun x hx hn => (k.mv.blk x (Nat.lt_of_lt_of_le hx h.mv.size) (fun ht => (h.mv.xx x ht.2).elim (fun hX => hn ⟨ht.1, hX⟩) (fun hs => by omega))).trans (h.mv.blk x hx hn), fun x hx => hx.2,
    fun x hx => (k.mv.xx x hx).elim (fun j => h.mv.xx x j) (fun j => .inr (Nat.le_trans h.mv.size j))⟩, fun x hx hX => k.keep x hx (h.keep x hx hX)⟩
theorem Xk.pd {K : Nat} {s s' : St} {q : Pd} {v : Value} (h : Xk K s s') (hq : ∀ b, q.own b → ¬ K ≤ b) (hp : q.p s v) : q.p s' v :=
  q.mv h.mv (fun b hb => ⟨fun ht => hq b hb ht.1, fun hX => h.keep b (Nat.lt_of_not_le (hq b hb)) hX⟩) hp
theorem Has.xk {K : Nat} {M : Nat → Prop} {n : Nat} {s0 : St} {a : Act} {s s' : St} {L L' : Lst} (h : Has M n s0 a s L) (e : Xk K s s') (hK : s0.w.heap.size ≤ K) (hk : Kp (fun b => K ≤ b) L L') : Has M n s0 a s' L' where
  size := h.size
  defers := h.defers
  ent := ⟨⟨e.mv.os.trans h.ent.mv.os, e.mv.tape.trans h.ent.mv.tape, e.mv.output.trans h.ent.mv.output, Nat.le_trans h.ent.mv.size e.mv.size,
    fun b hb hn => (e.mv.blk b (Nat.lt_of_lt_of_le hb h.ent.mv.size) (fun ht => by have := ht.1; omega)).trans (h.ent.mv.blk b hb hn), h.ent.mv.tx,
    fun b hb => (e.mv.xx b hb).elim (fun j => h.ent.mv.xx b j) (fun j => .inr (Nat.le_trans h.ent.mv.size j))⟩, fun b hb => e.keep b (Nat.lt_of_lt_of_le (s0.lt b hb) hK) (h.ent.keep b hb)⟩
  gl := h.gl
  at_ := fun t q hl => let ⟨h1, h2⟩ := hk.get t q hl; e.pd h2 (h.at_ t q h1)

/-- A typed operation that may turn what is owned from block K on. -/
def TX (P : Program) (ops : Array Oper) (o : Oper) (K : Nat) (L : Lst) (q : Pd) : Prop :=
  ∀ M n s0 a s, s0.w.heap.size ≤ K → Has M n s0 a s L → OpR P ops o a s (fun v s' => Xk K s s' ∧ q.p s' v)
theorem T.x {P : Program} {ops : Array Oper} {o : Oper} {L : Lst} {q : Pd} (h : T P ops o L q) (K : Nat) : TX P ops o K L q :=
  fun M n s0 a s _ hL Q k hk => h M n s0 a s hL Q k fun v s' ⟨e, hq⟩ => hk v s' ⟨Xk.of e K, hq⟩

/-- Who is next in a chain. -/
def nxt : List Nat → Nat → Option Nat
  | x :: y :: r, j => bif Nat.beq x j then some y else nxt (y :: r) j
  | _, _ => none
def pwCh (ops : Array Oper) : List Nat → Bool
  | [] => true
  | x :: r => r.all (fun y => reach ops ops.size y x) && pwCh ops r
/-- A chain: each waits for those ahead of it; what one of it yields the next one alone reads. -/
def okCh (ops : Array Oper) (m : Nat) (ch : List Nat) : Bool :=
  pwCh ops ch && (List.range m).all fun i => match ops[i]? with
    | none => true
    | some o => o.after.toList.all fun e => !Region.binds .any e || match nxt ch e.on with | none => true | some y => Nat.beq y i
theorem okCh_pw {ops : Array Oper} {m : Nat} {ch : List Nat} (h : okCh ops m ch = true) : pwCh ops ch = true := by
  unfold okCh at h; rw [Bool.and_eq_true] at h; exact h.1
theorem okCh_dep {ops : Array Oper} {m : Nat} {ch : List Nat} (h : okCh ops m ch = true) {i : Nat} {o : Oper} (hi : i < m) (ho : ops[i]? = some o) (e : Edge) (he : e ∈ o.after.toList) (hb : Region.binds .any e = true) {y : Nat} (hy : nxt ch e.on = some y) : y = i := by
  unfold okCh at h
  rw [Bool.and_eq_true, List.all_eq_true] at h
  have h1 := h.2 i (by simpa using hi)
  rw [ho] at h1
  have h2 := List.all_eq_true.1 h1 e he
  simp only [hb, hy, Bool.not_true, Bool.false_or] at h2
  exact Nat.eq_of_beq_eq_true h2
theorem nx_done {ops : Array Oper} {p : Nat → Prop} : ∀ (ch : List Nat), pwCh ops ch = true → ∀ c, c ∈ ch → (∀ x, reach ops ops.size c x = true → p x) → (∀ j x, p j → reach ops ops.size j x = true → p x) → ¬ p c → ∀ j, j ∈ ch → p j → ∃ y, nxt ch j = some y ∧ (y = c ∨ p y)
  | [], _, c, hc, _, _, _, _, _, _ => by cases hc
  | x :: r, h, c, hc, h1, h2, hnc, j, hj, hpj => by
    unfold pwCh at h
    rw [Bool.and_eq_true, List.all_eq_true] at h
    rcases List.mem_cons.1 hc with rfl | hc
    · rcases List.mem_cons.1 hj with rfl | hj
      · exact absurd hpj hnc
      · exact absurd (h2 j c hpj (h.1 j hj)) hnc
    · match r, hc, h, hj with
      | y :: r', hc, h, hj =>
        by_cases hjx : x = j
        · subst hjx
          refine ⟨y, by simp [nxt], ?_⟩
          rcases List.mem_cons.1 hc with rfl | hc'
          · exact .inl rfl
          · right
            have h3 := h.2
            unfold pwCh at h3
            rw [Bool.and_eq_true, List.all_eq_true] at h3
            exact h1 y (h3.1 c hc')
        · have hj' : j ∈ y :: r' := (List.mem_cons.1 hj).elim (fun e => absurd e.symm hjx) id
          obtain ⟨z, hz, hzc⟩ := nx_done (y :: r') h.2 c hc h1 h2 hnc j hj' hpj
          refine ⟨z, ?_, hzc⟩
          unfold nxt
          rw [beq_no hjx]; exact hz

/-- What is known at the end: of those of the chain the last one alone. -/
def maskF (ch : List Nat) : Nat → List Pd → List Pd
  | _, [] => []
  | i, q :: qs => (bif (nxt ch i).isSome then Pd.any else q) :: maskF ch (i + 1) qs
def mask (ch : List Nat) (qs : List Pd) : List Pd := maskF ch 0 qs
theorem maskF_get {ch : List Nat} : ∀ (k : Nat) (qs : List Pd) (i : Nat), (maskF ch k qs)[i]? = (qs[i]?).map fun q => bif (nxt ch (k + i)).isSome then Pd.any else q
  | _, [], i => by simp [maskF]
  | k, q :: qs, i => by
    cases i with
    | zero => simp [maskF]
    | succ i => simp only [maskF, List.getElem?_cons_succ]; rw [maskF_get (k + 1) qs i, show k + 1 + i = k + (i + 1) by omega]
theorem mask_at {ch : List Nat} {qs : List Pd} {i : Nat} {q : Pd} {s : St} {v : Value} (hq : (mask ch qs)[i]? = some q) (h : nxt ch i = none → qs[i]? = some q → q.p s v) : q.p s v := by
  unfold mask at hq
  rw [maskF_get, Nat.zero_add] at hq
  obtain ⟨q0, h0, rfl⟩ := Option.map_eq_some_iff.1 hq
  cases hn : nxt ch i with
  | none =>
    rw [hn] at h
    exact h rfl h0
  | some y => trivial

/-- From any state in which some of the first m operations are done, those of F among them. -/
theorem rc_key {P : Program} {ops : Array Oper} {Q : Exit → Act → World → Prop} {M : Nat → Prop} {n : Nat} {s0 : St} {s : St} {L : Lst} (m : Nat) (qs : List Pd) (F : List Nat) (K : Nat) (ch : List Nat) (hK : s0.w.heap.size ≤ K) (hLow : Kp (fun b => K ≤ b) L L) (hch : okCh ops m ch = true)
    (hok : okDraw ops m n (L.map (·.1)) F = true) (hq : qs.length = m) (hm : m ≤ ops.size)
    (hT : ∀ i o q, i < m → ops[i]? = some o → qs[i]? = some q → F.contains i = false → TX P ops o K (depL ops qs o.after.toList L) q ∧ (ch.contains i = false → T P ops o (depL ops qs o.after.toList L) q))
    (hS : ∀ i q, i < m → qs[i]? = some q → ch.contains i = false → ∀ b, q.own b → ¬ K ≤ b)
    (hB : ∀ a' s', Xk K s s' → Has M n s0 a' s' (newL ops (mask ch qs) m L) → wpOps P ops Q (List.range' m (ops.size - m)) a' s'.w) :
    ∀ (f : Nat) (listed : Array Bool) (a : Act) (s' : St), listed.size = ops.size → ((List.range ops.size).filter (fun i => !listed.getD i true)).length = f → Xk K s s' → Has M n s0 a s' L →
      (∀ i o, listed.getD i false = true → ops[i]? = some o → ∀ e ∈ o.after.toList, Region.binds .any e = true → listed.getD e.on false = true) → (∀ i, i < ops.size → m ≤ i → listed.getD i true = false) →
      (∀ i, i < m → listed.getD i true = true → (∀ y, nxt ch i = some y → listed.getD y true = false) → ∀ d q, (ops[i]?).bind (·.dst) = some d → qs[i]? = some q → q.p s' (a.eval (.tmp d))) → (∀ i ∈ F, listed.getD i true = true) → wpAny P .any ops Q f listed a s'.w := by
  have hok' := hok
  unfold okDraw at hok'
  rw [Bool.and_eq_true] at hok'
  obtain ⟨hF, hok'⟩ := hok'
  rw [List.all_eq_true] at hok'
  intro f
  induction f with
  | zero =>
    intro listed a s' hs hc e hL' hcl hn hd hl0
    have hall : ∀ i, i < ops.size → listed.getD i true = true := by
      intro i hi
      have : (List.range ops.size).filter (fun i => !listed.getD i true) = [] := List.length_eq_zero_iff.1 hc
      rw [List.filter_eq_nil_iff] at this
      have := this i (by simpa using hi)
      simpa using this
    have hmm : m = ops.size := by
      rcases Nat.lt_or_ge m ops.size with h | h
      · have := hn m h (Nat.le_refl _); rw [hall m h] at this; cases this
      · omega
    refine wpAny_tail hok 0 ops.size listed a s'.w (by omega) (by omega) hs (fun i hi => by rw [hall i hi]; simp [hi]) ?_
    have := hB a s' e (newL_has hL' m fun i hi d q hdd hqq => mask_at hqq (fun hn hqq => hd i hi (hall i (by omega)) (fun y hy => by rw [hn] at hy; cases hy) d q hdd hqq))
    rw [hmm] at this; simpa using this
  | succ f ih =>
    intro listed a s' hs hc e hL' hcl hn hd hl0
    by_cases hdone : ∀ i, i < m → listed.getD i true = true
    · -- the tail
      have hf : f + 1 = ops.size - m := by
        rw [← hc]
        have h1 : (List.range ops.size).filter (fun i => !listed.getD i true) = List.range' m (ops.size - m) := by
          have e1 : List.range ops.size = List.range' 0 m ++ List.range' m (ops.size - m) := by
            rw [List.range_eq_range', show ops.size = m + (ops.size - m) by omega, ← List.range'_append_1]
            simp
          rw [e1, List.filter_append]
          have e2 : (List.range' 0 m).filter (fun i => !listed.getD i true) = [] := by
            rw [List.filter_eq_nil_iff]; intro i hi; simp at hi; simp [hdone i hi]
          have e3 : (List.range' m (ops.size - m)).filter (fun i => !listed.getD i true) = List.range' m (ops.size - m) := by
            rw [List.filter_eq_self]; intro i hi; simp at hi; simp [hn i (by omega) (by omega)]
          rw [e2, e3, List.nil_append]
        rw [h1]; simp
      refine wpAny_tail hok (f + 1) m listed a s'.w (by omega) (Nat.le_refl _) hs (fun i hi => ?_) ?_
      · by_cases h : i < m
        · simp [h, hdone i h]
        · simp [h, hn i hi (by omega)]
      · rw [hf]; exact hB a s' e (newL_has hL' m fun i hi d q hdd hqq => mask_at hqq (fun hn hqq => hd i hi (hdone i hi) (fun y hy => by rw [hn] at hy; cases hy) d q hdd hqq))
    · have hex : ∃ i, i < m ∧ listed.getD i true = false := by
        have h1 := Classical.not_forall.1 hdone
        obtain ⟨i, hi⟩ := h1
        rw [Classical.not_imp] at hi
        exact ⟨i, hi.1, by simpa using hi.2⟩
      -- what is ready is one of the first m
      have hlow : ∀ i, i ∈ Region.ready .any ops listed → i < m := by
        intro i hi
        obtain ⟨h1, h2, o, ho, h3⟩ := mem_ready.1 hi
        rcases Nat.lt_or_ge i m with h | h
        · exact h
        · exfalso
          obtain ⟨k, hk, hkl⟩ := hex
          have h5 := hok' i (by simpa using h1)
          simp only [ho, Bool.and_eq_true] at h5
          have h6 := h5.2
          rw [if_neg (by omega), List.all_eq_true] at h6
          have h7 := h6 k (by simp; omega)
          have hkF : F.contains k = false := by
            cases hc' : F.contains k
            · rfl
            · have := hl0 k (by simpa using hc'); rw [this] at hkl; cases hkl
          rw [hkF, Bool.false_or] at h7
          have h8 := reach_listed (ops := ops) (p := fun j => listed.getD j false = true) hcl _ i k h7 (fun o' ho' => by rw [ho] at ho'; cases ho'; exact h3)
          have h10 : listed.getD k false = listed.getD k true := by simp [Array.getD, hs, show k < ops.size by omega]
          rw [h10, hkl] at h8
          cases h8
      refine ⟨fun hnil => ?_, fun i hi => ?_⟩
      · -- the least that isn't done is ready
        exfalso
        obtain ⟨k, hk, hmin⟩ := exists_least (p := fun i => i < m ∧ listed.getD i true = false) hex
        obtain ⟨o, ho⟩ : ∃ o, ops[k]? = some o := ⟨ops[k]'(by omega), by simp⟩
        have : k ∈ Region.ready .any ops listed := by
          refine mem_ready.2 ⟨by omega, hk.2, o, ho, fun e he hb => ?_⟩
          have h5 := hok' k (by simp; omega)
          simp only [ho, Bool.and_eq_true] at h5
          have h1 := List.all_eq_true.1 h5.1 e he
          simp only [hb, Bool.not_true, Bool.false_or] at h1
          have h2 : e.on < k := Nat.le_of_ble_eq_true h1
          have h4 : listed.getD e.on false = listed.getD e.on true := by simp [Array.getD, hs, show e.on < ops.size by omega]
          rw [h4]
          by_cases h6 : listed.getD e.on true = true
          · exact h6
          · have := hmin e.on ⟨by omega, by simpa using h6⟩; omega
        rw [hnil] at this; simp at this
      · have him := hlow i hi
        obtain ⟨h1, h2, o, ho, h3⟩ := mem_ready.1 hi
        obtain ⟨q, hqi⟩ : ∃ q, qs[i]? = some q := ⟨qs[i]'(by omega), by simp⟩
        have h5 := hok' i (by simpa using h1)
        have hiF : F.contains i = false := by
          cases hc' : F.contains i
          · rfl
          · have := hl0 i (by simpa using hc'); rw [this] at h2; cases h2
        simp only [ho, Bool.and_eq_true, if_pos him, hiF, Bool.false_or] at h5
        obtain ⟨d, hdst⟩ : ∃ d, o.dst = some d := by
          cases hd' : o.dst with
          | none => rw [hd'] at h5; simp at h5
          | some d => exact ⟨d, rfl⟩
        have h6 := h5.2
        rw [hdst] at h6
        simp only [Bool.and_eq_true] at h6
        have hdep : Has M n s0 a s' (depL ops qs o.after.toList L) := by
          refine depL_has hL' _ fun e' he' hb d' q' hd' hq' => ?_
          have h7 := h3 e' he' hb
          have h8 := List.all_eq_true.1 h5.1 e' he'
          simp only [hb, Bool.not_true, Bool.false_or] at h8
          have h9 : e'.on < i := Nat.le_of_ble_eq_true h8
          have h10 : listed.getD e'.on false = listed.getD e'.on true := by simp [Array.getD, hs, show e'.on < ops.size by omega]
          refine hd e'.on (by omega) (h10 ▸ h7) (fun y hy => ?_) d' q' hd' hq'
          rw [okCh_dep hch him ho e' he' hb hy]; exact h2
        have hrdy : ∀ x, reach ops ops.size i x = true → listed.getD x false = true := fun x hx =>
          reach_listed (ops := ops) (p := fun j => listed.getD j false = true) hcl _ i x hx (fun o' ho' => by rw [ho] at ho'; cases ho'; exact h3)
        have hrcl : ∀ j x, listed.getD j false = true → reach ops ops.size j x = true → listed.getD x false = true := fun j x hj hx =>
          reach_listed (ops := ops) (p := fun j => listed.getD j false = true) hcl _ j x hx (fun o' ho' e he hb => hcl j o' hj ho' e he hb)
        have h2f : listed.getD i false = false := by rw [show listed.getD i false = listed.getD i true by simp [Array.getD, hs, h1]]; exact h2
        have cont : ∀ (v : Value) (s'' : St), Xk K s' s'' → q.p s'' v → (∀ j, j < m → listed.getD j true = true → (∀ y, nxt ch j = some y → (listed.setIfInBounds i true).getD y true = false) → ∀ d' q', (ops[j]?).bind (·.dst) = some d' → qs[j]? = some q' → q'.p s'' (a.eval (.tmp d'))) →
            wpAny P .any ops Q f (listed.setIfInBounds i true) (a.put o.dst v) s''.w := by
          intro v s'' e' hq' hkeep
          have hfresh : lk L d = none := lk_none h6.1.2
          refine ih _ _ s'' (by simpa using hs) ?_ (e.trans e') ?_ ?_ ?_ ?_ ?_
          · -- one fewer
            have hnd : ((List.range ops.size).filter (fun j => !listed.getD j true)).Nodup := List.Nodup.sublist List.filter_sublist List.nodup_range
            have hmem : i ∈ (List.range ops.size).filter (fun j => !listed.getD j true) := List.mem_filter.2 ⟨by simpa using h1, by rw [h2]; rfl⟩
            have e1 : (List.range ops.size).filter (fun j => !(listed.setIfInBounds i true).getD j true) = ((List.range ops.size).filter (fun j => !listed.getD j true)).filter (fun j => j != i) := by
              rw [List.filter_filter]
              refine List.filter_congr fun j hj => ?_
              rw [getD_set (by omega)]
              by_cases hji : j = i <;> simp [hji]
            rw [e1, ← List.Nodup.erase_eq_filter hnd, List.length_erase_of_mem hmem, hc]; rfl
          · have hp := (hL'.xk e' hK hLow).put' (d := d) h6.1.1 hq'
            rw [hdst]
            refine hp.sub fun t q'' hl => hp.at_ t q'' ?_
            unfold lk
            have : d ≠ t := fun he => by rw [he] at hfresh; rw [hfresh] at hl; cases hl
            rw [beq_no this]; exact hl
          · intro j o' hj ho' e2 he2 hb2
            rw [getD_set (by omega)] at hj ⊢
            split
            · rfl
            · by_cases hji : j = i
              · subst hji; rw [ho] at ho'; cases ho'; exact h3 e2 he2 hb2
              · rw [if_neg hji] at hj; exact hcl j o' hj ho' e2 he2 hb2
          · intro j hj hmj
            rw [getD_set (by omega), if_neg (by omega)]; exact hn j hj hmj
          · intro j hj hlj hny d' q'' hd' hq''
            rw [hdst]
            by_cases hji : j = i
            · subst hji
              rw [ho, Option.bind_some, hdst] at hd'
              cases hd'
              rw [hqi] at hq''; cases hq''
              rw [eval_put_same hL'.size h6.1.1]; exact hq'
            · rw [getD_set (by omega), if_neg hji] at hlj
              have h7 := List.all_eq_true.1 h6.2 j (by simpa using hj)
              have h8 : Nat.beq j i = false := beq_no hji
              rw [h8, Bool.false_or, hd'] at h7
              have : d ≠ d' := fun he => by simp [he] at h7
              rw [eval_put_ne this]
              exact hkeep j hj hlj hny d' q'' hd' hq''
          · intro j hj
            rw [getD_set (by omega)]
            split
            · rfl
            · exact hl0 j hj
        have hwk : ∀ y, (listed.setIfInBounds i true).getD y true = false → listed.getD y true = false := fun y hy => by
          rw [getD_set (by omega)] at hy
          by_cases hyi : y = i
          · simp [hyi] at hy
          · rw [if_neg hyi] at hy; exact hy
        obtain ⟨hTX, hTT⟩ := hT i o q him ho hqi hiF
        have hrun : (if Region.wanted o (yielded ops a.tmps) then o.wp P a s'.w (wpAny P .any ops Q f (listed.setIfInBounds i true)) Q else wpAny P .any ops Q f (listed.setIfInBounds i true) (a.put o.dst undef) s'.w) := by
          cases hic : ch.contains i
          · exact hTT hic M n s0 a s' hdep Q _ fun v s'' ⟨e', hq'⟩ => cont v s'' (Xk.of e' K) hq' fun j hj hlj hny d' q' hd' hq'' => Pd.ex e' (hd j hj hlj (fun y hy => hwk y (hny y hy)) d' q' hd' hq'')
          · exact hTX M n s0 a s' hK hdep Q _ fun v s'' ⟨e', hq'⟩ => cont v s'' e' hq' fun j hj hlj hny d' q' hd' hq'' => by
              cases hjc : ch.contains j
              · exact e'.pd (hS j q' hj hq'' hjc) (hd j hj hlj (fun y hy => hwk y (hny y hy)) d' q' hd' hq'')
              · have hlj' : listed.getD j false = true := by rw [show listed.getD j false = listed.getD j true by simp [Array.getD, hs, show j < ops.size by omega]]; exact hlj
                obtain ⟨y, hy, hyi⟩ := nx_done (p := fun x => listed.getD x false = true) (ops := ops) ch (okCh_pw hch) i (by simpa using hic) hrdy hrcl (by rw [h2f]; decide) j (by simpa using hjc) hlj'
                have := hny y hy
                rw [getD_set (by omega)] at this
                rcases hyi with rfl | hyl
                · simp at this
                · by_cases hyi : y = i
                  · simp [hyi] at this
                  · rw [if_neg hyi] at this
                    have hys : y < ops.size := by
                      rcases Nat.lt_or_ge y listed.size with h | h
                      · omega
                      · simp [Array.getD, Nat.not_lt.2 h] at hyl
                    rw [show listed.getD y true = listed.getD y false by simp [Array.getD, hs, hys]] at this
                    rw [hyl] at this; cases this
        unfold wpOp
        simp only [ho]
        by_cases hw : Region.wanted o (yielded ops a.tmps) = true
        · rw [if_pos hw] at hrun ⊢; exact .inl hrun
        · rw [if_neg hw] at hrun ⊢; exact hrun

/-- What is done at the start is of F (as in fl_end). -/
theorem rc_end {P : Program} {ops : Array Oper} {Q : Exit → Act → World → Prop} {M : Nat → Prop} {n : Nat} {s0 : St} {a : Act} {s : St} {L : Lst} {f : Nat} {listed : Array Bool} (m : Nat) (qs : List Pd) (F : List Nat) (K : Nat) (ch : List Nat) (hK : s0.w.heap.size ≤ K) (hLow : Kp (fun b => K ≤ b) L L) (hch : okCh ops m ch = true) (hL : Has M n s0 a s L)
    (hok : okDraw ops m n (L.map (·.1)) F = true) (hst : okStart ops listed m F = true) (hc : ((List.range ops.size).filter (fun i => !listed.getD i true)).length = f) (hfl : FlOk ops qs L F) (hq : qs.length = m) (hm : m ≤ ops.size)
    (hT : ∀ i o q, i < m → ops[i]? = some o → qs[i]? = some q → F.contains i = false → TX P ops o K (depL ops qs o.after.toList L) q ∧ (ch.contains i = false → T P ops o (depL ops qs o.after.toList L) q))
    (hS : ∀ i q, i < m → qs[i]? = some q → ch.contains i = false → ∀ b, q.own b → ¬ K ≤ b)
    (hB : ∀ a' s', Xk K s s' → Has M n s0 a' s' (newL ops (mask ch qs) m L) → wpOps P ops Q (List.range' m (ops.size - m)) a' s'.w) : wpAny P .any ops Q f listed a s.w := by
  unfold okStart at hst
  rw [Bool.and_eq_true, List.all_eq_true] at hst
  obtain ⟨h1, h2⟩ := hst
  have hsz := Nat.eq_of_beq_eq_true h1
  have hg : ∀ i, i < ops.size → listed.getD i true = F.contains i := fun i hi => by
    have := h2 i (by simpa using hi)
    rw [Bool.and_eq_true] at this
    exact eq_of_beq this.1
  have hgf : ∀ i, i < ops.size → listed.getD i false = listed.getD i true := fun i hi => by simp [Array.getD, hsz, hi]
  have hFm : ∀ i ∈ F, i < m := by
    unfold okDraw at hok
    rw [Bool.and_eq_true, List.all_eq_true] at hok
    exact fun i hi => Nat.le_of_ble_eq_true (hok.1 i hi)
  refine rc_key m qs F K ch hK hLow hch hok hq hm hT hS hB f listed a s hsz hc (Xk.of (Ex.refl s) K) hL ?_ ?_ ?_ ?_
  · intro i o hi ho e he hb
    have hlt : i < ops.size := (Array.getElem?_eq_some_iff.1 ho).1
    rw [hgf i hlt, hg i hlt] at hi
    have := h2 i (by simpa using hlt)
    rw [Bool.and_eq_true, hi, ho] at this
    have h3 := this.2
    simp only [Bool.not_true, Bool.false_or, Bool.and_eq_true, List.all_eq_true] at h3
    have h4 := h3.2 e he
    simp only [hb, Bool.not_true, Bool.false_or, Bool.and_eq_true] at h4
    have h5 : e.on < ops.size := Nat.le_of_ble_eq_true h4.2
    rw [hgf _ h5, hg _ h5]; exact h4.1
  · intro i hi hmi
    rw [hg i hi]
    cases hcF : F.contains i
    · rfl
    · have := hFm i (by simpa using hcF); omega
  · intro i hi hl _ d q hd hqi
    rw [hg i (by omega)] at hl
    obtain ⟨o, d', q', ho, hd', hq', hlk⟩ := hfl.at i (by simpa using hl)
    rw [ho, Option.bind_some, hd'] at hd
    rw [hq'] at hqi
    cases hd; cases hqi
    exact hL.get _ hlk
  · intro i hi
    have := hFm i hi
    rw [hg i (by omega)]; simpa using hi

/-- The typed operations of such a region, one by one. -/
def AllX (P : Program) (ops : Array Oper) (qs0 : List Pd) (L : Lst) (F : List Nat) (K : Nat) (ch : List Nat) : Nat → List Oper → List Pd → Prop
  | _, _, [] => True
  | _, [], _ :: _ => False
  | i, o :: l, q :: qs => (F.contains i = false → TX P ops o K (depL ops qs0 o.after.toList L) q ∧ (ch.contains i = false → T P ops o (depL ops qs0 o.after.toList L) q)) ∧ (ch.contains i = false → ∀ b, q.own b → ¬ K ≤ b) ∧ AllX P ops qs0 L F K ch (i + 1) l qs
theorem AllX.at {P : Program} {ops : Array Oper} {qs0 : List Pd} {L : Lst} {F : List Nat} {K : Nat} {ch : List Nat} : ∀ (k : Nat) (l : List Oper) (qs : List Pd), AllX P ops qs0 L F K ch k l qs → ∀ (i : Nat) (o : Oper) (q : Pd), l[i]? = some o → qs[i]? = some q →
    (F.contains (k + i) = false → TX P ops o K (depL ops qs0 o.after.toList L) q ∧ (ch.contains (k + i) = false → T P ops o (depL ops qs0 o.after.toList L) q)) ∧ (ch.contains (k + i) = false → ∀ b, q.own b → ¬ K ≤ b)
  | _, _, [], _, i, o, q, _, hq => by simp at hq
  | _, [], _ :: _, h, _, _, _, _, _ => h.elim
  | k, o' :: l, q' :: qs, h, i, o, q, ho, hq => by
    cases i with
    | zero => simp only [List.getElem?_cons_zero, Option.some.injEq] at ho hq; subst ho; subst hq; exact ⟨h.1, h.2.1⟩
    | succ i =>
      simp only [List.getElem?_cons_succ] at ho hq
      have := AllX.at (k + 1) l qs h.2.2 i o q ho hq
      rwa [show k + 1 + i = k + (i + 1) by omega] at this
section
variable {P : Program} {ops : Array Oper} {qs0 : List Pd} {L : Lst} {F : List Nat} {K : Nat} {ch : List Nat} {i : Nat} {o : Oper} {l : List Oper} {q : Pd} {qs : List Pd}
theorem AllX.t (h : T P ops o (depL ops qs0 o.after.toList L) q) (hs : ∀ b, q.own b → ¬ K ≤ b) (h2 : AllX P ops qs0 L F K ch (i + 1) l qs) : AllX P ops qs0 L F K ch i (o :: l) (q :: qs) := ⟨fun _ => ⟨h.x K, fun _ => h⟩, fun _ => hs, h2⟩
theorem AllX.c (h : T P ops o (depL ops qs0 o.after.toList L) q) (hc : ch.contains i = true) (h2 : AllX P ops qs0 L F K ch (i + 1) l qs) : AllX P ops qs0 L F K ch i (o :: l) (q :: qs) := ⟨fun _ => ⟨h.x K, fun _ => h⟩, fun h' => (by rw [hc] at h'; cases h'), h2⟩
theorem AllX.x (h : TX P ops o K (depL ops qs0 o.after.toList L) q) (hc : ch.contains i = true) (h2 : AllX P ops qs0 L F K ch (i + 1) l qs) : AllX P ops qs0 L F K ch i (o :: l) (q :: qs) := ⟨fun _ => ⟨h, fun h' => (by rw [hc] at h'; cases h')⟩, fun h' => (by rw [hc] at h'; cases h'), h2⟩
theorem AllX.skip (h : F.contains i = true) (hs : ∀ b, q.own b → ¬ K ≤ b) (h2 : AllX P ops qs0 L F K ch (i + 1) l qs) : AllX P ops qs0 L F K ch i (o :: l) (q :: qs) := ⟨fun h' => (by rw [h] at h'; cases h'), fun _ => hs, h2⟩
theorem AllX.nil : AllX P ops qs0 L F K ch i l [] := by cases l <;> trivial
end
theorem rc_go {P : Program} {l : List Oper} {Q : Exit → Act → World → Prop} {M : Nat → Prop} {n : Nat} {s0 : St} {a : Act} {s : St} {L : Lst} {f : Nat} {listed : Array Bool} (m : Nat) (qs : List Pd) (F : List Nat) (K : Nat) (ch : List Nat) (hK : s0.w.heap.size ≤ K) (hL : Has M n s0 a s L) (hLow : Kp (fun b => K ≤ b) L L) (hch : okCh l.toArray m ch = true)
    (hok : okDraw l.toArray m n (L.map (·.1)) F = true) (hst : okStart l.toArray listed m F = true) (hc : ((List.range l.toArray.size).filter (fun i => !listed.getD i true)).length = f) (hfl : FlOk l.toArray qs L F) (hq : Nat.beq qs.length m = true) (hm : Nat.ble m l.length = true)
    (hT : AllX P l.toArray qs L F K ch 0 l qs)
    (hB : ∀ a' s', Xk K s s' → Has M n s0 a' s' (newL l.toArray (mask ch qs) m L) → wpList P l.toArray Q (l.drop m) a' s'.w) : wpAny P .any l.toArray Q f listed a s.w := by
  refine rc_end m qs F K ch hK hLow hch hL hok hst hc hfl (Nat.eq_of_beq_eq_true hq) (by simpa using Nat.le_of_ble_eq_true hm) (fun i o q _ ho hq hF => ?_) (fun i q hi hq => ?_) fun a' s' e h => ?_
  · have := (AllX.at 0 l qs hT i o q (by simpa using ho) hq).1
    rw [Nat.zero_add] at this; exact this hF
  · have hil : i < l.length := by have := Nat.le_of_ble_eq_true hm; omega
    have := (AllX.at 0 l qs hT i (l[i]) q (List.getElem?_eq_getElem hil) hq).2
    rw [Nat.zero_add] at this; exact this
  · have := hB a' s' e h
    rw [← wpOps_eq_wpList (l.drop m) m (fun j => by simp)] at this
    simpa using this

/-- An append to a new row at no fixed time. -/
theorem t_appx {P : Program} {ops : Array Oper} {o : Oper} {L : Lst} {α : Type} {E : En α} {t te : TypeId} {N K : Nat} {x y : Operand} {xs ys : List α} (hx : Opn L x (Pd.erow E N K te xs)) (hy : Opn L y (Pd.rep (En.slice E) ys)) (ht : P.underlying t = some (.slice te)) (hE : Ty P te E) (hN : N ≤ K) (hlen : xs.length + ys.length ≤ 2147483648) {m : Nat} (hk : lk L m = some (Pd.ge K))
    (ho : o.op = .call { callee := .builtin .append, args := #[x, y], argTypes := #[t, t] }) (hg : o.guard = none) : TX P ops o K L (Pd.erow E N K te (xs ++ ys)) := fun M n s0 a s hK hL Q k hkk => by
  have hKs : K ≤ s.w.heap.size := hL.get m hk
  obtain ⟨og, h1, h2⟩ := hx M n s0 a s hL
  have hu := rep_slice.1 (hy M n s0 a s hL)
  obtain ⟨v', s', og', hr, e, hq, hf⟩ := run_app ht hE h2 hu (Nat.le_trans hN hKs) hlen o.type
  simp only [Region.wanted, hg, if_true]
  unfold Oper.wp execOp
  simp only [ho, resolve, invoke, builtin, Sem.run_bind, Sem.run_pure, Result.andThen_ok, List.map_toArray, List.map_cons, List.map_nil, hr]
  refine hkk v' s' ⟨⟨⟨e.mv.os, e.mv.tape, e.mv.output, e.mv.size, fun b hb hn => e.mv.blk b hb (fun he => hn ⟨h1 b he, e.mv.tx b he⟩), fun b hb => hb.2, e.mv.xx⟩, fun b hb hX => e.keep b hX (fun he => by have := h1 b he; omega)⟩, og', fun b hb => (hf b hb).elim (fun h => h1 b h) (fun h => Nat.le_trans hKs h), hq⟩

/-- make of a length that was reckoned. -/
theorem st_makev {P : Program} {ops : Array Oper} {o : Oper} {L : Lst} {Q : Exit → Act → World → Prop} {rest : List Oper} {M : Nat → Prop} {n : Nat} {s0 : St} {a : Act} {s : St} {α : Type} (E : En α) {z : α} {t te : TypeId} {l c : Operand} {kl kc : IntKind} {m : Int} (d : Nat) (hL : Has M n s0 a s L) (hl : Opn L l (Pd.rep (En.int kl) m)) (hc : Opn L c (Pd.rep (En.int kc) m)) (hm : 0 ≤ m ∧ m ≤ 16777216)
    (ht : P.underlying t = some (.slice te)) (hE : Ty P te E) (hz : TyZ P te E z) (ho : o.op = .makeSlice t l c) (hg : o.guard = none) (hd : o.dst = some d) (hn : Nat.blt d n = true)
    (k : ∀ a' s' g, s.w.heap.size ≤ g → Has M n s0 a' s' ((d, Pd.row E s0.w.heap.size te (some g) (List.replicate m.toNat z)) :: L) → wpList P ops Q rest a' s'.w) : wpList P ops Q (o :: rest) a s.w := by
  obtain ⟨k0, rfl⟩ : ∃ k0 : Nat, m = k0 := ⟨m.toNat, by omega⟩
  rw [Int.toNat_natCast] at k
  exact st_make E d hL hl hc (by omega) ht hE hz ho hg hd hn k
end Go.Proofs.YtdfnbogkniikbaaDoor.V
