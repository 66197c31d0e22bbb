/-
  The texts that the law's proof needs, part 2.
-/
import Derived.BigCall
import Derived.Lib.AppendIntMem
import Derived.Lib.ItoaLen
import Derived.Lib.ItoaNum
import Derived.Shelf.LaysM
import Derived.Shelf.SlLaysF0
import Derived.Shelf.Strconv.Itoa3
import Derived.Shelf.Strings.BuilderK
import Derived.WalkKit
import Derived.Test.YtdidjelkkanenaaDoorNextFramesP1
namespace Go.Proofs.YtdidjelkkanenaaDoor.V
open Go Go.MapKept
set_option linter.unusedVariables false
theorem y_from {P : Program} {o : Oper} {L : Lst} {α : Type} {E : En α} {xs : List α} {k : IntKind} {i : Int} {y z : Operand} {t te : TypeId} (hy : Opn L y (Pd.rep (En.slice E) xs)) (hz : Opn L z (Pd.rep (En.int k) i)) (hi : 0 ≤ i ∧ i ≤ (xs.length : Int)) (ht : P.underlying t = some (.slice te)) (hE : Ty P te E)
    (ho : o.op = .slice t y (some z) none none) (hg : o.guard = none) : TY P o L (Pd.rep (En.slice E) (xs.drop i.toNat)) :=
  ⟨hg, fun M n s0 ac s hL => by
    obtain ⟨ad, cap, hv, h1, h2, h3, h4⟩ := rep_slice.1 (hy M n s0 ac s hL)
    have hiv := (rep_int.1 (hz M n s0 ac s hL)).1
    refine ⟨.slice (if cap = i.toNat then ad else ad.map (·.add (i.toNat * E.sz))) (xs.length - i.toNat) (cap - i.toNat), fun w => ?_, rep_slice.2 ⟨_, _, by rw [List.length_drop], by rw [List.length_drop]; omega, fun hn => ?_, by rw [List.length_drop]; omega, fun hne => ?_⟩⟩
    · unfold execOp; rw [ho]
      simp only [hv, hiv, Option.map_some, Option.map_none, Instr.sliceAt, Sem.run_bind, run_underlying ht, Result.andThen_ok, Instr.slice, Instr.sliceBounds, Instr.sliceBound, asIntOf, Sem.run_pure]
      rw [if_pos (by omega)]
      simp [run_sizeOfE hE]
    · split at hn
      · omega
      · cases ad with
        | none => have := h2 rfl; omega
        | some a => cases hn
    · have hlt : i.toNat < xs.length := by
        rcases Nat.lt_or_ge i.toNat xs.length with h | h
        · exact h
        · exact absurd (List.drop_of_length_le h) hne
      obtain ⟨b, off, css, e1, hb, hEl, hc⟩ := h4 (by intro h; rw [h] at hlt; simp at hlt)
      refine ⟨b, off + i.toNat * E.sz, css.drop i.toNat, ?_, hb, els_drop hEl _, ?_⟩
      · rw [if_neg (by omega), e1]; simp [add_lit]
      · intro j u hu
        rw [flat_drop hEl.lens _ (by rw [hEl.1]; omega), List.getElem?_drop] at hu
        rw [Nat.add_assoc]; exact hc _ u hu⟩
theorem t_gidxb {P : Program} {ops : Array Oper} {o : Oper} {L : Lst} {g : Nat} {xs : List Bool} {b : Bool} {k : IntKind} {i : Int} {y : Operand} {t te : TypeId} {n : Nat} (hm : (g, xs.map Value.bool) ∈ gtab) (hn : xs.length = n) (hy : Opn L y (Pd.rep (En.int k) i)) (he : at? xs i = some b)
    (ht : P.underlying t = some (.array n te)) (hi : (P.info? te).map (·.size) = some 1) (ho : o.op = .indexAddr t (.global g) y) (hg : o.guard = none) : T P ops o L (Pd.ptr En.bool b) :=
  T.pure hg fun M n0 s0 ac s hL => by
    have hi' := (rep_int.1 (hy M n0 s0 ac s hL)).1
    obtain ⟨hX, tt, fr, hb⟩ := hL.gls.1 _ hm
    simp only at hX hb
    unfold at? at he
    split at he
    case isFalse => cases he
    rename_i h0
    have hlt : i.toNat < xs.length := (List.getElem?_eq_some_iff.1 he).1
    obtain ⟨inf, h1, h2⟩ : ∃ i, P.info? te = some i ∧ i.size = 1 := by
      cases h : P.info? te with
      | none => rw [h] at hi; cases hi
      | some i => rw [h] at hi; exact ⟨i, rfl, by simpa using hi⟩
    have hsz : ∀ w : World, (sizeOf te).run P w = .ok 1 w := fun w => by simp [sizeOf, typeInfo, h1, h2]
    refine ⟨.pointer (some ⟨g, i.toNat, none⟩), ?_, g, i.toNat, [.bool b], rfl, ⟨(Array.getElem?_eq_some_iff.1 hb).1, hX⟩, ?_, rfl⟩
    · unfold execOp; rw [ho]
      have hgv : ac.eval (.global g) = .pointer (some ⟨g, 0, none⟩) := rfl
      simp only [hgv, hi', Instr.indexAt, asIntOf, Sem.run_bind, Sem.run_pure, Result.andThen_ok, run_underlying ht, Instr.sureAddr]
      rw [if_pos (by omega)]
      simp [hsz, add_lit]
    · intro j u hj
      cases j with
      | zero =>
        simp at hj; subst hj
        rw [Nat.add_zero, cell_of_row s.w g _ _ tt fr hb]
        simp [List.getElem?_map, he]
      | succ j => simp at hj
def En.mref : En (Option Nat) where
  sz := 1
  agg := false
  R := fun _ _ cs x => cs = [.map x]
  sc := fun _ => rfl
  pos := Nat.one_pos
  len := by rintro _ _ _ _ rfl; rfl
  one := by rintro _ _ _ _ rfl u hu; simp at hu; subst hu; rfl
  mono := fun _ h => h
  move := fun _ h => h
theorem rep_mref {x : Option Nat} {s : St} {v : Value} : (Pd.rep En.mref x).p s v ↔ v = .map x :=
  ⟨fun ⟨_, hv, hc⟩ => by cases hc; exact hv, fun hv => ⟨[.map x], hv, rfl⟩⟩
section
variable {κ ν : Type} {K : En κ} {kv : κ → Value} {E : En ν}
def Mc (K : En κ) (kv : κ → Value) (E : En ν) (g : Nat) (xs : List (κ × ν)) (s : St) : Prop := s.X g ∧ ∃ es clock ys, s.w.heap[g]? = some (.map es clock) ∧ MpR K kv E s.w (foot s) es clock ys ∧ ys.Perm xs
theorem Mc.mv {g : Nat} {xs : List (κ × ν)} {T : Nat → Prop} {s s' : St} (h : Mv T s s') (hb : ¬ T g ∧ (s.X g → s'.X g)) (hp : Mc K kv E g xs s) : Mc K kv E g xs s' := by
  obtain ⟨hX, es, clock, ys, hg, hM, hpm⟩ := hp
  refine ⟨hb.2 hX, es, clock, ys, ?_, hM.go h, hpm⟩
  rw [h.blk g (Array.getElem?_eq_some_iff.1 hg).1 hb.1]; exact hg
def Pd.mapc (K : En κ) (kv : κ → Value) (E : En ν) (g : Nat) (xs : List (κ × ν)) : Pd := ⟨fun s _ => Mc K kv E g xs s, fun b => some g = some b, fun h hb hp => hp.mv h (hb g rfl)⟩
theorem Has.mapc {M : Nat → Prop} {n : Nat} {s0 : St} {a : Act} {s : St} {L : Lst} {N g : Nat} {xs : List (κ × ν)} (h : Has M n s0 a s L) (t m : Nat) (hl : lk L t = some (Pd.map K kv E N (some g) xs)) : Has M n s0 a s ((t, Pd.rep En.mref (some g)) :: (m, Pd.mapc K kv E g xs) :: L) := by
  obtain ⟨g', e, hv, hN, hX, es, clock, ys, hg, hM, hp⟩ := h.get t hl
  cases e
  exact (h.cons (q := Pd.mapc K kv E g xs) m ⟨hX, es, clock, ys, hg, hM, hp⟩).cons t (rep_mref.2 hv)
theorem Mc.map {g N : Nat} {xs : List (κ × ν)} {s : St} (h : Mc K kv E g xs s) (hN : N ≤ g) : (Pd.map K kv E N (some g) xs).p s (.map (some g)) := by
  obtain ⟨hX, es, clock, ys, hg, hM, hp⟩ := h
  exact ⟨g, rfl, rfl, hN, hX, es, clock, ys, hg, hM, hp⟩
end
section
variable {κ ν : Type} [DecidableEq κ] {K : En κ} {kv : κ → Value} {E : En ν} {P : Program} {ops : Array Oper} {o : Oper} {L L' : Lst} {t kt et : TypeId} {g : Nat} {Q : Exit → Act → World → Prop} {rest : List Oper} {M : Nat → Prop} {n : Nat} {s0 : St} {a : Act} {s : St}
theorem t_mgetcok {m : Nat} {xs : List (κ × ν)} {k : κ} {z : ν} {x y : Operand} (hm : lk L m = some (Pd.mapc K kv E g xs)) (hx : Opn L x (Pd.rep En.mref (some g))) (hy : Opn L y (Pd.rep K k)) (ht : P.underlying t = some (.map kt et)) (hK : KeyT P kt K kv) (hz : TyV P et E z)
    (ho : o.op = .lookup t x y true) (hg : o.guard = none) : T P ops o L (Pd.tup2 (Pd.rep E (mget xs k z)) (Pd.rep En.bool (mhas xs k))) :=
  T.pure hg fun M n s0 a s hL => by
    obtain ⟨hX, es, clock, ys, hgb, hM, hp⟩ := hL.get m hm
    have hv := rep_mref.1 (hx M n s0 a s hL)
    obtain ⟨cs, hkv, hkR⟩ := hy M n s0 a s hL
    rw [hK.val hkR] at hkv
    obtain ⟨i, zc, hz1, hz2, hz3⟩ := hz.zero
    have hzr : (zeroValue et).run P s.w = .ok (E.val zc) s.w := by simp [zeroValue, typeInfo, hz1, hz2]
    rcases hM.look hK k with ⟨h1, h2⟩ | ⟨j, e, v, cs', h1, h2, h3, h4, h5⟩
    · rw [mhas_perm hp] at h2
      refine ⟨.tuple #[E.val zc, .bool (mhas xs k)], ?_, _, _, rfl, ⟨zc, rfl, by rw [mget_no h2]; exact hz3 _ _⟩, rep_bool.2 rfl⟩
      unfold execOp; rw [ho]
      simp only [hv, hkv]
      simp [Instr.lookup, run_underlying ht, Go.MapKept.run_getObj_map hgb, hK.check, h1, hzr, h2, Result.andThen]
    · rw [mhas_perm hp] at h2
      refine ⟨.tuple #[e.val, .bool (mhas xs k)], ?_, _, _, rfl, ⟨cs', h4, by rw [← mget_perm (hM.kn hK) hp, h3]; exact h5⟩, rep_bool.2 rfl⟩
      unfold execOp; rw [ho]
      simp only [hv, hkv]
      simp [Instr.lookup, run_underlying ht, Go.MapKept.run_getObj_map hgb, hK.check, h1, h2, Result.andThen]
theorem st_mputc {m : Nat} {xs : List (κ × ν)} {k : κ} {v1 : ν} {x y z : Operand} (hL : Has M n s0 a s L) (hm : lk L m = some (Pd.mapc K kv E g xs)) (hMg : M g ∨ s0.w.heap.size ≤ g) (hx : Opn L x (Pd.rep En.mref (some g))) (hy : Opn L y (Pd.rep K k)) (hz : Opn L z (Pd.rep E v1))
    (ht : P.underlying t = some (.map kt et)) (hK : KeyT P kt K kv) (ho : o.op = .mapUpdate t x y z ∨ o.op = .insert t x y z) (hg : o.guard = none) (hd : o.dst = none)
    (hk : Kp (fun b => some g = some b) L L') (kk : ∀ s', Has M n s0 a s' ((m, Pd.mapc K kv E g (mput xs k v1)) :: L') → wpList P ops Q rest a s'.w) : wpList P ops Q (o :: rest) a s.w := by
  have hxv : (Pd.map K kv E 0 (some g) xs).p s (.map (some g)) := (hL.get m hm : Mc K kv E g xs s).map (Nat.zero_le _)
  have hv := rep_mref.1 (hx M n s0 a s hL)
  obtain ⟨s', hr, hE, hXX, hp⟩ := run_mput (P := P) hxv (hy M n s0 a s hL) (hz M n s0 a s hL) ht hK
  refine wpList_plain hg fun K' hK' => ?_
  unfold Oper.wp execOp
  have h2 : wpList P ops Q rest a s'.w := by
    refine kk s' ((hL.efg hE (fun b hb => by cases hb; exact hMg) (fun b _ hb => hXX b hb) hk).cons m ?_)
    obtain ⟨g', e, _, _, hX, es, clock, ys, hg, hM, hp⟩ := hp
    cases e
    exact ⟨hX, es, clock, ys, hg, hM, hp⟩
  rcases ho with ho | ho
  all_goals
    simp only [ho, hv, Sem.run_bind, hr, Result.andThen_ok, Sem.run_pure]
    refine hK' _ _ ?_
    simp only [hd]
    exact h2
end
structure Fc {κ ν ι : Type} (P : Program) (f : FuncId) (K : En κ) (kv : κ → Value) (E : En ν) (g : Nat) (xs : List (κ × ν)) (qs : List Pd) (Q : ι → Prop) (q : ι → Pd) (ys : ι → List (κ × ν)) : Prop where
  call : ∀ (args : Array Value) (w : World), (callFunc f args).run P w = .ok (.enter f args) w
  run : ∀ s vs, Gl s → Mc K kv E g xs s → Vals s qs vs → Calls P f vs.toArray s.w fun e w' => ∃ v s' i, e = .returned v ∧ s'.w = w' ∧ Fr (fun b => some g = some b) s s' ∧ Q i ∧ (q i).p s' v ∧ Mc K kv E g (ys i) s'
section
variable {κ ν ι : Type} {K : En κ} {kv : κ → Value} {E : En ν} {Qi : ι → Prop} {q : ι → Pd} {ys : ι → List (κ × ν)}
def Rc (K : En κ) (kv : κ → Value) (E : En ν) (g : Nat) (Qi : ι → Prop) (q : ι → Pd) (ys : ι → List (κ × ν)) : St → St → Value → Prop := fun _ s' v => ∃ i, Qi i ∧ (q i).p s' v ∧ Mc K kv E g (ys i) s'
theorem fc_of {P : Program} {f : FuncId} {fn : Func} {cd : Code} {n g : Nat} {qs : List Pd} {xs : List (κ × ν)} (hf : P.funcs[f]? = some fn) (hb : fn.body = some cd) (hn : fn.ntmps = n) (hm : (fn.name == "runtime.NumGoroutine") = false) (hq : qs.length ≤ n)
    (h : ∀ s0 a, Has (fun b => some g = some b) n s0 a s0 ((999902, Pd.mapc K kv E g xs) :: num 0 qs) → cd.wp P (bodyPost P fn (Pst (fun b => some g = some b) (Rc K kv E g Qi q ys) s0)) a s0.w) : Fc P f K kv E g xs qs Qi q ys where
  call := fun args w => by
    have hm' : ¬ fn.name = "runtime.NumGoroutine" := by simpa using hm
    simp [callFunc, hf, hm', hb]
  run := fun s vs hg hgh hv => by
    have hl := vals_len hv
    have h0 : Has (fun b => some g = some b) n s { tmps := vs.toArray ++ Array.replicate (fn.ntmps - vs.toArray.size) undef, defers := [] } s (num 0 qs) := by
      refine ⟨?_, rfl, Fr.refl (fun b hb => by cases hb; exact hgh.1), hg, fun t q ht => ?_⟩
      · simp [hn, hl]; omega
      · obtain ⟨v, _, h2, h3⟩ := num_vals hv 0 t q ht
        have : (({ tmps := vs.toArray ++ Array.replicate (fn.ntmps - vs.toArray.size) undef, defers := [] } : Act).eval (.tmp t)) = v := by
          simp only [Nat.sub_zero] at h2
          have hlt : t < vs.length := (List.getElem?_eq_some_iff.1 h2).1
          simp only [Act.eval]
          rw [Array.getD_eq_getD_getElem?, Array.getElem?_append_left (by simpa using hlt)]
          simp [h2]
        rw [this]; exact h3
    refine (calls_of_wp hf hb (h s _ (h0.cons 999902 hgh))).mono ?_
    rintro e w' ⟨v, s', he, hw, hfr, i, h1, h2, h3⟩
    exact ⟨v, s', i, he, hw, hfr, h1, h2, h3⟩
section
variable {P : Program} {ops : Array Oper} {o : Oper} {L L' : Lst} {Q : Exit → Act → World → Prop} {rest : List Oper} {M : Nat → Prop} {n : Nat} {s0 : St} {a : Act} {s : St} {g : Nat}
theorem retc {fn : Func} {t : Nat} (i : ι) (hQ : Qi i) (hr : fn.results = #[.tmp t]) (hL : Has M n s0 a s L) (hl : lk L t = some (q i)) (hm : lk L 999902 = some (Pd.mapc K kv E g (ys i))) : bodyPost P fn (Pst M (Rc K kv E g Qi q ys) s0) .ret a s.w :=
  ret1 hr hL ⟨i, hQ, hL.get t hl, hL.get 999902 hm⟩
theorem st_callc {f : FuncId} {zs : List Operand} {qs : List Pd} {ats : Array TypeId} {xs : List (κ × ν)} (d m : Nat) (hL : Has M n s0 a s L) (hf : Fc P f K kv E g xs qs Qi q ys) (hm : lk L m = some (Pd.mapc K kv E g xs)) (hMg : M g ∨ s0.w.heap.size ≤ g) (hx : Opns L zs qs)
    (ho : o.op = .call { callee := .value (.func f), args := zs.toArray, argTypes := ats }) (hg : o.guard = none) (hd : o.dst = some d) (hn : Nat.blt d n = true) (hk : Kp (fun b => some g = some b) L L')
    (k : ∀ a' s' i, Qi i → Has M n s0 a' s' ((d, q i) :: (m, Pd.mapc K kv E g (ys i)) :: L') → wpList P ops Q rest a' s'.w) : wpList P ops Q (o :: rest) a s.w := by
  have hcall := hf.call (zs.map a.eval).toArray s.w
  have e : (execOp a.eval o).run P s.w = .ok (.enter f (zs.map a.eval).toArray) s.w := by
    have e : execOp a.eval o = callFunc f (#[] ++ (zs.toArray).map a.eval ++ #[]) := by unfold execOp; rw [ho]; rfl
    rw [e]; simpa using hcall
  refine wpList_plain hg fun K hK => ?_
  unfold Oper.wp
  rw [e, Oper.upon_enter]
  refine (hf.run s _ hL.gls (hL.get m hm) (hx.vals hL)).mono fun en w' ⟨v, s', i, he, hw, hfr, hQ, hp, hmc⟩ => ?_
  subst he; subst hw
  refine hK _ _ ?_
  rw [hd]
  have hE : Ef (fun b => some g = some b) s s' := ⟨hfr.mv, fun b hb _ => hfr.keep b hb⟩
  exact k _ s' i hQ (((hL.efg hE (fun b hb => by cases hb; exact hMg) (fun b _ hb => hfr.keep b hb) hk).cons m hmc).put' hn hp)
theorem t_nc {q : Pd} {x : Operand} (hx : Opn L x q) (hp : ∀ s v, q.p s v → ∃ p, v = .pointer (some p)) (ho : o.op = .nilCheck x) (hg : o.guard = none) : T P ops o L q :=
  T.pure hg fun M n s0 a s hL => by
    have h := hx M n s0 a s hL
    obtain ⟨p, hv⟩ := hp _ _ h
    refine ⟨a.eval x, ?_, h⟩
    unfold execOp; rw [ho]
    simp [hv]
theorem ptr_some {α : Type} {E : En α} {x : α} : ∀ s v, (Pd.ptr E x).p s v → ∃ p, v = .pointer (some p) := fun s v ⟨b, o, cs, hv, _⟩ => ⟨_, hv⟩
end
end
def remL {ν : Type} (es : List MapEntry) (seen : Array Nat) (ys : List ν) : List ν := ((es.zip ys).filter (fun q => !seen.contains q.1.born)).map (·.2)
theorem rem_perm {ν : Type} (seen : Array Nat) : ∀ (es : List MapEntry) (ys : List ν) (i : Nat) (e : MapEntry) (p : ν), (es.map (·.born)).Nodup → es[i]? = some e → ys[i]? = some p → seen.contains e.born = false → (remL es seen ys).Perm (p :: remL es (seen.push e.born) ys)
  | [], _, i, e, p, _, h, _, _ => by simp at h
  | _ :: _, [], i, e, p, _, _, h, _ => by simp at h
  | e0 :: es, y0 :: ys, i, e, p, hn, he, hp, hs => by
    rw [List.map_cons, List.nodup_cons] at hn
    have hc : ∀ (b : Nat), (seen.push e.born).contains b = (seen.contains b || b == e.born) := fun b => by
      rw [Bool.eq_iff_iff]; simp
    cases i with
    | zero =>
      simp at he hp
      subst he; subst hp
      have h1 : remL es (seen.push e0.born) ys = remL es seen ys := by
        unfold remL
        congr 1
        apply List.filter_congr
        intro q hq
        have : q.1.born ≠ e0.born := fun h => hn.1 (by rw [← h]; exact List.mem_map_of_mem (List.of_mem_zip hq).1)
        simp [this]
      unfold remL at h1 ⊢
      simp only [List.zip_cons_cons, List.filter_cons, hs, hc, Bool.not_false, if_true, beq_self_eq_true, Bool.or_true, Bool.not_true]
      simp only [List.map_cons]
      simp only [hc] at h1
      rw [if_neg (by simp), h1]
    | succ i =>
      simp at he hp
      have ih := rem_perm seen es ys i e p hn.2 he hp hs
      have hne : e0.born ≠ e.born := fun h => hn.1 (by rw [h]; exact List.mem_map_of_mem (List.mem_of_getElem? he))
      unfold remL at ih ⊢
      simp only [List.zip_cons_cons, List.filter_cons, hc]
      have hb : (e0.born == e.born) = false := by simpa using hne
      simp only [hb, Bool.or_false]
      simp only [hc] at ih
      split
      · simp only [List.map_cons]
        exact (ih.cons _).trans (List.Perm.swap _ _ _)
      · exact ih
section
variable {κ ν : Type} {K : En κ} {kv : κ → Value} {E : En ν}
def Pd.iter (K : En κ) (kv : κ → Value) (E : En ν) (N g : Nat) (rem : List (κ × ν)) (cur : Option (κ × ν)) : Pd :=
  ⟨fun s v => v = .pointer (some ⟨g, 0, none⟩) ∧ N ≤ g ∧ s.X g ∧ ((∃ a seen b, s.w.heap[g]? = some (.mapIter none a seen b) ∧ rem = [] ∧ cur = none) ∨
      ∃ bm since seen c0 es clock ys, s.w.heap[g]? = some (.mapIter (some bm) since seen c0) ∧ foot s bm ∧ s.w.heap[bm]? = some (.map es clock) ∧ MpR K kv E s.w (foot s) es clock ys ∧ since ≤ c0 ∧ since ≤ clock ∧ (∀ e ∈ es.toList, e.born < since) ∧ (remL es.toList seen ys).Perm rem ∧
        ∀ p, cur = some p → ∃ (i : Nat) (e : MapEntry) (seen' : Array Nat), es.toList[i]? = some e ∧ ys[i]? = some p ∧ seen = seen'.push e.born ∧ c0 = clock), fun b => some g = some b,
    by
      rintro T s s' v h hb ⟨hv, hN, hX, hr⟩
      refine ⟨hv, hN, (hb g rfl).2 hX, ?_⟩
      rcases hr with ⟨a, seen, b, hg, h1, h2⟩ | ⟨bm, since, seen, c0, es, clock, ys, hg, hf, hbm, hM, h1, h2, h3, h4, h5⟩
      · refine .inl ⟨a, seen, b, ?_, h1, h2⟩
        rw [h.blk g (Array.getElem?_eq_some_iff.1 hg).1 (hb g rfl).1]; exact hg
      · refine .inr ⟨bm, since, seen, c0, es, clock, ys, ?_, ⟨Nat.lt_of_lt_of_le hf.1 h.size, fun hx => (h.xx bm hx).elim hf.2 (fun hk => by have := hf.1; omega)⟩, ?_, hM.go h, h1, h2, h3, h4, h5⟩
        · rw [h.blk g (Array.getElem?_eq_some_iff.1 hg).1 (hb g rfl).1]; exact hg
        · rw [h.blk bm hf.1 (fun ht => hf.2 (h.tx bm ht))]; exact hbm⟩
def Pd.nx (b : Bool) : Pd := ⟨fun _ v => ∃ l : Array Value, v = .tuple l ∧ l[0]? = some (.bool b), fun _ => False, fun _ _ h => h⟩
section
variable {P : Program} {ops : Array Oper} {o : Oper} {L L' : Lst} {Q : Exit → Act → World → Prop} {rest : List Oper} {M : Nat → Prop} {n : Nat} {s0 : St} {a : Act} {s : St} {t kt et : TypeId} {g : Nat}
theorem st_range {xs : List (κ × ν)} {x : Operand} (d : Nat) (hL : Has M n s0 a s L) (hx : Opn L x (Pd.rep (En.fmap K kv E) xs)) (ht : P.underlying t = some (.map kt et)) (ho : o.op = .range t x) (hg : o.guard = none) (hd : o.dst = some d) (hn : Nat.blt d n = true)
    (k : ∀ a' s' g, s.w.heap.size ≤ g → Has M n s0 a' s' ((d, Pd.iter K kv E s0.w.heap.size g xs none) :: L) → wpList P ops Q rest a' s'.w) : wpList P ops Q (o :: rest) a s.w := by
  refine wpList_plain hg fun K' hK' => ?_
  unfold Oper.wp execOp
  rcases rep_fmap.1 (hx M n s0 a s hL) with ⟨hv, rfl⟩ | ⟨bm, es, clock, ys, hv, hf, hgb, hM, hp⟩
  · have hr := run_range_nilMap (P := P) s.w t kt et ht
    simp only [ho, hv, Sem.run_bind, hr, Result.andThen_ok, Sem.run_pure]
    refine hK' _ _ ?_
    simp only [hd]
    refine k _ (s.pushX (.mapIter none 0 #[] 0)) s.w.heap.size (Nat.le_refl _) (hL.put (Ex.pushX s _) hn ⟨rfl, hL.ent.mv.size, .inr rfl, .inl ⟨0, #[], 0, heap_alloc_new s.w _, rfl, rfl⟩⟩)
  · have hr := run_range_map (P := P) s.w t kt et bm es clock ht hgb
    simp only [ho, hv, Sem.run_bind, hr, Result.andThen_ok, Sem.run_pure]
    refine hK' _ _ ?_
    simp only [hd]
    have hE := Ex.pushX s (.mapIter (some bm) clock #[] clock)
    refine k _ (s.pushX (.mapIter (some bm) clock #[] clock)) s.w.heap.size (Nat.le_refl _) (hL.put hE hn ⟨rfl, hL.ent.mv.size, .inr rfl, .inr ⟨bm, clock, #[], clock, es, clock, ys, heap_alloc_new s.w _, ?_, ?_, hM.go hE.mv, Nat.le_refl _, Nat.le_refl _, hM.st.1, ?_, fun p h => by cases h⟩⟩)
    · exact ⟨Nat.lt_of_lt_of_le hf.1 hE.mv.size, fun hx => (hE.mv.xx bm hx).elim hf.2 (fun hk => by have := hf.1; omega)⟩
    · rw [hE.mv.blk bm hf.1 id]; exact hgb
    · have : remL es.toList #[] ys = ys := by
        unfold remL
        rw [List.filter_eq_self.2 (by simp)]
        exact List.map_snd_zip (by rw [hM.len]; exact Nat.le_refl _)
      rw [this]; exact hp
theorem Has.ilt {rem : List (κ × ν)} {cur : Option (κ × ν)} {N : Nat} (h : Has M n s0 a s L) (t : Nat) (hl : lk L t = some (Pd.iter K kv E N g rem cur)) : ∀ k, some g = some k → k < s.w.heap.size := fun k hk => by cases hk; exact s.lt _ (h.get t hl).2.2.1
theorem st_next {rem : List (κ × ν)} {cur : Option (κ × ν)} {x : Nat} (d : Nat) (hL : Has M n s0 a s L) (hx : lk L x = some (Pd.iter K kv E s0.w.heap.size g rem cur)) (ho : o.op = .next (.tmp x) false) (hg : o.guard = none) (hd : o.dst = some d) (hn : Nat.blt d n = true) (hne : d ≠ x)
    (hk : Kp (fun b => some g = some b) L L')
    (k0 : ∀ a', rem = [] → Has M n s0 a' s ((d, Pd.nx false) :: L) → wpList P ops Q rest a' s.w)
    (k1 : ∀ a' s' p rem', rem.Perm (p :: rem') → Has M n s0 a' s' ((d, Pd.nx true) :: (x, Pd.iter K kv E s0.w.heap.size g rem' (some p)) :: L') → wpList P ops Q rest a' s'.w) : wpList P ops Q (o :: rest) a s.w := by
  obtain ⟨hv, hN, hX, hr⟩ := hL.get x hx
  refine wpList_plain hg fun K' hK' => ?_
  unfold Oper.wp execOp
  rcases hr with ⟨aa, seen, bb, hgb, rfl, _⟩ | ⟨bm, since, seen, c0, es, clock, ys, hgb, hf, hbm, hM, h1, h2, h3, h4, h5⟩
  · have hrun : (Instr.next (.pointer (some ⟨g, 0, none⟩)) false o.type).run P s.w = .ok (.tuple #[.bool false]) s.w := by
      simp only [Instr.next, getObj, Sem.run_bind, Sem.run, hgb, Result.andThen]; rfl
    simp only [ho, hv, Sem.run_bind, hrun, Result.andThen_ok, Sem.run_pure]
    refine hK' _ _ ?_
    simp only [hd]
    exact k0 _ rfl (hL.put' hn ⟨_, rfl, rfl⟩)
  · have hnd := hM.st.2.1
    rcases run_next_at (P := P) s.w o.type g bm since c0 seen es clock hgb hbm h3 h1 with ⟨hz, hrun⟩ | ⟨e, he, w1, hw1, hrun⟩
    · simp only [ho, hv, Sem.run_bind, hrun, Result.andThen_ok, Sem.run_pure]
      refine hK' _ _ ?_
      simp only [hd]
      refine k0 _ ?_ (hL.put' hn ⟨_, rfl, rfl⟩)
      have hnil : remL es.toList seen ys = [] := by
        unfold remL
        rw [List.map_eq_nil_iff, List.filter_eq_nil_iff]
        intro q hq
        have hq1 := (List.of_mem_zip hq).1
        intro hc
        have : q.1 ∈ (leftOf es seen).toList := by unfold leftOf; simp; exact ⟨by simpa using hq1, by simpa using hc⟩
        have hlen : (leftOf es seen).toList.length = 0 := by simpa using hz
        rw [List.length_eq_zero_iff] at hlen
        rw [hlen] at this; cases this
      rw [hnil] at h4
      exact List.nil_perm.1 h4
    · simp only [ho, hv, Sem.run_bind, hrun, Result.andThen_ok, Sem.run_pure]
      refine hK' _ _ ?_
      simp only [hd]
      have he1 : e ∈ es.toList ∧ seen.contains e.born = false := by unfold leftOf at he; simp at he; exact ⟨by simpa using he.1, by simpa using he.2⟩
      obtain ⟨i, hi⟩ := List.getElem?_of_mem he1.1
      have hil : i < ys.length := by rw [← hM.len]; exact (List.getElem?_eq_some_iff.1 hi).1
      have hyi : ys[i]? = some ys[i] := List.getElem?_eq_getElem hil
      have hgl : g < s.w.heap.size := s.lt g hX
      have hgbm : g ≠ bm := fun e => hf.2 (e ▸ hX)
      let w' : World := Go.ChangeMaps.setBlock w1 g (.mapIter (some bm) since (seen.push e.born) clock)
      have hh : w1.heap = s.w.heap := by rcases hw1 with rfl | rfl <;> rfl
      have hblk : ∀ b, b ≠ g → w'.heap[b]? = s.w.heap[b]? := fun b hb => by
        simp [w', Go.ChangeMaps.setBlock, hh, Array.getElem?_setIfInBounds_ne (Ne.symm hb)]
      have hgg : w'.heap[g]? = some (.mapIter (some bm) since (seen.push e.born) clock) := by
        simp [w', Go.ChangeMaps.setBlock, hh, hgl]
      have hsz : w'.heap.size = s.w.heap.size := by simp [w', Go.ChangeMaps.setBlock, hh]
      have hdr : DR s.w w' := by
        rcases hw1 with rfl | rfl
        · exact DR.eq rfl
        · exact DR.succ rfl
      let s' : St := ⟨w', s.X, fun b hb => by rw [hsz]; exact s.lt b hb⟩
      have hE : Ef (fun b => some g = some b) s s' := ⟨⟨hdr, by rcases hw1 with rfl | rfl <;> rfl, by rcases hw1 with rfl | rfl <;> rfl, by rcases hw1 with rfl | rfl <;> rfl, by show _ ≤ w'.heap.size; rw [hsz]; exact Nat.le_refl _, fun b _ hnb => hblk b (fun e => hnb (by rw [e])), fun b hb => by cases hb; exact hX, fun b hb => .inl hb⟩, fun b hb _ => hb⟩
      have hLk : Has M n s0 a s' L' := hL.ef hE (fun b hb => by cases hb; exact hN) hk
      have hit : (Pd.iter K kv E s0.w.heap.size g (remL es.toList (seen.push e.born) ys) (some ys[i])).p s' (a.eval (.tmp x)) := by
        refine ⟨hv, hN, hX, .inr ⟨bm, since, seen.push e.born, clock, es, clock, ys, hgg, ⟨by show bm < w'.heap.size; rw [hsz]; exact hf.1, hf.2⟩, ?_, hM.go hE.mv, h2, h2, h3, .refl _, fun p hp => ?_⟩⟩
        · show w'.heap[bm]? = _
          rw [hblk bm (Ne.symm hgbm)]; exact hbm
        · cases hp; exact ⟨i, e, seen, hi, hyi, rfl, rfl⟩
      exact k1 _ s' ys[i] _ (h4.symm.trans (rem_perm seen es.toList ys i e ys[i] hnd hi hyi he1.2)) ((hLk.cons x hit).put' hn ⟨_, rfl, rfl⟩)
theorem t_nx {b : Bool} {x : Operand} (hx : Opn L x (Pd.nx b)) (ho : o.op = .extract x 0) (hg : o.guard = none) : T P ops o L (Pd.rep En.bool b) :=
  T.pure hg fun M n s0 a s hL => by
    obtain ⟨l, hv, h0⟩ := hx M n s0 a s hL
    refine ⟨.bool b, ?_, rep_bool.2 rfl⟩
    unfold execOp; rw [ho]
    simp [hv, Instr.extract, h0]
theorem t_entry {N : Nat} {rem : List (κ × ν)} {p : κ × ν} {x : Operand} (hx : Opn L x (Pd.iter K kv E N g rem (some p))) (hK : KeyT P kt K kv) (ho : o.op = .entry x) (hg : o.guard = none) : T P ops o L (Pd.tup2 (Pd.rep K p.1) (Pd.rep E p.2)) :=
  T.pure hg fun M n s0 a s hL => by
    obtain ⟨hv, hN, hX, hr⟩ := hx M n s0 a s hL
    rcases hr with ⟨aa, seen, bb, hgb, _, hc⟩ | ⟨bm, since, seen, c0, es, clock, ys, hgb, hf, hbm, hM, h1, h2, h3, h4, h5⟩
    · cases hc
    · obtain ⟨i, e, seen', hi, hyi, rfl, rfl⟩ := h5 p rfl
      have hnd := hM.st.2.1
      obtain ⟨hk1, ⟨cs, hkR⟩, cs', hv', hR'⟩ := hM.ent i e p hi hyi
      have hrun := run_entry_at (P := P) s.w g bm since seen' es c0 e hgb hbm (List.mem_of_getElem? hi) hnd
      refine ⟨.tuple #[e.key, e.val], ?_, _, _, rfl, ⟨cs, by rw [hk1, hK.val hkR], hkR⟩, ⟨cs', hv', hR'⟩⟩
      unfold execOp; rw [ho]
      simp [hv, hrun, Result.andThen]
end
end
def En.nilv {α : Type} (E : En α) : En (List α) where
  sz := 1
  agg := false
  R := fun _ _ cs xs => cs = [.slice none 0 0] ∧ xs = []
  sc := fun _ => rfl
  pos := Nat.one_pos
  len := by rintro _ _ _ _ ⟨rfl, _⟩; rfl
  one := by rintro _ _ _ _ ⟨rfl, _⟩ u hu; simp at hu; subst hu; rfl
  mono := fun _ h => h
  move := fun _ h => h
theorem rep_nilv {α : Type} {E : En α} {xs : List α} {s : St} {v : Value} : (Pd.rep (En.nilv E) xs).p s v ↔ v = .slice none 0 0 ∧ xs = [] :=
  ⟨fun ⟨_, hv, hc, hr⟩ => by subst hc; exact ⟨hv, hr⟩, fun ⟨hv, hr⟩ => ⟨[.slice none 0 0], hv, rfl, hr⟩⟩
theorem o_nilv {L : Lst} {α : Type} {E : En α} : Opn L (.const (.slice none 0 0)) (Pd.rep (En.nilv E) ([] : List α)) := o_c fun _ => rep_nilv.2 ⟨rfl, rfl⟩
end Go.Proofs.YtdidjelkkanenaaDoor.V
namespace Go.Proofs.YtdidjelkkanenaaDoor.V
open Go Go.MapKept
set_option linter.unusedVariables false
def En.fid : En (Option Nat) where
  sz := 1
  agg := false
  R := fun _ _ cs x => cs = [fidV x]
  sc := fun _ => rfl
  pos := Nat.one_pos
  len := by rintro _ _ _ _ rfl; rfl
  one := by rintro _ _ _ x rfl u hu; simp at hu; subst hu; cases x <;> rfl
  mono := fun _ h => h
  move := fun _ h => h
theorem rep_fid {x : Option Nat} {s : St} {v : Value} : (Pd.rep En.fid x).p s v ↔ v = fidV x :=
  ⟨fun ⟨_, hv, hc⟩ => by cases hc; exact hv, fun hv => ⟨[fidV x], hv, rfl⟩⟩
abbrev kvI64 : Int → Value := fun x => .int .i64 x
theorem key_i64 {P : Program} {kt : TypeId} (hd : P.underlying kt = some (.int .i64)) : KeyT P kt (En.int .i64) kvI64 :=
  key_plain hd (fun x => rfl) (fun ⟨h, _⟩ => by subst h; rfl) (fun {x y} h => by simpa using h)
section
variable {P : Program} {ops : Array Oper} {o : Oper} {L : Lst}
theorem o_gm {g : Nat} {l : List (Int × Option Nat)} (hm : (g, l) ∈ gmap) : Opn L (.global g) (Pd.ptr (En.fmap (En.int .i64) kvI64 En.fid) l) := fun M n0 s0 ac s hL => by
  obtain ⟨hX, m, tt, fr, es, clock, ys, hb, hXm, hbm, hF, hp⟩ := hL.gls.2 _ hm
  simp only at hX hb hp
  refine ⟨g, 0, [.map (some m)], rfl, ⟨(Array.getElem?_eq_some_iff.1 hb).1, hX⟩, fun j u hj => ?_, .map (some m), rfl, .inr ⟨m, es, clock, ys, rfl, ⟨(Array.getElem?_eq_some_iff.1 hbm).1, hXm⟩, hbm, ⟨hF.1, hF.2.1, fun i e p h1 h2 => ?_⟩, hp⟩⟩
  · cases j with
    | zero =>
      simp at hj; subst hj
      rw [Nat.add_zero, cell_of_row s.w g _ _ tt fr hb]; rfl
    | succ j => simp at hj
  · obtain ⟨k1, k2, k3⟩ := hF.2.2 i e p h1 h2
    exact ⟨k1, ⟨_, rfl, by simp [InR, IntKind.min, IntKind.max, IntKind.signed, IntKind.bits]; omega⟩, [fidV p.2], k3, rfl⟩
theorem t_callid {t : Nat} {xs : List Operand} {F : Option Nat} {qs : List Pd} {q : Pd} {ats : Array TypeId} (hf : ∃ f, F = some f ∧ Fn P f qs (Rq q)) (hF : Opn L (.tmp t) (Pd.rep En.fid F)) (hx : Opns L xs qs)
    (ho : o.op = .call { callee := .value (.tmp t), args := xs.toArray, argTypes := ats }) (hg : o.guard = none) : T P ops o L q := fun M n s0 a s hL Q k hk => by
  obtain ⟨f, rfl, hf⟩ := hf
  simp only [Region.wanted, hg, if_true]
  have hv : a.eval (.tmp t) = .func (.func f) #[] #[] := rep_fid.1 (hF M n s0 a s hL)
  have e : (execOp a.eval o).run P s.w = .ok (.enter f (xs.map a.eval).toArray) s.w := by
    have e1 : execOp a.eval o = (do let d ← Deferred.ofValue (a.eval (.tmp t)) (xs.toArray.map a.eval); invoke d.target d.args) := by
      unfold execOp; rw [ho]; rfl
    rw [e1, hv]
    have := hf.call (xs.map a.eval).toArray s.w
    simpa [Deferred.ofValue, invoke] using this
  unfold Oper.wp
  rw [e, Oper.upon_enter]
  refine (hf.run s _ hL.gls (hx.vals hL)).mono fun e w' ⟨v, s', he, hw, hx, hq⟩ => ?_
  subst he; subst hw
  exact hk v s' ⟨hx, hq⟩
theorem els_take {α : Type} {E : En α} {w : World} {S : Nat → Prop} {css : List (List Value)} {xs : List α} (h : Els E w S css xs) (k : Nat) : Els E w S (css.take k) (xs.take k) := by
  refine ⟨by rw [List.length_take, List.length_take, h.1], fun i c y hc hy => ?_⟩
  rw [List.getElem?_take] at hc hy
  split at hc
  · rename_i hlt
    rw [if_pos hlt] at hy
    exact h.2 i c y hc hy
  · cases hc
theorem flat_take {css : List (List Value)} (k : Nat) {j : Nat} {u : Value} (h : (css.take k).flatten[j]? = some u) : css.flatten[j]? = some u := by
  have e : css.flatten = (css.take k).flatten ++ (css.drop k).flatten := by rw [← List.flatten_append, List.take_append_drop]
  rw [e, List.getElem?_append_left (List.getElem?_eq_some_iff.1 h).1]; exact h
theorem t_upto {α : Type} {E : En α} {xs : List α} {k : IntKind} {i : Int} {y z : Operand} {t te : TypeId} (hy : Opn L y (Pd.rep (En.slice E) xs)) (hz : Opn L z (Pd.rep (En.int k) i)) (hi : 0 ≤ i ∧ i ≤ (xs.length : Int)) (ht : P.underlying t = some (.slice te)) (hE : Ty P te E)
    (ho : o.op = .slice t y none (some z) none) (hg : o.guard = none) : T P ops o L (Pd.rep (En.slice E) (xs.take i.toNat)) :=
  T.pure hg fun M n s0 ac s hL => by
    obtain ⟨ad, cap, hv, h1, h2, h3, h4⟩ := rep_slice.1 (hy M n s0 ac s hL)
    have hiv := (rep_int.1 (hz M n s0 ac s hL)).1
    have hlen : (xs.take i.toNat).length = i.toNat := by rw [List.length_take]; omega
    refine ⟨.slice (if cap = 0 then ad else ad.map (·.add (0 * E.sz))) i.toNat cap, ?_, rep_slice.2 ⟨_, _, by rw [hlen], by rw [hlen]; omega, fun hn => ?_, by rw [hlen]; omega, fun hne => ?_⟩⟩
    · unfold execOp; rw [ho]
      simp only [hv, hiv, Option.map_some, Option.map_none, Instr.sliceAt, Sem.run_bind, run_underlying ht, Result.andThen_ok, Instr.slice, Instr.sliceBounds, Instr.sliceBound, asIntOf, Sem.run_pure]
      rw [if_pos (by omega)]
      simp [run_sizeOfE hE]
    · split at hn
      · have := h2 hn; omega
      · cases ad with
        | none => have := h2 rfl; omega
        | some a => cases hn
    · have hlt : 0 < i.toNat := by
        rcases Nat.eq_zero_or_pos i.toNat with h | h
        · rw [h] at hne; simp at hne
        · exact h
      obtain ⟨b, off, css, e1, hb, hEl, hc⟩ := h4 (by intro h; rw [h] at hi; simp at hi; omega)
      refine ⟨b, off, css.take i.toNat, ?_, hb, els_take hEl _, fun j u hu => hc j u (flat_take _ hu)⟩
      rw [if_neg (by omega), e1]; simp [add_lit]
theorem t_part {α : Type} {E : En α} {xs : List α} {k k2 : IntKind} {l i : Int} {y z0 z : Operand} {t te : TypeId} (hy : Opn L y (Pd.rep (En.slice E) xs)) (hz0 : Opn L z0 (Pd.rep (En.int k2) l)) (hz : Opn L z (Pd.rep (En.int k) i)) (hi : 0 ≤ l ∧ l ≤ i ∧ i ≤ (xs.length : Int)) (ht : P.underlying t = some (.slice te)) (hE : Ty P te E)
    (ho : o.op = .slice t y (some z0) (some z) none) (hg : o.guard = none) : T P ops o L (Pd.rep (En.slice E) ((xs.take i.toNat).drop l.toNat)) :=
  T.pure hg fun M n s0 ac s hL => by
    obtain ⟨ad, cap, hv, h1, h2, h3, h4⟩ := rep_slice.1 (hy M n s0 ac s hL)
    have hiv := (rep_int.1 (hz M n s0 ac s hL)).1
    have hlv := (rep_int.1 (hz0 M n s0 ac s hL)).1
    have hlen : ((xs.take i.toNat).drop l.toNat).length = i.toNat - l.toNat := by rw [List.length_drop, List.length_take]; omega
    refine ⟨.slice (if cap = l.toNat then ad else ad.map (·.add (l.toNat * E.sz))) (i.toNat - l.toNat) (cap - l.toNat), ?_, rep_slice.2 ⟨_, _, by rw [hlen], by rw [hlen]; omega, fun hn => ?_, by rw [hlen]; omega, fun hne => ?_⟩⟩
    · unfold execOp; rw [ho]
      simp only [hv, hiv, hlv, Option.map_some, Option.map_none, Instr.sliceAt, Sem.run_bind, run_underlying ht, Result.andThen_ok, Instr.slice, Instr.sliceBounds, Instr.sliceBound, asIntOf, Sem.run_pure]
      rw [if_pos (by omega)]
      simp [run_sizeOfE hE]
      intro h
      exact absurd (h hi.1) (by omega)
    · split at hn
      · omega
      · cases ad with
        | none => have := h2 rfl; omega
        | some a => cases hn
    · have hlt : l.toNat < i.toNat := by
        rcases Nat.lt_or_ge l.toNat i.toNat with h | h
        · exact h
        · exact absurd (List.eq_nil_of_length_eq_zero (by rw [hlen]; omega)) hne
      obtain ⟨b, off, css, e1, hb, hEl, hc⟩ := h4 (by intro h; rw [h] at hi; simp at hi; omega)
      have hcl : (css.take i.toNat).length = i.toNat := by rw [List.length_take, hEl.1]; omega
      have hEt := els_take hEl i.toNat
      refine ⟨b, off + l.toNat * E.sz, (css.take i.toNat).drop l.toNat, ?_, hb, els_drop hEt _, ?_⟩
      · rw [if_neg (by omega), e1]; simp [add_lit]
      · intro j u hu
        rw [flat_drop hEt.lens _ (by omega), List.getElem?_drop] at hu
        rw [Nat.add_assoc]; exact hc _ u (flat_take _ hu)
end
end Go.Proofs.YtdidjelkkanenaaDoor.V
namespace Go.Proofs.YtdidjelkkanenaaDoor.V
open Go
set_option linter.unusedVariables false
abbrev SItem : Type := Int × Int × Int × Int
abbrev SNode : Type := Int × Int × Int × Int × Int × Cl × Str
abbrev SDesc : Type := (List SNode)
abbrev SBranch : Type := (List SItem) × Int
abbrev Sstep_next : Type := SNode × SItem × Int
def nums4 (x : SItem) : List Int := [x.1, x.2.1, x.2.2.1, x.2.2.2]
def numsS (s : List SItem) : List Int := s.flatMap nums4
def keyN (l : List Int) : Str := l.flatMap fun n => Lib.itoa n ++ [32]
def keyS (s : List SItem) : Str := keyN (numsS s)
def item_Key (s : List SItem) (r : Str) : Prop := s.length ≤ 1000 ∧ r = keyS s
def slices_Grow_api_State_api_Item (x : List SItem) (n : Int) (r : List SItem) : Prop := 0 ≤ n ∧ n ≤ 2147483648 ∧ r = []
def sgnI (x y : Int) : Int := if x < y then -1 else if y < x then 1 else 0
def lexI : List Int → List Int → Int
  | x :: a, y :: b => if x < y then -1 else if y < x then 1 else lexI a b
  | _, _ => 0
def fstNZ : List Int → Int
  | [] => 0
  | x :: l => if x ≠ 0 then x else fstNZ l
def numsL (s : List SItem) : List Int := (s.length : Int) :: numsS s
def cmpItem (x y : SItem) : Int := fstNZ [sgnI x.1 y.1, sgnI x.2.1 y.2.1, sgnI x.2.2.1 y.2.2.1, sgnI x.2.2.2 y.2.2.2]
def cmpS (a b : List SItem) : Int := lexI (numsL a) (numsL b)
def formI (d : List SNode) (x : SItem) : Bool :=
  if x.1 = 5 then (x.2.1 == 0 && x.2.2.2 == 0) && (decide (0 ≤ x.2.2.1) && decide (x.2.2.1 ≤ 65535))
  else match at? d x.2.1 with
    | none => false
    | some n =>
      if x.1 = 1 then x.2.2.1 == 0 && x.2.2.2 == 0
      else if x.1 = 2 then ((n.1 == 7 && decide (0 ≤ x.2.2.1)) && decide (x.2.2.1 ≤ x.2.2.2)) && decide (x.2.2.2 ≤ n.2.2.2.2.1)
      else if x.1 = 3 then ((n.1 == 3 && x.2.2.2 == 0) && decide (0 ≤ x.2.2.1)) && decide (x.2.2.1 < (n.2.2.2.2.2.2.length : Int))
      else if x.1 = 4 then ((n.1 == 9 && x.2.2.2 == 0) && decide (0 ≤ x.2.2.1)) && decide (x.2.2.1 ≤ 255)
      else false
def opn (d : List SNode) : List SItem → List (List SItem)
  | [] => []
  | x :: rest =>
    if x.1 = 5 then (if x.2.2.1 = 0 then [rest] else [])
    else match at? d x.2.1 with
    | none => []
    | some n =>
      if x.1 = 2 then (if x.2.2.1 = 0 then [rest] else []) ++ (if 0 < x.2.2.2 then [(1, n.2.1, 0, 0) :: (2, x.2.1, max (x.2.2.1 - 1) 0, x.2.2.2 - 1) :: rest] else [])
      else if n.1 = 1 then [rest]
      else if n.1 = 3 then [(3, x.2.1, 0, 0) :: rest]
      else if n.1 = 4 then [(1, n.2.1, 0, 0) :: (1, n.2.2.1, 0, 0) :: rest]
      else if n.1 = 5 then [(1, n.2.1, 0, 0) :: rest, (1, n.2.2.1, 0, 0) :: rest]
      else if n.1 = 6 then [rest, (1, n.2.1, 0, 0) :: x :: rest]
      else [(2, x.2.1, n.2.2.2.1, n.2.2.2.2.1) :: rest]
def rdy (d : List SNode) : List SItem → Bool
  | [] => true
  | x :: _ => x.1 == 3 || x.1 == 4 || (x.1 == 1 && match at? d x.2.1 with | some n => n.1 == 2 || n.1 == 8 || n.1 == 9 | none => false)
def lv (d : List SNode) : Nat → List SItem → Option (List (List SItem))
  | 0, _ => none
  | h + 1, s => if rdy d s = true then some [s] else ((opn d s).mapM (lv d h)).map List.flatten
def nzN (l : List Bool) (n : SNode) : Bool :=
  if n.1 = 1 then true
  else if n.1 = 4 then (at? l n.2.1).getD false && (at? l n.2.2.1).getD false
  else if n.1 = 5 then (at? l n.2.1).getD false || (at? l n.2.2.1).getD false
  else if n.1 = 6 then true
  else if n.1 = 7 then decide (n.2.2.2.1 = 0) || (at? l n.2.1).getD false
  else false
def nzL (d : List SNode) : List Bool := d.foldl (fun l n => l ++ [nzN l n]) []
def nz (d : List SNode) (i : Int) : Bool := (at? (nzL d) i).getD false
structure ROk (d : List SNode) : Prop where
  two : ∀ (i : Int) n, at? d i = some n → (n.1 = 4 ∨ n.1 = 5) → (0 ≤ n.2.1 ∧ n.2.1 < i) ∧ (0 ≤ n.2.2.1 ∧ n.2.2.1 < i)
  one : ∀ (i : Int) n, at? d i = some n → (n.1 = 6 ∨ n.1 = 7 ∨ n.1 = 8 ∨ n.1 = 9) → 0 ≤ n.2.1 ∧ n.2.1 < i
  rep : ∀ (i : Int) n, at? d i = some n → n.1 = 7 → 0 ≤ n.2.2.2.1 ∧ n.2.2.2.1 ≤ n.2.2.2.2.1 ∧ n.2.2.2.2.1 ≤ 255
  kind : ∀ (i : Int) n, at? d i = some n → 1 ≤ n.1 ∧ n.1 ≤ 9
  ntx : ∀ (i : Int) n, at? d i = some n → n.1 = 3 → n.2.2.2.2.2.2 ≠ []
  nn : ∀ (i : Int) n, at? d i = some n → (n.1 = 6 ∨ n.1 = 7) → nz d n.2.1 = false
structure DOk (d : List SNode) : Prop where
  len : d.length ≤ 1000
  txt : ∀ n ∈ d, n.2.2.2.2.2.2.length ≤ 9223372036854775807
def formS (d : List SNode) (s : List SItem) : Bool := s.all (formI d)
abbrev sat (n : Nat) : Int := ((min 2 n : Nat) : Int)
structure Can (f : List SItem → Nat) (B : List SBranch) : Prop where
  srt : B.Pairwise (fun a b => cmpS a.1 b.1 < 0)
  mem : ∀ t m, (t, m) ∈ B ↔ f t ≠ 0 ∧ m = sat (f t)
def insB (b : SBranch) : List SBranch → List SBranch
  | [] => [b]
  | c :: l => if cmpS b.1 c.1 < 0 then b :: c :: l else c :: insB b l
def srtB (l : List SBranch) : List SBranch := l.foldr insB []
def sort_heads_Heads_1 (x r : List SBranch) : Prop := (x.map (·.1)).Nodup ∧ (∀ b ∈ x, b.1.length ≤ 1000) ∧ x.length ≤ 2147483648 ∧ r = srtB x
def sort_next_On_1 (x r : List SBranch) : Prop := (x.map (·.1)).Nodup ∧ (∀ b ∈ x, b.1.length ≤ 1000) ∧ x.length ≤ 2147483648 ∧ r = srtB x
def heads_Heads (d : SDesc) (s : List SItem) (r : List SBranch) : Prop := ROk d ∧ DOk d ∧ d.length ≤ 400 ∧ d ≠ [] ∧ formS d s = true ∧ s.length ≤ 400 ∧ r.length ≤ 2147483648 ∧ ∃ h L, lv d h s = some L ∧ Can (fun t => L.count t) r
end Go.Proofs.YtdidjelkkanenaaDoor.V
namespace Go.Proofs.YtdidjelkkanenaaDoor.V
open Go
set_option linter.unusedVariables false
set_option maxRecDepth 100000
noncomputable abbrev En.SItem : En SItem := (En.cat (En.int .i64) (En.cat (En.int .i64) (En.cat (En.int .i64) (En.int .i64))))
noncomputable abbrev En.SNode : En SNode := (En.cat (En.int .i64) (En.cat (En.int .i64) (En.cat (En.int .i64) (En.cat (En.int .i64) (En.cat (En.int .i64) (En.cat En.cls En.str))))))
noncomputable abbrev En.SDesc : En SDesc := En.solo (En.slice En.SNode)
noncomputable abbrev En.SBranch : En SBranch := (En.cat (En.slice En.SItem) (En.int .i64))
noncomputable abbrev En.Sstep_next : En Sstep_next := (En.cat En.SNode (En.cat En.SItem (En.int .u8)))
theorem ty3 : Ty Tryd.prog 3 (En.int .i64) := ⟨⟨_, _, rfl, rfl, rfl, rfl, by decide⟩, _, rfl, rfl⟩
theorem ty4 : Ty Tryd.prog 4 En.bool := ⟨⟨_, _, rfl, rfl, rfl, rfl, by decide⟩, _, rfl, rfl⟩
theorem ty5 : Ty Tryd.prog 5 (En.int .u8) := ⟨⟨_, _, rfl, rfl, rfl, rfl, by decide⟩, _, rfl, rfl⟩
theorem ty9 : Ty Tryd.prog 9 En.str := ⟨⟨_, _, rfl, rfl, rfl, rfl, by decide⟩, _, rfl, rfl⟩
theorem ty22 : Ty Tryd.prog 22 (En.slice En.SNode) := ⟨⟨_, _, rfl, rfl, rfl, rfl, by decide⟩, _, rfl, rfl⟩
theorem ty24 : Ty Tryd.prog 24 En.SDesc := ⟨⟨_, _, rfl, rfl, rfl, rfl, by decide⟩, _, rfl, rfl⟩
theorem ty26 : Ty Tryd.prog 26 (En.slice En.SItem) := ⟨⟨_, _, rfl, rfl, rfl, rfl, by decide⟩, _, rfl, rfl⟩
theorem ty38 : Ty Tryd.prog 38 En.SBranch := ⟨⟨_, _, rfl, rfl, rfl, rfl, by decide⟩, _, rfl, rfl⟩
theorem ty43 : Ty Tryd.prog 43 En.SItem := ⟨⟨_, _, rfl, rfl, rfl, rfl, by decide⟩, _, rfl, rfl⟩
theorem ty44 : Ty Tryd.prog 44 (En.int .u64) := ⟨⟨_, _, rfl, rfl, rfl, rfl, by decide⟩, _, rfl, rfl⟩
theorem ty46 : Ty Tryd.prog 46 En.cls := ⟨⟨_, _, rfl, rfl, rfl, rfl, by decide⟩, _, rfl, rfl⟩
theorem ty48 : Ty Tryd.prog 48 En.SNode := ⟨⟨_, _, rfl, rfl, rfl, rfl, by decide⟩, _, rfl, rfl⟩
theorem tyz3 : TyZ Tryd.prog 3 (En.int .i64) (0 : Int) := ⟨_, _, [.int .i64 0], rfl, rfl, by rfl, fun _ _ => ⟨rfl, by decide⟩⟩
theorem tyz4 : TyZ Tryd.prog 4 En.bool (false : Bool) := ⟨_, _, [.bool false], rfl, rfl, by rfl, fun _ _ => rfl⟩
theorem tyz24 : TyZ Tryd.prog 24 En.SDesc ([] : SDesc) := ⟨_, _, [.slice none 0 0], rfl, rfl, by rfl, fun _ _ => ⟨_, rfl, slV_nil _ _ _⟩⟩
theorem tyz38 : TyZ Tryd.prog 38 En.SBranch (([], 0) : SBranch) := ⟨_, _, ([.slice none 0 0] ++ [.int .i64 0]), rfl, rfl, by rfl, fun _ _ => ⟨_, _, rfl, ⟨_, rfl, slV_nil _ _ _⟩, ⟨rfl, by decide⟩⟩⟩
theorem tyz43 : TyZ Tryd.prog 43 En.SItem ((0, 0, 0, 0) : SItem) := ⟨_, _, ([.int .i64 0] ++ ([.int .i64 0] ++ ([.int .i64 0] ++ [.int .i64 0]))), rfl, rfl, by rfl, fun _ _ => ⟨_, _, rfl, ⟨rfl, by decide⟩, ⟨_, _, rfl, ⟨rfl, by decide⟩, ⟨_, _, rfl, ⟨rfl, by decide⟩, ⟨rfl, by decide⟩⟩⟩⟩⟩
theorem tyz46 : TyZ Tryd.prog 46 En.cls ((0#256) : Cl) := ⟨_, _, clsCells 0#256, rfl, rfl, by rfl, fun _ _ => rfl⟩
theorem tyz48 : TyZ Tryd.prog 48 En.SNode ((0, 0, 0, 0, 0, (0#256), ([] : Str)) : SNode) := ⟨_, _, ([.int .i64 0] ++ ([.int .i64 0] ++ ([.int .i64 0] ++ ([.int .i64 0] ++ ([.int .i64 0] ++ (clsCells 0#256 ++ [.string ⟨#[]⟩])))))), rfl, rfl, by rfl, fun _ _ => ⟨_, _, rfl, ⟨rfl, by decide⟩, ⟨_, _, rfl, ⟨rfl, by decide⟩, ⟨_, _, rfl, ⟨rfl, by decide⟩, ⟨_, _, rfl, ⟨rfl, by decide⟩, ⟨_, _, rfl, ⟨rfl, by decide⟩, ⟨_, _, rfl, rfl, ⟨rfl, by decide⟩⟩⟩⟩⟩⟩⟩⟩
theorem tyz97 : TyZ Tryd.prog 97 En.Sstep_next (((0, 0, 0, 0, 0, (0#256), ([] : Str)), (0, 0, 0, 0), 0) : Sstep_next) := ⟨_, _, (([.int .i64 0] ++ ([.int .i64 0] ++ ([.int .i64 0] ++ ([.int .i64 0] ++ ([.int .i64 0] ++ (clsCells 0#256 ++ [.string ⟨#[]⟩])))))) ++ (([.int .i64 0] ++ ([.int .i64 0] ++ ([.int .i64 0] ++ [.int .i64 0]))) ++ [.int .u8 0])), rfl, rfl, by rfl, fun _ _ => ⟨_, _, rfl, ⟨_, _, rfl, ⟨rfl, by decide⟩, ⟨_, _, rfl, ⟨rfl, by decide⟩, ⟨_, _, rfl, ⟨rfl, by decide⟩, ⟨_, _, rfl, ⟨rfl, by decide⟩, ⟨_, _, rfl, ⟨rfl, by decide⟩, ⟨_, _, rfl, rfl, ⟨rfl, by decide⟩⟩⟩⟩⟩⟩⟩, ⟨_, _, rfl, ⟨_, _, rfl, ⟨rfl, by decide⟩, ⟨_, _, rfl, ⟨rfl, by decide⟩, ⟨_, _, rfl, ⟨rfl, by decide⟩, ⟨rfl, by decide⟩⟩⟩⟩, ⟨rfl, by decide⟩⟩⟩⟩
theorem tyv3 : TyV Tryd.prog 3 (En.int .i64) (0 : Int) := ⟨_, [.int .i64 0], rfl, by rfl, fun _ _ => ⟨rfl, by decide⟩⟩
theorem stt24 : Stt Tryd.prog 24 [(0, 1)] := ⟨_, Tryd.underlying24, by kernel_rfl⟩
theorem stt38 : Stt Tryd.prog 38 [(0, 1), (1, 1)] := ⟨_, Tryd.underlying38, by kernel_rfl⟩
theorem stt43 : Stt Tryd.prog 43 [(0, 1), (1, 1), (2, 1), (3, 1)] := ⟨_, Tryd.underlying43, by kernel_rfl⟩
theorem stt48 : Stt Tryd.prog 48 [(0, 1), (1, 1), (2, 1), (3, 1), (4, 1), (5, 4), (9, 1)] := ⟨_, Tryd.underlying48, by kernel_rfl⟩
theorem stt97 : Stt Tryd.prog 97 [(0, 10), (10, 4), (14, 1)] := ⟨_, Tryd.underlying97, by kernel_rfl⟩
theorem eqi43 : EqI Tryd.prog 2 43 En.SItem := eqi_struct rfl (by kernel_rfl) (by kernel_rfl) rfl (eqfs_cons (EqI.up (eqi_int Tryd.underlying3) (by decide)) ty3 (by kernel_rfl) (by kernel_rfl) (eqfs_cons (EqI.up (eqi_int Tryd.underlying3) (by decide)) ty3 (by kernel_rfl) (by kernel_rfl) (eqfs_cons (EqI.up (eqi_int Tryd.underlying3) (by decide)) ty3 (by kernel_rfl) (by kernel_rfl) (eqfs_last (EqI.up (eqi_int Tryd.underlying3) (by decide)) ty3 (by kernel_rfl) (by kernel_rfl)))))
theorem eq43 : Eqv Tryd.prog 43 En.SItem := eqv_struct eqi43 (by decide) rfl (by kernel_rfl)
theorem eqi48 : EqI Tryd.prog 3 48 En.SNode := eqi_struct rfl (by kernel_rfl) (by kernel_rfl) rfl (eqfs_cons (EqI.up (eqi_int Tryd.underlying3) (by decide)) ty3 (by kernel_rfl) (by kernel_rfl) (eqfs_cons (EqI.up (eqi_int Tryd.underlying3) (by decide)) ty3 (by kernel_rfl) (by kernel_rfl) (eqfs_cons (EqI.up (eqi_int Tryd.underlying3) (by decide)) ty3 (by kernel_rfl) (by kernel_rfl) (eqfs_cons (EqI.up (eqi_int Tryd.underlying3) (by decide)) ty3 (by kernel_rfl) (by kernel_rfl) (eqfs_cons (EqI.up (eqi_int Tryd.underlying3) (by decide)) ty3 (by kernel_rfl) (by kernel_rfl) (eqfs_cons (EqI.up (eqi_cls Tryd.underlying46 Tryd.underlying44 (by kernel_rfl)) (by decide)) ty46 (by kernel_rfl) (by kernel_rfl) (eqfs_last (EqI.up (eqi_str Tryd.underlying9) (by decide)) ty9 (by kernel_rfl) (by kernel_rfl))))))))
theorem eq48 : Eqv Tryd.prog 48 En.SNode := eqv_struct eqi48 (by decide) rfl (by kernel_rfl)
end Go.Proofs.YtdidjelkkanenaaDoor.V
namespace Go.Proofs.YtdidjelkkanenaaDoor.V
open Go
set_option linter.unusedVariables false
def Pd.zr (N te sz g len : Nat) : Pd :=
  ⟨fun s v => N ≤ g ∧ s.X g ∧ ∃ cap cur, v = .slice (some ⟨g, 0, none⟩) len cap ∧ s.w.heap[g]? = some (.cells cur te (0, 0)) ∧ cur.size = cap * sz ∧ cap ≤ maxLen ∧ len ≤ cap, fun b => some g = some b,
    fun {T s s' v} h hb ⟨h1, h2, cap, cur, h3, h4, h5⟩ => ⟨h1, (hb g rfl).2 h2, cap, cur, h3, by rw [h.blk g (Array.getElem?_eq_some_iff.1 h4).1 (hb g rfl).1]; exact h4, h5⟩⟩
section
variable {P : Program} {ops : Array Oper} {o : Oper} {L : Lst} {α : Type} {E : En α} {xs : List α}
theorem t_capn {y : Operand} {t te : TypeId} (hy : Opn L y (Pd.rep (En.nilv E) xs)) (ht : P.underlying t = some (.slice te)) (ho : o.op = .call { callee := .builtin .cap, args := #[y], argTypes := #[t] }) (hg : o.guard = none) : T P ops o L (Pd.rep (En.int .i64) 0) :=
  T.pure hg fun M n s0 ac s hL => by
    have hv := (rep_nilv.1 (hy M n s0 ac s hL)).1
    refine ⟨.int .i64 0, ?_, rep_int.2 ⟨rfl, by decide⟩⟩
    unfold execOp; rw [ho]; simp [resolve, invoke, builtin, hv, Builtin.cap_, run_underlying ht, goInt]
theorem t_lenn {y : Operand} {t te : TypeId} (hy : Opn L y (Pd.rep (En.nilv E) xs)) (ht : P.underlying t = some (.slice te)) (ho : o.op = .call { callee := .builtin .len, args := #[y], argTypes := #[t] }) (hg : o.guard = none) : T P ops o L (Pd.rep (En.int .i64) 0) :=
  T.pure hg fun M n s0 ac s hL => by
    have hv := (rep_nilv.1 (hy M n s0 ac s hL)).1
    refine ⟨.int .i64 0, ?_, rep_int.2 ⟨rfl, by decide⟩⟩
    unfold execOp; rw [ho]; simp [resolve, invoke, builtin, hv, Builtin.len_, run_underlying ht, goInt]
theorem t_to0 {y z : Operand} {t te : TypeId} (hy : Opn L y (Pd.rep (En.nilv E) xs)) (hz : Opn L z (Pd.rep (En.int .i64) 0)) (ht : P.underlying t = some (.slice te)) (hE : Ty P te E) (ho : o.op = .slice t y none (some z) none) (hg : o.guard = none) : T P ops o L (Pd.rep (En.nilv E) xs) :=
  T.pure hg fun M n s0 ac s hL => by
    obtain ⟨hv, hxs⟩ := rep_nilv.1 (hy M n s0 ac s hL)
    have hzv := (rep_int.1 (hz M n s0 ac s hL)).1
    refine ⟨.slice none 0 0, ?_, rep_nilv.2 ⟨rfl, hxs⟩⟩
    unfold execOp; rw [ho]
    simp [hv, hzv, Instr.sliceAt, run_underlying ht, Instr.slice, Instr.sliceBounds, Instr.sliceBound, asIntOf, run_sizeOfE hE]
theorem st_zeros {Q : Exit → Act → World → Prop} {rest : List Oper} {M : Nat → Prop} {n : Nat} {s0 : St} {a : Act} {s : St} {t u te : TypeId} {x y : Operand} {k : Int} (d : Nat) (hL : Has M n s0 a s L) (hx : Opn L x (Pd.rep (En.nilv E) xs)) (hy : Opn L y (Pd.rep (En.int .i64) k)) (hk0 : 0 < k) (hk1 : k ≤ 2147483648)
    (ht : P.underlying t = some (.slice te)) (hu : P.underlying u = some (.int .i64)) (hE : Ty P te E) (ho : o.op = .call { callee := .builtin .append, args := #[x, y], argTypes := #[t, u] }) (hg : o.guard = none) (hd : o.dst = some d) (hn : Nat.blt d n = true)
    (kk : ∀ a' s' g, Has M n s0 a' s' ((d, Pd.zr s0.w.heap.size te E.sz g k.toNat) :: L) → wpList P ops Q rest a' s'.w) : wpList P ops Q (o :: rest) a s.w := by
  obtain ⟨hv, _⟩ := rep_nilv.1 (hx M n s0 a s hL)
  have hkv := (rep_int.1 (hy M n s0 a s hL)).1
  obtain ⟨i, z, hi, hsz, hz, hzs, hby⟩ := hE.info
  obtain ⟨j, rfl⟩ : ∃ j : Nat, k = (j : Int) := ⟨k.toNat, by omega⟩
  have hj : 0 < j := by omega
  have hcap : j ≤ grownCap s.w j 0 te := grownCap_ge _ _ _ _
  have hr : (execOp a.eval o).run P s.w = .ok (.value (.slice (some ⟨s.w.heap.size, 0, none⟩) j (grownCap s.w j 0 te))) (s.w.drew.alloc (.cells (Builtin.zeroCells z.cells j ++ Builtin.zeroCells z.cells (grownCap s.w j 0 te - j)) te)) := by
    unfold execOp; rw [ho]
    have h0 : ¬ ((j : Int) < 0) := by omega
    have hw : IntKind.wrap .i64 (j : Int) = j := wrap_in (inR_i64.2 ⟨by omega, by omega⟩)
    have hb : j * i.bytes ≤ 140737488355328 := by
      have := Nat.mul_le_mul (show j ≤ 2147483648 by omega) hby
      omega
    have hb2 : ¬ ((281474976710656 : Int) < (j : Int) * (i.bytes : Int)) := by
      rw [← Int.natCast_mul]; omega
    have h48 : ¬ (281474976710656 < Builtin.nextslicecap j 0 * i.bytes) := by rw [nextslicecap_zero hj]; omega
    have h63 : ¬ (9223372036854775807 < (j : Int)) := by omega
    have hjn : ¬ j = 0 := by omega
    have hs0 : ¬ (j * E.sz = 0) := by have := Nat.mul_pos hj E.pos; omega
    simp [resolve, invoke, builtin, hv, hkv, Builtin.append_, run_underlying ht, run_underlying hu, sizeOf, typeInfo, zeroValue, hi, hz, asInt, asIntOf, h0, hw, hjn, hb2, h48, h63, hs0, hsz, Question.forced, newRow, grownCap, run_firstCells_none]
  refine wpList_plain hg fun K hK => ?_
  unfold Oper.wp
  rw [hr]
  refine hK _ _ ?_
  simp only [hd]
  have e : Ex s ⟨(s.w.drew.alloc (.cells (Builtin.zeroCells z.cells j ++ Builtin.zeroCells z.cells (grownCap s.w j 0 te - j)) te)), fun b => s.X b ∨ b = s.w.heap.size, fun b hb => hb.elim (fun h => Nat.lt_of_lt_of_le (s.lt b h) (by simp)) (fun h => by subst h; simp)⟩ :=
    ⟨⟨DR.succ rfl, rfl, rfl, rfl, by simp, fun b hb _ => Go.RowKit.Below.heap_alloc s.w.drew _ b hb, fun _ h => h.elim, fun b hb => hb.imp id (fun h => Nat.le_of_eq h.symm)⟩, fun b hb => .inl hb⟩
  refine kk _ _ s.w.heap.size (hL.put e hn ⟨hL.ent.mv.size, .inr rfl, grownCap s.w j 0 te, _, rfl, heap_alloc_new s.w.drew _, ?_, grownCap_le_maxLen _ _ _ _ (by unfold maxLen; omega), hcap⟩)
  simp only [Array.size_append, size_zeroCells, hzs]
  rw [← Nat.add_mul]
  congr 1
  omega
theorem t_row0 {t te : TypeId} {x z : Operand} {N g len : Nat} (hx : Opn L x (Pd.zr N te E.sz g len)) (hz : Opn L z (Pd.rep (En.int .i64) 0)) (ht : P.underlying t = some (.slice te)) (hE : Ty P te E) (ho : o.op = .slice t x none (some z) none) (hg : o.guard = none) : T P ops o L (Pd.row E N te (some g) []) :=
  T.pure hg fun M n s0 a s hL => by
    obtain ⟨hN, hX, cap, cur, hv, hgb, hcs, hcm, hlc⟩ := hx M n s0 a s hL
    have hzv := (rep_int.1 (hz M n s0 a s hL)).1
    refine ⟨.slice (some ⟨g, 0, none⟩) 0 cap, ?_, rfl, fun b hb => by cases hb; exact hX, Nat.zero_le _, [], ⟨rfl, by simp⟩, by simp, .inr ⟨g, cap, cur, rfl, hN, hgb, Nat.zero_le _, hcm, hcs, by simp⟩⟩
    unfold execOp; rw [ho]
    simp [hv, hzv, Instr.sliceAt, run_underlying ht, Instr.slice, Instr.sliceBounds, Instr.sliceBound, asIntOf, run_sizeOfE hE, Addr.add]
end
set_option maxRecDepth 100000
theorem slices_Grow_api_State_api_Item_ok {x_ : List SItem} {n_ : Int} {r_ : List SItem} (h : slices_Grow_api_State_api_Item x_ n_ r_) : Fn Tryd.prog 81 [(Pd.rep (En.nilv En.SItem) x_), (Pd.rep (En.int .i64) n_)] (Ro En.SItem 43 r_) := by
  obtain ⟨h0, h1, rfl⟩ := h
  refine fn_of Tryd.func81 rfl Tryd.ntmps81 (by rfl) (by simp) fun s0 a hL => ?_
  refine wp_seq_k fun K1 hK1 => ?_
  refine rg ?_
  refine st 4 (t_assign (q := Pd.any) (fun _ _ _ _ _ _ => trivial) rfl rfl) rfl rfl hL fun a s e_ hL => ?_
  refine en' ?_
  show K1 a s.w; refine hK1 _ _ ?_
  refine wp_seq_k fun K2 hK2 => ?_
  refine wp_seq_k fun K3 hK3 => ?_
  refine rg ?_
  refine st 5 (t_move (o_t 1 rfl) rfl rfl) rfl rfl hL fun a s e_ hL => ?_
  refine st 6 (t_lss (o_t 5 rfl) (o_i (by decide)) rfl rfl) rfl rfl hL fun a s e_ hL => ?_
  refine en' ?_
  show K3 a s.w; refine hK3 _ _ ?_
  refine cnd hL rfl (fun hb_ => absurd hb_ (by simp; omega)) (fun _ => ?_)
  refine wp_skip ?_
  show K2 a s.w; refine hK2 _ _ ?_
  refine wp_seq_k fun K4 hK4 => ?_
  refine wp_seq_k fun K5 hK5 => ?_
  refine rg ?_
  refine st 8 (t_move (o_t 1 rfl) rfl rfl) rfl rfl hL fun a s e_ hL => ?_
  refine st 9 (t_move (o_t 0 rfl) rfl rfl) rfl rfl hL fun a s e_ hL => ?_
  refine st 10 (t_capn (o_t 9 rfl) Tryd.underlying26 rfl rfl) rfl rfl hL fun a s e_ hL => ?_
  refine st 11 (t_move (o_t 0 rfl) rfl rfl) rfl rfl hL fun a s e_ hL => ?_
  refine st 12 (t_lenn (o_t 11 rfl) Tryd.underlying26 rfl rfl) rfl rfl hL fun a s e_ hL => ?_
  refine st 13 (t_sub (o_t 10 rfl) (o_t 12 rfl) (by decide) rfl rfl) rfl rfl hL fun a s e_ hL => ?_
  refine st 14 (t_sub (o_t 8 rfl) (o_t 13 rfl) (inR_i64.2 ⟨by omega, by omega⟩) rfl rfl) rfl rfl hL fun a s e_ hL => ?_
  refine st 1 (t_assign (o_t 14 rfl) rfl rfl) rfl rfl hL fun a s e_ hL => ?_
  refine en' ?_
  show K5 a s.w; refine hK5 _ _ ?_
  refine wp_seq_k fun K6 hK6 => ?_
  refine rg ?_
  refine st 15 (t_move (o_t 1 rfl) rfl rfl) rfl rfl hL fun a s e_ hL => ?_
  refine st 16 (t_gtr (o_t 15 rfl) (o_i (by decide)) rfl rfl) rfl rfl hL fun a s e_ hL => ?_
  refine en' ?_
  show K6 a s.w; refine hK6 _ _ ?_
  have fin : ∀ (a : Act) (s : St) (L : Lst) (og : Option Nat), Has N0 27 s0 a s L → lk L 0 = some (Pd.row En.SItem s0.w.heap.size 43 og []) → K4 a s.w := fun a s L og hL h0 => by
    refine hK4 _ _ ?_
    refine wp_seq_k fun K7 hK7 => ?_
    refine rg ?_
    refine st 26 (t_move (o_t 0 h0) rfl rfl) rfl rfl hL fun a s e_ hL => ?_
    refine st 4 (t_assign (o_t 26 rfl) rfl rfl) rfl rfl hL fun a s e_ hL => ?_
    refine en' ?_
    show K7 a s.w; refine hK7 _ _ ?_
    exact wp_ret (reto rfl hL rfl)
  refine cnd hL rfl (fun hb_ => ?_) (fun hb_ => ?_)
  · have hpos : 0 < n_ - (0 - 0) := by simpa using hb_
    refine rg ?_
    refine st 17 (t_move (o_t 0 rfl) rfl rfl) rfl rfl hL fun a s e_ hL => ?_
    refine st 18 (t_move (o_t 0 rfl) rfl rfl) rfl rfl hL fun a s e_ hL => ?_
    refine st 19 (t_capn (o_t 18 rfl) Tryd.underlying26 rfl rfl) rfl rfl hL fun a s e_ hL => ?_
    refine st 20 (t_to0 (o_t 17 rfl) (o_t 19 rfl) Tryd.underlying26 ty43 rfl rfl) rfl rfl hL fun a s e_ hL => ?_
    refine st 21 (t_move (o_t 1 rfl) rfl rfl) rfl rfl hL fun a s e_ hL => ?_
    refine st_zeros 22 hL (o_t 20 rfl) (o_t 21 rfl) hpos (by omega) Tryd.underlying26 Tryd.underlying3 ty43 rfl rfl rfl rfl fun a s g hL => ?_
    refine st 23 (t_move (o_t 0 rfl) rfl rfl) rfl rfl hL fun a s e_ hL => ?_
    refine st 24 (t_lenn (o_t 23 rfl) Tryd.underlying26 rfl rfl) rfl rfl hL fun a s e_ hL => ?_
    refine st 25 (t_row0 (o_t 22 rfl) (o_t 24 rfl) Tryd.underlying26 ty43 rfl rfl) rfl rfl hL fun a s e_ hL => ?_
    refine st 0 (t_assign (o_t 25 rfl) rfl rfl) rfl rfl hL fun a s e_ hL => ?_
    refine en' ?_
    exact fin a s _ (some g) hL rfl
  · refine wp_skip ?_
    have hv := (rep_nilv.1 (hL.get 0 rfl)).1
    have hx := (rep_nilv.1 (hL.get 0 rfl)).2
    have hL2 := hL.cons 0 (q := Pd.row En.SItem s0.w.heap.size 43 none []) (by rw [hv]; exact own_nil _ _ _ _)
    exact fin a s _ none hL2 rfl
end Go.Proofs.YtdidjelkkanenaaDoor.V
namespace Go.Proofs.YtdidjelkkanenaaDoor.V
open Go Go.Shelf
set_option linter.unusedVariables false
set_option maxRecDepth 100000
def sl169_ren : Go.Shelf.Ren := ⟨fun | 169 => 75 | n => n, fun | 70 => 111 | 9 => 9 | 0 => 0 | 72 => 113 | 37 => 53 | 127 => 139 | 3 => 3 | 5 => 5 | n => n, fun | n => n⟩
theorem sl169 : Go.Proofs.Lays.n169 Tryd.prog sl169_ren where
  mixed := by kernel_rfl
  f169 := Tryd.func75.trans (congrArg some (by kernel_rfl))
  t0 := Tryd.underlying0
  a0 := Tryd.isAgg0
  z0 := Tryd.sizeOf0
  v0 := Tryd.zeroValue0
  t3 := Tryd.underlying3
  a3 := Tryd.isAgg3
  z3 := Tryd.sizeOf3
  v3 := Tryd.zeroValue3
  t9 := Tryd.underlying9
  a9 := Tryd.isAgg9
  z9 := Tryd.sizeOf9
  v9 := Tryd.zeroValue9
  t37 := Tryd.underlying53
  a37 := Tryd.isAgg53
  z37 := Tryd.sizeOf53
  v37 := Tryd.zeroValue53
  t70 := Tryd.underlying111
  a70 := Tryd.isAgg111
  z70 := Tryd.sizeOf111
  v70 := Tryd.zeroValue111
  t72 := Tryd.underlying113
  a72 := Tryd.isAgg113
  z72 := Tryd.sizeOf113
  v72 := Tryd.zeroValue113
  t127 := Tryd.underlying139
  a127 := Tryd.isAgg139
  z127 := Tryd.sizeOf139
  v127 := Tryd.zeroValue139
def sl171_ren : Go.Shelf.Ren := ⟨fun | 171 => 73 | 243 => 95 | 246 => 103 | 283 => 106 | 284 => 107 | 285 => 108 | 286 => 109 | 129 => 92 | 317 => 110 | 318 => 111 | 319 => 112 | 320 => 113 | 337 => 114 | 338 => 115 | n => n, fun | 3 => 3 | 9 => 9 | 2 => 2 | 4 => 4 | 171 => 153 | 0 => 0 | 53 => 44 | 37 => 53 | 5 => 5 | 173 => 155 | 212 => 159 | 51 => 136 | 20 => 20 | 213 => 160 | 46 => 104 | 232 => 161 | 233 => 162 | n => n, fun | 17 => 2 | 18 => 3 | 19 => 4 | n => n⟩
theorem sl171 : Go.Proofs.LaysM.n171 Tryd.prog sl171_ren where
  mixed := by kernel_rfl
  f129 := Tryd.func92.trans (congrArg some (by kernel_rfl))
  f171 := Tryd.func73.trans (congrArg some (by kernel_rfl))
  f243 := Tryd.func95.trans (congrArg some (by kernel_rfl))
  f246 := Tryd.func103.trans (congrArg some (by kernel_rfl))
  f283 := Tryd.func106.trans (congrArg some (by kernel_rfl))
  f284 := Tryd.func107.trans (congrArg some (by kernel_rfl))
  f285 := Tryd.func108.trans (congrArg some (by kernel_rfl))
  f286 := Tryd.func109.trans (congrArg some (by kernel_rfl))
  f317 := Tryd.func110.trans (congrArg some (by kernel_rfl))
  f318 := Tryd.func111.trans (congrArg some (by kernel_rfl))
  f319 := Tryd.func112.trans (congrArg some (by kernel_rfl))
  f320 := Tryd.func113.trans (congrArg some (by kernel_rfl))
  f337 := Tryd.func114.trans (congrArg some (by kernel_rfl))
  f338 := Tryd.func115.trans (congrArg some (by kernel_rfl))
  t0 := Tryd.underlying0
  a0 := Tryd.isAgg0
  z0 := Tryd.sizeOf0
  v0 := Tryd.zeroValue0
  t2 := Tryd.underlying2
  a2 := Tryd.isAgg2
  z2 := Tryd.sizeOf2
  v2 := Tryd.zeroValue2
  t3 := Tryd.underlying3
  a3 := Tryd.isAgg3
  z3 := Tryd.sizeOf3
  v3 := Tryd.zeroValue3
  t4 := Tryd.underlying4
  a4 := Tryd.isAgg4
  z4 := Tryd.sizeOf4
  v4 := Tryd.zeroValue4
  t5 := Tryd.underlying5
  a5 := Tryd.isAgg5
  z5 := Tryd.sizeOf5
  v5 := Tryd.zeroValue5
  t9 := Tryd.underlying9
  a9 := Tryd.isAgg9
  z9 := Tryd.sizeOf9
  v9 := Tryd.zeroValue9
  t20 := Tryd.underlying20
  a20 := Tryd.isAgg20
  z20 := Tryd.sizeOf20
  v20 := Tryd.zeroValue20
  t37 := Tryd.underlying53
  a37 := Tryd.isAgg53
  z37 := Tryd.sizeOf53
  v37 := Tryd.zeroValue53
  t46 := Tryd.underlying104
  a46 := Tryd.isAgg104
  z46 := Tryd.sizeOf104
  v46 := Tryd.zeroValue104
  t51 := Tryd.underlying136
  a51 := Tryd.isAgg136
  z51 := Tryd.sizeOf136
  v51 := Tryd.zeroValue136
  t53 := Tryd.underlying44
  a53 := Tryd.isAgg44
  z53 := Tryd.sizeOf44
  v53 := Tryd.zeroValue44
  t171 := Tryd.underlying153
  a171 := Tryd.isAgg153
  z171 := Tryd.sizeOf153
  v171 := Tryd.zeroValue153
  t173 := Tryd.underlying155
  a173 := Tryd.isAgg155
  z173 := Tryd.sizeOf155
  v173 := Tryd.zeroValue155
  t212 := Tryd.underlying159
  a212 := Tryd.isAgg159
  z212 := Tryd.sizeOf159
  v212 := Tryd.zeroValue159
  t213 := Tryd.underlying160
  a213 := Tryd.isAgg160
  z213 := Tryd.sizeOf160
  t232 := Tryd.underlying161
  a232 := Tryd.isAgg161
  z232 := Tryd.sizeOf161
  v232 := Tryd.zeroValue161
  t233 := Tryd.underlying162
  a233 := Tryd.isAgg162
  z233 := Tryd.sizeOf162
  v233 := Tryd.zeroValue162
  g17 := by kernel_rfl
  g18 := by kernel_rfl
  g19 := by kernel_rfl
  i0 := by kernel_rfl
  i2 := by kernel_rfl
  i3 := by kernel_rfl
  i4 := by kernel_rfl
  i5 := by kernel_rfl
  i9 := by kernel_rfl
  i20 := by kernel_rfl
  i37 := by kernel_rfl
  i46 := by kernel_rfl
  i51 := by kernel_rfl
  i53 := by kernel_rfl
  i171 := by kernel_rfl
  i173 := by kernel_rfl
  i212 := by kernel_rfl
  i232 := by kernel_rfl
  i233 := by kernel_rfl
  m17 := by kernel_rfl
  m18 := by kernel_rfl
  m19 := by kernel_rfl
def slsort_ren : Go.Shelf.Ren := ⟨fun | 6 => 45 | 15 => 66 | 14 => 65 | 28 => 91 | 29 => 92 | 20 => 83 | 21 => 84 | 22 => 85 | 23 => 86 | 24 => 87 | 25 => 88 | 26 => 89 | 27 => 90 | 46 => 97 | 47 => 98 | 48 => 99 | 49 => 100 | 50 => 101 | 57 => 105 | n => n, fun | 22 => 31 | 24 => 38 | 25 => 76 | 3 => 3 | 39 => 104 | 0 => 0 | 53 => 136 | 55 => 44 | 4 => 4 | 46 => 130 | 45 => 129 | 50 => 66 | 5 => 5 | 9 => 9 | 66 => 140 | 70 => 144 | 76 => 150 | 77 => 151 | n => n, fun | n => n⟩
theorem slsort : Go.Proofs.SlLaysF0.n6 Tryd.prog slsort_ren where
  mixed := by kernel_rfl
  f6 := ⟨"slices.SortFunc[[]scantling/api.Branch,scantling/api.Branch]", by decide, Tryd.func45.trans (congrArg some (by kernel_rfl))⟩
  f14 := ⟨"slices.pdqsortCmpFunc[scantling/api.Branch]", by decide, Tryd.func65.trans (congrArg some (by kernel_rfl))⟩
  f15 := Tryd.func66.trans (congrArg some (by kernel_rfl))
  f20 := ⟨"slices.insertionSortCmpFunc[scantling/api.Branch]", by decide, Tryd.func83.trans (congrArg some (by kernel_rfl))⟩
  f21 := ⟨"slices.heapSortCmpFunc[scantling/api.Branch]", by decide, Tryd.func84.trans (congrArg some (by kernel_rfl))⟩
  f22 := ⟨"slices.breakPatternsCmpFunc[scantling/api.Branch]", by decide, Tryd.func85.trans (congrArg some (by kernel_rfl))⟩
  f23 := ⟨"slices.choosePivotCmpFunc[scantling/api.Branch]", by decide, Tryd.func86.trans (congrArg some (by kernel_rfl))⟩
  f24 := ⟨"slices.reverseRangeCmpFunc[scantling/api.Branch]", by decide, Tryd.func87.trans (congrArg some (by kernel_rfl))⟩
  f25 := ⟨"slices.partialInsertionSortCmpFunc[scantling/api.Branch]", by decide, Tryd.func88.trans (congrArg some (by kernel_rfl))⟩
  f26 := ⟨"slices.partitionEqualCmpFunc[scantling/api.Branch]", by decide, Tryd.func89.trans (congrArg some (by kernel_rfl))⟩
  f27 := ⟨"slices.partitionCmpFunc[scantling/api.Branch]", by decide, Tryd.func90.trans (congrArg some (by kernel_rfl))⟩
  f28 := Tryd.func91.trans (congrArg some (by kernel_rfl))
  f29 := Tryd.func92.trans (congrArg some (by kernel_rfl))
  f46 := ⟨"slices.siftDownCmpFunc[scantling/api.Branch]", by decide, Tryd.func97.trans (congrArg some (by kernel_rfl))⟩
  f47 := Tryd.func98.trans (congrArg some (by kernel_rfl))
  f48 := Tryd.func99.trans (congrArg some (by kernel_rfl))
  f49 := ⟨"slices.medianAdjacentCmpFunc[scantling/api.Branch]", by decide, Tryd.func100.trans (congrArg some (by kernel_rfl))⟩
  f50 := ⟨"slices.medianCmpFunc[scantling/api.Branch]", by decide, Tryd.func101.trans (congrArg some (by kernel_rfl))⟩
  f57 := ⟨"slices.order2CmpFunc[scantling/api.Branch]", by decide, Tryd.func105.trans (congrArg some (by kernel_rfl))⟩
  t0 := Tryd.underlying0
  a0 := Tryd.isAgg0
  z0 := Tryd.sizeOf0
  v0 := Tryd.zeroValue0
  t3 := Tryd.underlying3
  a3 := Tryd.isAgg3
  z3 := Tryd.sizeOf3
  v3 := Tryd.zeroValue3
  t4 := Tryd.underlying4
  a4 := Tryd.isAgg4
  z4 := Tryd.sizeOf4
  v4 := Tryd.zeroValue4
  t5 := Tryd.underlying5
  a5 := Tryd.isAgg5
  z5 := Tryd.sizeOf5
  v5 := Tryd.zeroValue5
  t9 := Tryd.underlying9
  a9 := Tryd.isAgg9
  z9 := Tryd.sizeOf9
  v9 := Tryd.zeroValue9
  t22 := Tryd.underlying31
  a22 := Tryd.isAgg31
  z22 := Tryd.sizeOf31
  v22 := Tryd.zeroValue31
  t25 := Tryd.underlying76
  a25 := Tryd.isAgg76
  z25 := Tryd.sizeOf76
  v25 := Tryd.zeroValue76
  t39 := Tryd.underlying104
  a39 := Tryd.isAgg104
  z39 := Tryd.sizeOf104
  v39 := Tryd.zeroValue104
  t45 := Tryd.underlying129
  a45 := Tryd.isAgg129
  z45 := Tryd.sizeOf129
  v45 := Tryd.zeroValue129
  t46 := Tryd.underlying130
  a46 := Tryd.isAgg130
  z46 := Tryd.sizeOf130
  v46 := Tryd.zeroValue130
  t50 := Tryd.underlying66
  a50 := Tryd.isAgg66
  z50 := Tryd.sizeOf66
  v50 := Tryd.zeroValue66
  t53 := Tryd.underlying136
  a53 := Tryd.isAgg136
  z53 := Tryd.sizeOf136
  v53 := Tryd.zeroValue136
  t55 := Tryd.underlying44
  a55 := Tryd.isAgg44
  z55 := Tryd.sizeOf44
  v55 := Tryd.zeroValue44
  t66 := Tryd.underlying140
  a66 := Tryd.isAgg140
  z66 := Tryd.sizeOf140
  v66 := Tryd.zeroValue140
  t70 := Tryd.underlying144
  a70 := Tryd.isAgg144
  z70 := Tryd.sizeOf144
  v70 := Tryd.zeroValue144
  t76 := Tryd.underlying150
  a76 := Tryd.isAgg150
  z76 := Tryd.sizeOf150
  v76 := Tryd.zeroValue150
  t77 := Tryd.underlying151
  a77 := Tryd.isAgg151
  z77 := Tryd.sizeOf151
  v77 := Tryd.zeroValue151
end Go.Proofs.YtdidjelkkanenaaDoor.V
namespace Go.Proofs.YtdidjelkkanenaaDoor.V
open Go Go.Shelf Go.RowKit
set_option linter.unusedVariables false
theorem bx169 : Builder.Extra Tryd.prog sl169_ren where
  sizeBuilder := by kernel_rfl
  liesBuilder := by kernel_rfl
  t5 := Tryd.underlying5
  a5 := Tryd.isAgg5
  z5 := Tryd.sizeOf5
  v5 := Tryd.zeroValue5
  infoByte := by kernel_rfl
  cellsByte := by kernel_rfl
  sizeByte := by kernel_rfl
  neB5 := by decide
theorem b_string (B b : Nat) (l : List UInt8) (w : World) (h : Lib.IsBuilderF 113 5 B b (Lib.byteCells l) w) (hBw : B ≤ w.heap.size) :
    Calls Tryd.prog 75 #[.pointer (some ⟨b, 0, none⟩)] w fun e w' => e = .returned (.string ⟨l.toArray⟩) ∧ (Lib.IsBuilderF 113 5 B b (Lib.byteCells l) w' ∧ Below B w w' ∧ Lib.OthersKept 5 (some b) w w') := Any.Builder_String_any_k sl169 bx169 B b l w h hBw
theorem b_itoa (n : Int) (h0 : -9223372036854775808 ≤ n) (h1 : n ≤ 9223372036854775807) (w : World) (htab : Lib.TabIs Tryd.prog w "internal/strconv.uint64pow10" .u64 Lib.pow10Tab) :
    Calls Tryd.prog 73 #[.int .i64 n] w fun e w' => e = .returned (.string ⟨(Lib.itoa n).toArray⟩) ∧ ∃ k os, w' = Sort.grow (w.drewN k) os := Any.strconv_Itoa sl171 n h0 h1 w htab
set_option maxHeartbeats 1000000 in
set_option maxRecDepth 100000 in
theorem b_used (b : Nat) (w : World) (h0 : w.cell? ⟨b, 0, none⟩ = some (.pointer (some ⟨b, 0, none⟩))) :
    Calls Tryd.prog 94 #[.pointer (some ⟨b, 0, none⟩)] w fun e w' => e = .returned (.tuple #[]) ∧ w' = w := by
  obtain ⟨j, hj, _⟩ := Option.map_eq_some_iff.1 bx169.sizeBuilder
  go_enter Tryd.func94, Tryd.ntmps94
  go_wp2
  rw [Lib.run_neq_ptr_same w _ Tryd.underlying111 hj]
  go_wp2
  go_end0
  exact ⟨rfl, rfl⟩
set_option maxHeartbeats 1000000 in
set_option maxRecDepth 100000 in
theorem b_fresh (b : Nat) (w : World) (h0 : w.cell? ⟨b, 0, none⟩ = some (.pointer none)) (hsh : w.shape? b = some (113, 2)) (hfz : w.frozen? ⟨b, 0, none⟩ = false) :
    Calls Tryd.prog 94 #[.pointer (some ⟨b, 0, none⟩)] w fun e w' => e = .returned (.tuple #[]) ∧ w' = w.setCell ⟨b, 0, none⟩ (.pointer (some ⟨b, 0, none⟩)) := by
  obtain ⟨j, hj, hjs⟩ := Option.map_eq_some_iff.1 bx169.sizeBuilder
  go_enter Tryd.func94, Tryd.ntmps94
  go_wp2
  rw [Lib.run_to_unsafe w ⟨b, 0, none⟩ Tryd.underlying111 Tryd.underlying146 hj (by rw [hjs]; decide) hsh (Nat.zero_lt_succ 1)]
  simp only [Result.andThen]
  rw [Oper.upon_value]
  go_wp2
  rw [run_callFunc_extern Tryd.func102 (by kernel_rfl) (by kernel_rfl) (by kernel_rfl) (e := Extern.AbiNoEscape.same) (by kernel_rfl)]
  rw [Lib.run_noEscape]
  simp only [Result.andThen]
  rw [Oper.upon_value]
  go_wp2
  rw [Lib.run_from_unsafe w ⟨b, 0, none⟩ Tryd.underlying146 Tryd.underlying111 hj hsh bx169.liesBuilder]
  simp only [Result.andThen]
  rw [Oper.upon_value]
  go_wp2
  go_end0
  exact ⟨rfl, rfl⟩
theorem b_check (B b : Nat) (bs : List Value) (w : World) (h : Lib.IsBuilderF 113 5 B b bs w) :
    Calls Tryd.prog 94 #[.pointer (some ⟨b, 0, none⟩)] w fun e w' => e = .returned (.tuple #[]) ∧ (Lib.BuilderAtF 113 5 B b (.pointer (some ⟨b, 0, none⟩)) bs w' ∧ Below B w w' ∧ Lib.OthersKept 5 (some b) w w') := by
  rcases h with h | h
  · refine (b_fresh b w h.cell0 h.shape h.frozen0).mono ?_
    rintro e w' ⟨rfl, rfl⟩
    exact ⟨rfl, h.used _, (Below.refl B w).setCell (p := ⟨b, 0, none⟩) h.1 _, (Lib.OthersKept.refl _ _ w).setCell ⟨b, 0, none⟩ rfl _⟩
  · refine (b_used b w h.cell0).mono ?_
    rintro e w' ⟨rfl, rfl⟩
    exact ⟨rfl, h, Below.refl B _, Lib.OthersKept.refl _ _ _⟩
set_option maxHeartbeats 2000000 in
set_option maxRecDepth 100000 in
theorem b_byte (B b : Nat) (bs : List Value) (c : Int) (w : World) (h : Lib.IsBuilderF 113 5 B b bs w) (hlen : bs.length + 1 ≤ 140737488355328) (hBw : B ≤ w.heap.size) :
    Calls Tryd.prog 74 #[.pointer (some ⟨b, 0, none⟩), .int .u8 c] w fun e w' => e = .returned .nilIface ∧ (Lib.BuilderAtF 113 5 B b (.pointer (some ⟨b, 0, none⟩)) (bs ++ [.int .u8 c]) w' ∧ Below B w w' ∧ Lib.OthersKept 5 (some b) w w') := by
  obtain ⟨i0, hi, hz0, hz1, hz2⟩ := info_parts bx169.infoByte
  go_enter Tryd.func74, Tryd.ntmps74
  go_wp2_with (go_at_call 94; refine (b_check B b bs _ h).mono ?_)
  rintro e w1 ⟨rfl, h1, hb1, hk1⟩
  obtain ⟨hB, v, hbk, hown, hne⟩ := h1
  have c0 : w1.cell? ⟨b, 0, none⟩ = some (.pointer (some ⟨b, 0, none⟩)) := by rw [Lib.cell_of_heap hbk]; rfl
  have c1 : w1.cell? ⟨b, 1, none⟩ = some v := by rw [Lib.cell_of_heap hbk]; rfl
  go_wp2_with (at_builtin; refine wpList_append_ownF _ rfl _ _ 53 rfl B 5 i0 (.int .u8 0) 1 1 Tryd.underlying53 hi hz0 hz1 hz2 rfl (by decide) _ _ _ rfl (hown.alloc _) ⟨w1.heap.size, 0, none⟩ 1 1 [.int .u8 c] rfl rfl ?c1 ?c2 ?c3 ?c4 ?c5 ?_)
  case c1 =>
    intro j u hj
    match j, hj with
    | 0, hj => simp at hj; subst hj; simp [Addr.add]
  case c2 => intro u hu; simp at hu; subst hu; rfl
  case c3 => unfold maxLen; omega
  case c4 => omega
  case c5 => have := hb1.size; simp; omega
  intro v' w2 hown' hgrow _
  have hlt : b < w1.heap.size := (Array.getElem?_eq_some_iff.1 hbk).1
  have hb2 : w2.heap[b]? = some (.cells #[.pointer (some ⟨b, 0, none⟩), v] 113 (0, 0)) := by
    rw [hgrow.block b (by simp; omega) (fun e => hne e.symm), Lib.alloc_old w1 _ b hlt]
    exact hbk
  have d0 : w2.cell? ⟨b, 0, none⟩ = some (.pointer (some ⟨b, 0, none⟩)) := by rw [Lib.cell_of_heap hb2]; rfl
  have d1 : w2.cell? ⟨b, 1, none⟩ = some v := by rw [Lib.cell_of_heap hb2]; rfl
  have f1 : w2.frozen? ⟨b, 1, none⟩ = false := Lib.frozen_of_heap hb2 1
  obtain ⟨g, cap, rfl⟩ : ∃ g cap, v' = .slice (some ⟨g, 0, none⟩) (bs.length + 1) cap := by
    rcases hown'.2 with ⟨_, h0⟩ | ⟨g, cap, cur, fz, hv, _⟩
    · omega
    · exact ⟨g, cap, hv⟩
  go_wp2
  go_ret
  refine ⟨rfl, ?_, ?_, ((hk1.alloc _).grown hgrow (Lib.ownsRowF_kind (hown.alloc _))).setCell ⟨b, 1, none⟩ rfl _⟩
  · exact Lib.BuilderAtF.put (T := 113) (e := 5) hB hb2 (bs' := bs ++ [.int .u8 c]) (by simpa using hown') (by decide)
  · exact ((hb1.alloc (by have := hb1.size; omega) _).grown hgrow (by have := hb1.size; simp; omega) (fun k hk => (hown.lt k hk).1)).setCell (p := ⟨b, 1, none⟩) hB _
set_option maxHeartbeats 2000000 in
set_option maxRecDepth 100000 in
theorem b_text (B b : Nat) (bs : List Value) (s : ByteArray) (w : World) (h : Lib.IsBuilderF 113 5 B b bs w) (hlen : bs.length + s.size ≤ 140737488355328) (hBw : B ≤ w.heap.size) :
    Calls Tryd.prog 72 #[.pointer (some ⟨b, 0, none⟩), .string s] w fun e w' => e = .returned (.tuple #[.int .i64 s.size, .nilIface]) ∧ (Lib.BuilderAtF 113 5 B b (.pointer (some ⟨b, 0, none⟩)) (bs ++ Lib.strCells s) w' ∧ Below B w w' ∧ Lib.OthersKept 5 (some b) w w') := by
  obtain ⟨i0, hi, hz0, hz1, hz2⟩ := info_parts bx169.infoByte
  go_enter Tryd.func72, Tryd.ntmps72
  go_wp2_with (go_at_call 94; refine (b_check B b bs _ h).mono ?_)
  rintro e w1 ⟨rfl, h1, hb1, hk1⟩
  obtain ⟨hB, v, hbk, hown, hne⟩ := h1
  have c0 : w1.cell? ⟨b, 0, none⟩ = some (.pointer (some ⟨b, 0, none⟩)) := by rw [Lib.cell_of_heap hbk]; rfl
  have c1 : w1.cell? ⟨b, 1, none⟩ = some v := by rw [Lib.cell_of_heap hbk]; rfl
  go_wp2_with (at_builtin; refine Lib.wpList_append_own_stringF _ rfl _ _ 53 9 rfl B 5 i0 Tryd.underlying53 Tryd.underlying9 hi hz0 hz1 hz2 _ _ _ rfl hown s rfl ?c3 ?c4 ?c5 ?_)
  case c3 => unfold maxLen; omega
  case c4 => omega
  case c5 => have := hb1.size; omega
  intro v' w2 hown' hgrow _
  have hlt : b < w1.heap.size := (Array.getElem?_eq_some_iff.1 hbk).1
  have hb2 : w2.heap[b]? = some (.cells #[.pointer (some ⟨b, 0, none⟩), v] 113 (0, 0)) := by
    rw [hgrow.block b hlt (fun e => hne e.symm)]
    exact hbk
  have d0 : w2.cell? ⟨b, 0, none⟩ = some (.pointer (some ⟨b, 0, none⟩)) := by rw [Lib.cell_of_heap hb2]; rfl
  have d1 : w2.cell? ⟨b, 1, none⟩ = some v := by rw [Lib.cell_of_heap hb2]; rfl
  have f1 : w2.frozen? ⟨b, 1, none⟩ = false := Lib.frozen_of_heap hb2 1
  obtain ⟨ao, n', cap, rfl⟩ : ∃ ao n' cap, v' = .slice ao n' cap := by
    rcases hown'.2 with ⟨hv, _⟩ | ⟨g, cap, cur, fz, hv, _⟩
    · exact ⟨_, _, _, hv⟩
    · exact ⟨_, _, _, hv⟩
  go_wp2
  go_ret2
  refine ⟨rfl, ?_, ?_, (hk1.grown hgrow (Lib.ownsRowF_kind hown)).setCell ⟨b, 1, none⟩ rfl _⟩
  · exact Lib.BuilderAtF.put (T := 113) (e := 5) hB hb2 (bs' := bs ++ Lib.strCells s) (by simpa [Lib.strCells_length] using hown') (by decide)
  · exact (hb1.grown hgrow (by have := hb1.size; omega) (fun k hk => (hown.lt k hk).1)).setCell (p := ⟨b, 1, none⟩) hB _
end Go.Proofs.YtdidjelkkanenaaDoor.V
namespace Go.Proofs.YtdidjelkkanenaaDoor.V
open Go Go.Shelf Go.RowKit
set_option linter.unusedVariables false
theorem add_block (a : Addr) (k : Nat) : (a.add k).block = a.block := by unfold Addr.add; split <;> rfl
def ItemsAt (w : World) (a : Addr) (xs : List SItem) : Prop := a.block < w.heap.size ∧ ∀ (i : Nat) (x : SItem), xs[i]? = some x →
  w.cell? (a.add (i * 4)) = some (.int .i64 x.1) ∧ w.cell? ⟨(a.add (i * 4)).block, (a.add (i * 4)).off + 1, none⟩ = some (.int .i64 x.2.1) ∧ w.cell? ⟨(a.add (i * 4)).block, (a.add (i * 4)).off + 2, none⟩ = some (.int .i64 x.2.2.1) ∧ w.cell? ⟨(a.add (i * 4)).block, (a.add (i * 4)).off + 3, none⟩ = some (.int .i64 x.2.2.2)
theorem ItemsAt.below {w w' : World} {a : Addr} {xs : List SItem} (h : ItemsAt w a xs) {B : Nat} (hb : Below B w w') (hB : a.block < B) {i : Nat} {x : SItem} (hx : xs[i]? = some x) :
    w'.cell? (a.add (i * 4)) = some (.int .i64 x.1) ∧ w'.cell? ⟨(a.add (i * 4)).block, (a.add (i * 4)).off + 1, none⟩ = some (.int .i64 x.2.1) ∧ w'.cell? ⟨(a.add (i * 4)).block, (a.add (i * 4)).off + 2, none⟩ = some (.int .i64 x.2.2.1) ∧ w'.cell? ⟨(a.add (i * 4)).block, (a.add (i * 4)).off + 3, none⟩ = some (.int .i64 x.2.2.2) := by
  obtain ⟨h0, h1, h2, h3⟩ := h.2 i x hx
  refine ⟨?_, ?_, ?_, ?_⟩
  · rw [hb.cell (by rw [add_block]; exact hB)]; exact h0
  · rw [hb.cell (by show (a.add (i * 4)).block < B; rw [add_block]; exact hB)]; exact h1
  · rw [hb.cell (by show (a.add (i * 4)).block < B; rw [add_block]; exact hB)]; exact h2
  · rw [hb.cell (by show (a.add (i * 4)).block < B; rw [add_block]; exact hB)]; exact h3
theorem builder_below {B b : Nat} {bs : List Value} {W W' : World} (h : Lib.IsBuilderF 113 5 B b bs W) (hb : Below W.heap.size W W') : Lib.IsBuilderF 113 5 B b bs W' := by
  have one : ∀ p, Lib.BuilderAtF 113 5 B b p bs W → Lib.BuilderAtF 113 5 B b p bs W' := fun p hp => by
    have hlt := hp.lt
    obtain ⟨hB, v, hv, hown, hne⟩ := hp
    exact ⟨hB, v, (hb.block b hlt).trans hv, hown.kept (row := none) ⟨hb.os, hb.tape, hb.output, hb.size, fun k hk _ => hb.block k hk⟩ (Classical.em _), hne⟩
  exact h.elim (fun x => .inl (one _ x)) (fun x => .inr (one _ x))
theorem tab_below {B : Nat} {w w' : World} (h : Lib.TabIs Tryd.prog w "internal/strconv.uint64pow10" .u64 Lib.pow10Tab) (hb : Below B w w') (hB : 2 < B) : Lib.TabIs Tryd.prog w' "internal/strconv.uint64pow10" .u64 Lib.pow10Tab := by
  unfold Lib.TabIs World.var? at *
  have hg : Tryd.prog.globalNamed "internal/strconv.uint64pow10" = some 2 := by kernel_rfl
  rw [hg] at h ⊢
  simp only [Option.bind_some] at h ⊢
  rw [hb.block 2 hB]; exact h
theorem alloc2 (w : World) (o1 o2 : Obj) : ((w.alloc o1).alloc o2).heap[w.heap.size + 1]? = some o2 := by
  have := heap_alloc_new (w.alloc o1) o2
  rwa [show (w.alloc o1).heap.size = w.heap.size + 1 by simp] at this
theorem keyN_snoc (l : List Int) (z : Int) : keyN (l ++ [z]) = keyN l ++ (Lib.itoa z ++ [32]) := by simp [keyN]
theorem keyS_snoc (l : List SItem) (x : SItem) : keyS (l ++ [x]) = keyS l ++ keyN (nums4 x) := by simp [keyS, keyN, numsS]
theorem keyN_len {l : List Int} (h : ∀ z ∈ l, InR .i64 z) : (keyN l).length ≤ 22 * l.length := by
  induction l with
  | nil => simp [keyN]
  | cons z l ih =>
    have h1 := inR_i64.1 (h z (by simp))
    have h2 := Lib.itoa_length_le z h1.1 h1.2
    have h3 := ih fun y hy => h y (by simp [hy])
    have e : keyN (z :: l) = (Lib.itoa z ++ [32]) ++ keyN l := by simp [keyN]
    rw [e]
    simp only [List.length_append, List.length_cons, List.length_nil]
    omega
theorem numsS_len (l : List SItem) : (numsS l).length = 4 * l.length := by
  induction l with
  | nil => rfl
  | cons x l ih => simp only [numsS, List.flatMap_cons, List.length_append] at ih ⊢; rw [ih]; simp [nums4]; omega
set_option maxHeartbeats 4000000 in
set_option maxRecDepth 1000000 in
theorem key_walk (xs : List SItem) (a : Addr) (cap : Nat) (w : World) (hn : xs.length ≤ 1000) (hz : ∀ x ∈ xs, ∀ z ∈ nums4 x, InR .i64 z) (hc : ItemsAt w a xs) (htab : Lib.TabIs Tryd.prog w "internal/strconv.uint64pow10" .u64 Lib.pow10Tab) :
    Calls Tryd.prog 56 #[.slice (some a) xs.length cap] w fun e w' => e = .returned (.string ⟨(keyS xs).toArray⟩) ∧ Below w.heap.size w w' := by
  have hpos : 2 < w.heap.size := by
    have h := htab
    unfold Lib.TabIs World.var? at h
    have hg : Tryd.prog.globalNamed "internal/strconv.uint64pow10" = some 2 := by kernel_rfl
    rw [hg] at h
    simp only [Option.bind_some] at h
    rcases Nat.lt_or_ge 2 w.heap.size with hh | hh
    · exact hh
    · rw [Array.getElem?_eq_none hh] at h; cases h
  have hlen : ∀ i, (keyS (xs.take i)).length ≤ 88000 := fun i => by
    have h1 := keyN_len (l := numsS (xs.take i)) fun z hzz => by
      obtain ⟨x, hx, hzx⟩ := List.mem_flatMap.1 hzz
      exact hz x (List.mem_of_mem_take hx) z hzx
    have h2 := numsS_len (xs.take i)
    have h3 : (xs.take i).length ≤ xs.length := by simp; omega
    show (keyN (numsS (xs.take i))).length ≤ _
    omega
  go_enter Tryd.func56, Tryd.ntmps56
  go_wp2
  go_loopw [10] (fun v10 wr => ∃ i : Nat, v10 = .int .i64 i ∧ i ≤ xs.length ∧ Lib.IsBuilderF 113 5 w.heap.size w.heap.size (Lib.byteCells (keyS (xs.take i))) wr ∧ Below w.heap.size w wr) (fun v10 _ => xs.length - (Lib.intOf v10).toNat)
  case atStart =>
    refine ⟨0, rfl, Nat.zero_le _, Lib.IsBuilderF.of (Lib.fresh_isBuilder 113 5 w), (Below.refl _ w).alloc (Nat.le_refl _) _⟩
  case round =>
    obtain ⟨i, rfl, hi, hB, hbw⟩ := hrel
    obtain ⟨wo, hwo⟩ : ∃ wo, wo = wr := ⟨wr, rfl⟩
    subst hwo
    by_cases hlt : i < xs.length
    · obtain ⟨x, hx⟩ : ∃ x, xs[i]? = some x := ⟨xs[i], by simp [hlt]⟩
      have hxm : x ∈ xs := List.mem_of_getElem? hx
      obtain ⟨c0, c1, c2, c3⟩ := hc.below hbw hc.1 hx
      have hsz := hbw.size
      have hli := hlen i
      go_wp2
      go_loopw [24] (fun v24 wi => ∃ j : Nat, v24 = .int .i64 j ∧ j ≤ 4 ∧ Lib.IsBuilderF 113 5 w.heap.size w.heap.size (Lib.byteCells (keyS (xs.take i) ++ keyN ((nums4 x).take j))) wi ∧ wi.heap[wo.heap.size + 1]? = some (.cells #[.int .i64 x.1, .int .i64 x.2.1, .int .i64 x.2.2.1, .int .i64 x.2.2.2] 3 (0, 0)) ∧ Below w.heap.size w wi) (fun v24 _ => 4 - (Lib.intOf v24).toNat)
      case atStart =>
        refine ⟨0, rfl, by omega, ?_, ?_, ?_⟩
        · have : keyS (xs.take i) ++ keyN ((nums4 x).take 0) = keyS (xs.take i) := by simp [keyN]
          rw [this]
          exact (hB.alloc _).alloc _
        · exact alloc2 wo _ _
        · exact (hbw.alloc hsz _).alloc (by simp; omega) _
      case round =>
        obtain ⟨j, rfl, hj, hBi, hgi, hbi⟩ := hrel
        by_cases hjl : j < 4
        · obtain ⟨z, hzj⟩ : ∃ z, (nums4 x)[j]? = some z := ⟨(nums4 x)[j]'(by simpa [nums4] using hjl), by simp [nums4, hjl]⟩
          have hzr := inR_i64.1 (hz x hxm z (List.mem_of_getElem? hzj))
          have hil := Lib.itoa_length_le z hzr.1 hzr.2
          have hll : (keyS (xs.take i) ++ keyN ((nums4 x).take j)).length ≤ 88088 := by
            have h1 := keyN_len (l := (nums4 x).take j) fun y hy => hz x hxm y (List.mem_of_mem_take hy)
            have h2 : ((nums4 x).take j).length ≤ 4 := by simp [nums4]; omega
            rw [List.length_append]; omega
          have hcell : wr.cell? ⟨wo.heap.size + 1, j, none⟩ = some (.int .i64 z) := by
            have e : (#[Value.int .i64 x.1, .int .i64 x.2.1, .int .i64 x.2.2.1, .int .i64 x.2.2.2] : Array Value)[j]? = ((nums4 x).map (Value.int .i64))[j]? := by simp [nums4]
            rw [cell_of_row wr (wo.heap.size + 1) _ _ 3 (0, 0) hgi, e, List.getElem?_map, hzj]; rfl
          have hszi := hbi.size
          have htk : keyS (xs.take i) ++ keyN ((nums4 x).take (j + 1)) = (keyS (xs.take i) ++ keyN ((nums4 x).take j)) ++ (Lib.itoa z ++ [32]) := by
            rw [List.take_add_one, hzj, Option.toList_some, keyN_snoc, List.append_assoc]
          generalize hK : keyS (xs.take i) ++ keyN ((nums4 x).take j) = K at *
          go_wp2_with (go_at_call 73; refine (b_itoa z hzr.1 hzr.2 _ (tab_below htab hbi hpos)).mono ?_; rintro e w1 ⟨rfl, k, os, rfl⟩; refine Hid.out ?_)
          refine Lib.hid ?_
          have hb1 : Below wr.heap.size wr (Sort.grow (wr.drewN k) os) := Lib.below_grow _ wr (Nat.le_refl _) k os
          generalize Sort.grow (wr.drewN k) os = W1 at *
          have hB1 := builder_below hBi hb1
          have hgl : wo.heap.size + 1 < wr.heap.size := (Array.getElem?_eq_some_iff.1 hgi).1
          have hg1 := (hb1.block _ hgl).trans hgi
          have hbi1 := hbi.trans (hb1.mono hszi)
          have hsz1 := hbi1.size
          go_wp2_with (go_at_call 72; refine (b_text w.heap.size w.heap.size _ ⟨(Lib.itoa z).toArray⟩ W1 hB1 (by rw [Lib.byteCells_length]; show K.length + (Lib.itoa z).toArray.size ≤ _; simp; omega) hsz1).mono ?_; rintro e w2 ⟨rfl, h2, b2, k2⟩; refine Hid.out ?_)
          refine Lib.hid ?_
          have hB2 : Lib.IsBuilderF 113 5 w.heap.size w.heap.size (Lib.byteCells (K ++ Lib.itoa z)) w2 := by rw [Lib.byteCells_append]; exact .inr h2
          have hg2 := k2 _ _ hg1 (by simp; omega) (by intro c fz he; cases he)
          have hsz2 := (hbi1.trans b2).size
          go_wp2_with (go_at_call 74; refine (b_byte w.heap.size w.heap.size _ 32 w2 hB2 (by rw [Lib.byteCells_length, List.length_append]; omega) hsz2).mono ?_; rintro e w3 ⟨rfl, h3, b3, k3⟩; refine Hid.out ?_)
          refine Lib.hid ?_
          have hB3 : Lib.IsBuilderF 113 5 w.heap.size w.heap.size (Lib.byteCells (K ++ (Lib.itoa z ++ [32]))) w3 := by
            rw [← List.append_assoc, Lib.byteCells_append]; exact .inr h3
          have hg3 := k3 _ _ hg2 (by simp; omega) (by intro c fz he; cases he)
          have hb3 := (hbi1.trans b2).trans b3
          go_wp2
          go_roundw
          case rel => exact ⟨j + 1, rfl, by omega, by rw [htk]; exact hB3, hg3, hb3⟩
          case measure => simp [Lib.intOf]; omega
        · have hj4 : j = 4 := by omega
          subst hj4
          go_wp2
          go_roundw
          case rel =>
            refine ⟨i + 1, rfl, by omega, ?_, hbi⟩
            have e : xs.take (i + 1) = xs.take i ++ [x] := by rw [List.take_add_one, hx]; rfl
            rw [e, keyS_snoc]
            have e4 : (nums4 x).take 4 = nums4 x := rfl
            rw [e4] at hBi; exact hBi
          case measure => simp [Lib.intOf]; omega
    · have hin : i = xs.length := by omega
      subst hin
      go_wp2_with (go_at_call 75; refine (b_string w.heap.size w.heap.size _ _ hB hbw.size).mono ?_)
      rintro e W1 ⟨rfl, _, b1, _⟩
      go_wp2
      go_ret
      exact ⟨by simp, hbw.trans b1⟩
set_option maxHeartbeats 4000000 in
set_option maxRecDepth 1000000 in
theorem key_none (ad : Option Addr) (cap : Nat) (w : World) : Calls Tryd.prog 56 #[.slice ad 0 cap] w fun e w' => e = .returned (.string ⟨#[]⟩) ∧ Below w.heap.size w w' := by
  go_enter Tryd.func56, Tryd.ntmps56
  go_wp2
  go_loopw [10] (fun v10 wr => v10 = .int .i64 0 ∧ Lib.IsBuilderF 113 5 w.heap.size w.heap.size (Lib.byteCells []) wr ∧ Below w.heap.size w wr) (fun _ _ => 0)
  case atStart =>
    exact ⟨rfl, Lib.IsBuilderF.of (Lib.fresh_isBuilder 113 5 w), (Below.refl _ w).alloc (Nat.le_refl _) _⟩
  case round =>
    obtain ⟨rfl, hB, hbw⟩ := hrel
    go_wp2_with (go_at_call 75; refine (b_string w.heap.size w.heap.size _ _ hB hbw.size).mono ?_)
    rintro e W1 ⟨rfl, _, b1, _⟩
    go_wp2
    go_ret
    exact ⟨rfl, hbw.trans b1⟩
theorem items_at {w : World} {S : Nat → Prop} {v : Value} {xs : List SItem} (h : SlV En.SItem w S v xs) (hS : ∀ b, S b → b < w.heap.size) (hne : xs ≠ []) : ∃ a cap, v = .slice (some a) xs.length cap ∧ ItemsAt w a xs ∧ ∀ x ∈ xs, ∀ z ∈ nums4 x, InR .i64 z := by
  obtain ⟨ad, cap, rfl, h1, h2, h3, h4⟩ := h
  obtain ⟨b, off, css, rfl, hb, hE, hc⟩ := h4 hne
  have key : ∀ (i : Nat) (x : SItem), xs[i]? = some x → ∃ p q r t : Int, x = (p, q, r, t) ∧ InR .i64 p ∧ InR .i64 q ∧ InR .i64 r ∧ InR .i64 t ∧ css[i]? = some [.int .i64 p, .int .i64 q, .int .i64 r, .int .i64 t] := by
    intro i x hx
    have hlt : i < xs.length := (List.getElem?_eq_some_iff.1 hx).1
    obtain ⟨cs, hcs⟩ : ∃ cs, css[i]? = some cs := ⟨css[i]'(by rw [hE.1]; exact hlt), by simp⟩
    obtain ⟨c0, r0, rfl, ⟨rfl, i0⟩, c1, r1, rfl, ⟨rfl, i1⟩, c2, c3, rfl, ⟨rfl, i2⟩, ⟨rfl, i3⟩⟩ := hE.2 i cs x hcs hx
    exact ⟨_, _, _, _, rfl, i0, i1, i2, i3, hcs⟩
  refine ⟨⟨b, off, none⟩, cap, rfl, ⟨hS b hb, fun i x hx => ?_⟩, fun x hx z hz => ?_⟩
  · obtain ⟨p, q, r, t, rfl, _, _, _, _, hcs⟩ := key i x hx
    have hf := fun (j : Nat) (u : Value) (hu : [Value.int .i64 p, .int .i64 q, .int .i64 r, .int .i64 t][j]? = some u) => hc _ u (flat_get hE.lens hcs hu)
    have hsz : En.SItem.sz = 4 := rfl
    rw [hsz] at hf
    rw [add_lit]
    refine ⟨hf 0 _ rfl, ?_, ?_, ?_⟩
    · have := hf 1 _ rfl; rw [← Nat.add_assoc] at this; exact this
    · have := hf 2 _ rfl; rw [← Nat.add_assoc] at this; exact this
    · have := hf 3 _ rfl; rw [← Nat.add_assoc] at this; exact this
  · obtain ⟨i, hi⟩ := List.getElem?_of_mem hx
    obtain ⟨p, q, r, t, rfl, i0, i1, i2, i3, _⟩ := key i x hi
    simp only [nums4, List.mem_cons, List.not_mem_nil, or_false] at hz
    rcases hz with rfl | rfl | rfl | rfl <;> assumption
theorem keyS_len {l : List SItem} (h : ∀ x ∈ l, ∀ z ∈ nums4 x, InR .i64 z) : (keyS l).length ≤ 88 * l.length := by
  have h1 := keyN_len (l := numsS l) fun z hzz => by
    obtain ⟨x, hx, hzx⟩ := List.mem_flatMap.1 hzz
    exact h x hx z hzx
  have h2 := numsS_len l
  show (keyN (numsS l)).length ≤ _
  omega
theorem item_Key_ok {s_ : (List SItem)} {r_ : Str} (h : item_Key s_ r_) : Fn Tryd.prog 56 [(Pd.rep (En.slice En.SItem) s_)] (Rq (Pd.rep En.str r_)) := by
  obtain ⟨hn, rfl⟩ := h
  refine ⟨call_of Tryd.func56 rfl (by rfl), fun s vs hgl hv => ?_⟩
  match vs, hv with
  | [v], ⟨hv, _⟩ =>
    have hsl := rep_slice.1 hv
    have fin : ∀ (x : Str) (w' : World), x.length ≤ 9223372036854775807 → Below s.w.heap.size s.w w' → ∃ (v : Value) (s' : St), Ending.returned (.string ⟨x.toArray⟩) = .returned v ∧ s'.w = w' ∧ Ex s s' ∧ Rq (Pd.rep En.str x) s s' v := fun x w' hx hb =>
      ⟨_, ⟨w', s.X, fun b hb' => Nat.lt_of_lt_of_le (s.lt b hb') hb.size⟩, rfl, rfl, ⟨⟨DR.kit, hb.os, hb.tape, hb.output, hb.size, fun b hb' _ => hb.block b hb', fun _ h => h.elim, fun b h => .inl h⟩, fun b h => h⟩, rep_str.2 ⟨rfl, hx⟩⟩
    by_cases hne : s_ = []
    · subst hne
      obtain ⟨ad, cap, rfl, _⟩ := hsl
      refine (key_none ad cap s.w).mono fun e w' ⟨he, hb⟩ => ?_
      subst he
      exact fin [] w' (by simp) hb
    · obtain ⟨a, cap, rfl, hat, hz⟩ := items_at hsl (fun b hb => hb.1) hne
      have htab : Lib.TabIs Tryd.prog s.w "internal/strconv.uint64pow10" .u64 Lib.pow10Tab := by
        obtain ⟨_, t, fr, h2⟩ := hgl.1 _ (by unfold gtab; exact List.mem_cons_self)
        unfold Lib.TabIs World.var?
        have hg : Tryd.prog.globalNamed "internal/strconv.uint64pow10" = some 2 := by kernel_rfl
        rw [hg]
        simp only [Option.bind_some]
        rw [h2]
        simp [Lib.pow10Tab]
      have hl := keyS_len hz
      refine (key_walk s_ a cap s.w hn hz hat htab).mono fun e w' ⟨he, hb⟩ => ?_
      subst he
      exact fin _ w' (by omega) hb
end Go.Proofs.YtdidjelkkanenaaDoor.V
namespace Go.Proofs.YtdidjelkkanenaaDoor.V
open Go
set_option linter.unusedVariables false
def slices_Concat_api_State_api_Item.j1 (r_ : (List SItem)) (newslice13 : (List SItem)) : Prop := r_ = newslice13
def slices_Concat_api_State_api_Item.l1 (slices_ : (List (List SItem))) (X1 : (List SItem) → Prop) : Nat → (List SItem) → Int → Prop
  | 0, _, _ => False
  | k_0 + 1, newslice17, v19 => ((decide (v19 < (slices_.length : Int))) = true → ∃ e27 : (List SItem), at? slices_ v19 = some e27 ∧ (newslice17.length + e27.length ≤ 2147483648) ∧ (InR .i64 (v19 + 1)) ∧ slices_Concat_api_State_api_Item.l1 slices_ X1 k_0 (newslice17 ++ e27) (v19 + 1)) ∧ ((decide (v19 < (slices_.length : Int))) = false → X1 newslice17)
def slices_Concat_api_State_api_Item.j2 (slices_ : (List (List SItem))) (r_ : (List SItem)) (size5 : Int) : Prop := ∃ r8 : (List SItem), slices_Grow_api_State_api_Item [] size5 r8 ∧ ∃ k20, slices_Concat_api_State_api_Item.l1 slices_ (slices_Concat_api_State_api_Item.j1 r_) k20 r8 0
def slices_Concat_api_State_api_Item.l2 (slices_ : (List (List SItem))) (X2 : Int → Prop) : Nat → Int → Int → Prop
  | 0, _, _ => False
  | k_0 + 1, size32, v33 => ((decide (v33 < (slices_.length : Int))) = true → ∃ e41 : (List SItem), at? slices_ v33 = some e41 ∧ (InR .i64 (size32 + (e41.length : Int))) ∧ ((decide (size32 + (e41.length : Int) < 0)) = true → False) ∧ ((decide (size32 + (e41.length : Int) < 0)) = false → (InR .i64 (v33 + 1)) ∧ slices_Concat_api_State_api_Item.l2 slices_ X2 k_0 (size32 + (e41.length : Int)) (v33 + 1))) ∧ ((decide (v33 < (slices_.length : Int))) = false → X2 size32)
def slices_Concat_api_State_api_Item (slices_ : (List (List SItem))) (r_ : (List SItem)) : Prop := ∃ k34, slices_Concat_api_State_api_Item.l2 slices_ (slices_Concat_api_State_api_Item.j2 slices_ r_) k34 0 0
def cmp_isNaN_int (x_ : Int) (r_ : Bool) : Prop := r_ = (x_ != x_)
def cmp_Compare_int (x_ : Int) (y_ : Int) (r_ : Int) : Prop := ∃ r3 : Bool, cmp_isNaN_int x_ r3 ∧ ∃ r6 : Bool, cmp_isNaN_int y_ r6 ∧ ((r3) = true → ((r6) = true → r_ = 0) ∧ ((r6) = false → r_ = (-1))) ∧ ((r3) = false → ((r6) = true → r_ = 1) ∧ ((r6) = false → ((decide (x_ < y_)) = true → r_ = (-1)) ∧ ((decide (x_ < y_)) = false → ((decide (y_ < x_)) = true → r_ = 1) ∧ ((decide (y_ < x_)) = false → r_ = 0))))
def slices_CompareFunc_api_State_api_State_api_Item_api_Item.j1 (s1_ : (List SItem)) (s2_ : (List SItem)) (r_ : Int) : Prop := ((decide ((s1_.length : Int) < (s2_.length : Int))) = true → r_ = (-1)) ∧ ((decide ((s1_.length : Int) < (s2_.length : Int))) = false → r_ = 0)
def slices_CompareFunc_api_State_api_State_api_Item_api_Item.l1 (s1_ : (List SItem)) (s2_ : (List SItem)) (cmp_ : (SItem × SItem × Int → Prop)) (r_ : Int) (X1 : Prop) : Nat → Int → Prop
  | 0, _ => False
  | k_0 + 1, v9 => ((decide (v9 < (s1_.length : Int))) = true → ∃ e17 : SItem, at? s1_ v9 = some e17 ∧ ((decide ((s2_.length : Int) ≤ v9)) = true → r_ = 1) ∧ ((decide ((s2_.length : Int) ≤ v9)) = false → ∃ e24 : SItem, at? s2_ v9 = some e24 ∧ ∃ r29 : Int, cmp_ (e17, e24, r29) ∧ (((r29 != 0)) = true → r_ = r29) ∧ (((r29 != 0)) = false → (InR .i64 (v9 + 1)) ∧ slices_CompareFunc_api_State_api_State_api_Item_api_Item.l1 s1_ s2_ cmp_ r_ X1 k_0 (v9 + 1)))) ∧ ((decide (v9 < (s1_.length : Int))) = false → X1)
def slices_CompareFunc_api_State_api_State_api_Item_api_Item (s1_ : (List SItem)) (s2_ : (List SItem)) (cmp_ : (SItem × SItem × Int → Prop)) (r_ : Int) : Prop := ∃ k10, slices_CompareFunc_api_State_api_State_api_Item_api_Item.l1 s1_ s2_ cmp_ r_ (slices_CompareFunc_api_State_api_State_api_Item_api_Item.j1 s1_ s2_ r_) k10 0
def cmp_Or_int.j1 (r_ : Int) : Prop := r_ = 0
def cmp_Or_int.l1 (vals_ : (List Int)) (r_ : Int) (X1 : Prop) : Nat → Int → Prop
  | 0, _ => False
  | k_0 + 1, v7 => ((decide (v7 < (vals_.length : Int))) = true → ∃ e15 : Int, at? vals_ v7 = some e15 ∧ (((e15 != 0)) = true → r_ = e15) ∧ (((e15 != 0)) = false → (InR .i64 (v7 + 1)) ∧ cmp_Or_int.l1 vals_ r_ X1 k_0 (v7 + 1))) ∧ ((decide (v7 < (vals_.length : Int))) = false → X1)
def cmp_Or_int (vals_ : (List Int)) (r_ : Int) : Prop := ∃ k8, cmp_Or_int.l1 vals_ r_ (cmp_Or_int.j1 r_) k8 0
def slices_Clone_api_State_api_Item (s_ : (List SItem)) (r_ : (List SItem)) : Prop := ∀ b4 : Bool, (b4 = true → s_ = []) → ((b4) = true → r_ = ([] : (List SItem))) ∧ ((b4) = false → (([] : (List SItem)).length + s_.length ≤ 2147483648) ∧ r_ = ([] : (List SItem)) ++ s_)
end Go.Proofs.YtdidjelkkanenaaDoor.V
namespace Go.Proofs.YtdidjelkkanenaaDoor.V
open Go
set_option linter.unusedVariables false
set_option maxRecDepth 100000
theorem slices_Concat_api_State_api_Item_ok {slices_ : (List (List SItem))} {r_ : (List SItem)} (h : slices_Concat_api_State_api_Item slices_ r_) : Fn Tryd.prog 62 [(Pd.rep (En.slice (En.slice En.SItem)) slices_)] (Ro En.SItem 43 r_) := by
  unfold slices_Concat_api_State_api_Item at h
  refine fn_of Tryd.func62 rfl Tryd.ntmps62 (by rfl) (by simp) fun s0 a hL => ?_
  refine wp_seq_k fun K1 hK1=>rg (sx 2 (t_assign (o_nil (E := En.SItem) (N := s0.w.heap.size) (te := 43)) rfl rfl) hL fun a s e_ hL=>?_)
  refine en' (hK1 _ _ ?_)
  refine wp_seq_k fun K2 hK2=>rg (sx 3 (t_assign (o_i (k := .i64) (by decide)) rfl rfl) hL fun a s e_ hL=>?_)
  refine en' (hK2 _ _ ?_)
  refine wp_seq_k fun K3 hK3=>wp_seq_k fun K4 hK4=>rg (sx 9 (t_move (o_t 0 rfl) rfl rfl) hL fun a s e_ hL=>?_)
  refine sx 10 (t_len (o_t 9 rfl) Tryd.underlying33 rfl rfl) hL fun a s e_ hL=>sx 11 (t_move (o_i (k := .i64) (by decide)) rfl rfl) hL fun a s e_ hL=>en' (hK4 _ _ ?_)
  refine wp_block ?_
  have J6 : ∀ (size5 : Int) (a : Act) (s : St), Has N0 36 s0 a s [(0, (Pd.rep (En.slice (En.slice En.SItem)) slices_)), (3, (Pd.rep (En.int .i64) size5))] → ((slices_Concat_api_State_api_Item.j2 slices_ r_) size5) → K3 a s.w := by
    intro size5 a s hL h
    unfold slices_Concat_api_State_api_Item.j2 at h
    show K3 a s.w
    refine hK3 _ _ (wp_seq_k fun K7 hK7=>?_)
    obtain ⟨r8, h9, h⟩ := h
    refine rg (sx 23 (t_move (o_t 3 rfl) rfl rfl) hL fun a s e_ hL=>?_)
    refine st_callo 24 hL (slices_Grow_api_State_api_Item_ok h9) (xs := [.const (.slice none 0 0), .tmp 23]) (.cons o_nilv (.cons (o_t 23 rfl) .nil)) rfl rfl rfl rfl fun a s og10 hg_ hL => ?_
    refine sx 6 (t_assign (o_t 24 rfl) rfl rfl) hL fun a s e_ hL=>en' (hK7 _ _ ?_)
    refine wp_seq_k fun K11 hK11=>wp_seq_k fun K12 hK12=>rg (sx 25 (t_move (o_t 0 rfl) rfl rfl) hL fun a s e_ hL=>?_)
    refine sx 26 (t_len (o_t 25 rfl) Tryd.underlying33 rfl rfl) hL fun a s e_ hL=>sx 27 (t_move (o_i (k := .i64) (by decide)) rfl rfl) hL fun a s e_ hL=>en' (hK12 _ _ ?_)
    refine wp_block ?_
    have J15 : ∀ (newslice13 : (List SItem)) (og14 : Option Nat) (a : Act) (s : St), Has N0 36 s0 a s [(6, (Pd.row En.SItem s0.w.heap.size 43 og14 newslice13))] → ((slices_Concat_api_State_api_Item.j1 r_) newslice13) → K11 a s.w := by
      intro newslice13 og14 a s hL h
      unfold slices_Concat_api_State_api_Item.j1 at h
      show K11 a s.w
      refine hK11 _ _ (wp_seq_k fun K16 hK16=>?_)
      refine rg (sx 35 (t_move (o_t 6 rfl) rfl rfl) hL fun a s e_ hL=>?_)
      refine sx 2 (t_assign (o_t 35 rfl) rfl rfl) hL fun a s e_ hL=>en' (hK16 _ _ ?_)
      subst h
      exact wp_ret (reto rfl hL rfl)
    obtain ⟨k20, h⟩ := h
    refine lpg (fun k21 a s => ∃ (newslice17 : (List SItem)) (v19 : Int) (og18 : Option Nat), Has N0 36 s0 a s [(6, (Pd.row En.SItem s0.w.heap.size 43 og18 newslice17)), (25, (Pd.rep (En.slice (En.slice En.SItem)) slices_)), (26, (Pd.rep (En.int .i64) (slices_.length : Int))), (27, (Pd.rep (En.int .i64) v19))] ∧ slices_Concat_api_State_api_Item.l1 slices_ (slices_Concat_api_State_api_Item.j1 r_) k21 newslice17 v19) k20 ⟨r8, 0, og10, hL.keep (.cons (t := 6) rfl (fun _ _ h_ => h_) (.cons (t := 25) rfl nE (.cons (t := 26) rfl nE (.cons (t := 27) rfl nE .nil)))), h⟩ ?_
    rintro k21 a s ⟨newslice17, v19, og18, hL, h⟩ KL22 hKL22
    cases k21 with
    | zero => exact h.elim
    | succ k21 =>
    unfold slices_Concat_api_State_api_Item.l1 at h
    refine wp_seq_k fun K23 hK23=>rg (sx 28 (t_lss (o_t 27 rfl) (o_t 26 rfl) rfl rfl) hL fun a s e_ hL=>?_)
    refine en' (hK23 _ _ ?_)
    refine wp_seq_k fun K24 hK24=>cnd hL rfl (fun hb_ => ?_) (fun hb_ => ?_)
    · replace h := h.1 hb_
      refine wp_skip ?_
      show K24 a s.w
      refine hK24 _ _ (wp_seq_k fun K25 hK25=>?_)
      refine wp_block (wp_seq_k fun K26 hK26=>?_)
      obtain ⟨e27, h28, h⟩ := h
      refine rg (sx 29 (t_idx (o_t 25 rfl) (o_t 27 rfl) h28 Tryd.underlying33 ty26 rfl rfl) hL fun a s e_ hL=>?_)
      refine sx 30 (t_load ty26 (o_t 29 rfl) rfl rfl) hL fun a s e_ hL=>sx 8 (t_assign (o_t 30 rfl) rfl rfl) hL fun a s e_ hL=>en' (hK26 _ _ ?_)
      obtain ⟨h29, h⟩ := h
      refine rg (sx 31 (t_move (o_t 6 rfl) rfl rfl) hL fun a s e_ hL=>?_)
      refine sx 32 (t_move (o_t 8 rfl) rfl rfl) hL fun a s e_ hL=>st_app (L' := [(25, (Pd.rep (En.slice (En.slice En.SItem)) slices_)), (26, (Pd.rep (En.int .i64) (slices_.length : Int))), (27, (Pd.rep (En.int .i64) v19))]) 33 hL (o_t 31 rfl) (o_t 32 rfl) Tryd.underlying26 ty43 h29 rfl rfl rfl rfl (.cons (t := 25) rfl nE (.cons (t := 26) rfl nE (.cons (t := 27) rfl nE .nil))) fun a s og30 hg_ hL => ?_
      refine sx 6 (t_assign (o_t 33 rfl) rfl rfl) hL fun a s e_ hL=>en' (hK25 _ _ ?_)
      obtain ⟨h31, h⟩ := h
      refine rg (sx 34 (t_add (o_t 27 rfl) (o_i (k := .i64) (by decide)) h31 rfl rfl) hL fun a s e_ hL=>?_)
      refine sx 27 (t_move (o_t 34 rfl) rfl rfl) hL fun a s e_ hL=>en' ?_
      exact hKL22 k21 a s (Nat.lt_succ_self _) ⟨(newslice17 ++ e27), (v19 + 1), og30, hL.keep (.cons (t := 6) rfl (fun _ _ h_ => h_) (.cons (t := 25) rfl nE (.cons (t := 26) rfl nE (.cons (t := 27) rfl nE .nil)))), h⟩
    · replace h := h.2 hb_
      refine wp_exit ?_
      exact J15 newslice17 og18 a s (hL.keep (.cons (t := 6) rfl (fun _ _ h_ => h_) .nil)) h
  obtain ⟨k34, h⟩ := h
  refine lpg (fun k35 a s => ∃ (size32 : Int) (v33 : Int), Has N0 36 s0 a s [(0, (Pd.rep (En.slice (En.slice En.SItem)) slices_)), (3, (Pd.rep (En.int .i64) size32)), (9, (Pd.rep (En.slice (En.slice En.SItem)) slices_)), (10, (Pd.rep (En.int .i64) (slices_.length : Int))), (11, (Pd.rep (En.int .i64) v33))] ∧ slices_Concat_api_State_api_Item.l2 slices_ (slices_Concat_api_State_api_Item.j2 slices_ r_) k35 size32 v33) k34 ⟨0, 0, hL.keep (.cons (t := 0) rfl nE (.cons (t := 3) rfl nE (.cons (t := 9) rfl nE (.cons (t := 10) rfl nE (.cons (t := 11) rfl nE .nil))))), h⟩ ?_
  rintro k35 a s ⟨size32, v33, hL, h⟩ KL36 hKL36
  cases k35 with
  | zero => exact h.elim
  | succ k35 =>
  unfold slices_Concat_api_State_api_Item.l2 at h
  refine wp_seq_k fun K37 hK37=>rg (sx 12 (t_lss (o_t 11 rfl) (o_t 10 rfl) rfl rfl) hL fun a s e_ hL=>?_)
  refine en' (hK37 _ _ ?_)
  refine wp_seq_k fun K38 hK38=>cnd hL rfl (fun hb_ => ?_) (fun hb_ => ?_)
  · replace h := h.1 hb_
    refine wp_skip ?_
    show K38 a s.w
    refine hK38 _ _ (wp_seq_k fun K39 hK39=>?_)
    refine wp_block (wp_seq_k fun K40 hK40=>?_)
    obtain ⟨e41, h42, h⟩ := h
    refine rg (sx 13 (t_idx (o_t 9 rfl) (o_t 11 rfl) h42 Tryd.underlying33 ty26 rfl rfl) hL fun a s e_ hL=>?_)
    refine sx 14 (t_load ty26 (o_t 13 rfl) rfl rfl) hL fun a s e_ hL=>sx 5 (t_assign (o_t 14 rfl) rfl rfl) hL fun a s e_ hL=>en' (hK40 _ _ ?_)
    refine wp_seq_k fun K43 hK43=>?_
    obtain ⟨h44, h⟩ := h
    refine rg (sx 15 (t_move (o_t 3 rfl) rfl rfl) hL fun a s e_ hL=>?_)
    refine sx 16 (t_move (o_t 5 rfl) rfl rfl) hL fun a s e_ hL=>sx 17 (t_len (o_t 16 rfl) Tryd.underlying26 rfl rfl) hL fun a s e_ hL=>sx 18 (t_add (o_t 15 rfl) (o_t 17 rfl) h44 rfl rfl) hL fun a s e_ hL=>sx 3 (t_assign (o_t 18 rfl) rfl rfl) hL fun a s e_ hL=>en' (hK43 _ _ ?_)
    refine wp_seq_k fun K45 hK45=>rg (sx 19 (t_move (o_t 3 rfl) rfl rfl) hL fun a s e_ hL=>?_)
    refine sx 20 (t_lss (o_t 19 rfl) (o_i (k := .i64) (by decide)) rfl rfl) hL fun a s e_ hL=>en' (hK45 _ _ ?_)
    refine cnd hL rfl (fun hb_ => ?_) (fun hb_ => ?_)
    · replace h := h.1 hb_
      exact h.elim
    · replace h := h.2 hb_
      refine wp_skip ?_
      show K39 a s.w
      refine hK39 _ _ ?_
      obtain ⟨h46, h⟩ := h
      refine rg (sx 22 (t_add (o_t 11 rfl) (o_i (k := .i64) (by decide)) h46 rfl rfl) hL fun a s e_ hL=>?_)
      refine sx 11 (t_move (o_t 22 rfl) rfl rfl) hL fun a s e_ hL=>en' ?_
      exact hKL36 k35 a s (Nat.lt_succ_self _) ⟨(size32 + (e41.length : Int)), (v33 + 1), hL.keep (.cons (t := 0) rfl nE (.cons (t := 3) rfl nE (.cons (t := 9) rfl nE (.cons (t := 10) rfl nE (.cons (t := 11) rfl nE .nil))))), h⟩
  · replace h := h.2 hb_
    refine wp_exit ?_
    exact J6 size32 a s (hL.keep (.cons (t := 0) rfl nE (.cons (t := 3) rfl nE .nil))) h
theorem slices_Clone_api_State_api_Item_ok {s_ : (List SItem)} {r_ : (List SItem)} (h : slices_Clone_api_State_api_Item s_ r_) : Fn Tryd.prog 64 [(Pd.rep (En.slice En.SItem) s_)] (Ro En.SItem 43 r_) := by
  unfold slices_Clone_api_State_api_Item at h
  refine fn_of Tryd.func64 rfl Tryd.ntmps64 (by rfl) (by simp) fun s0 a hL => ?_
  refine wp_seq_k fun K1 hK1=>rg (sx 2 (t_assign (o_nil (E := En.SItem) (N := s0.w.heap.size) (te := 43)) rfl rfl) hL fun a s e_ hL=>?_)
  refine en' (hK1 _ _ ?_)
  refine wp_seq_k fun K2 hK2=>wp_seq_k fun K3 hK3=>rg (sx 3 (t_move (o_t 0 rfl) rfl rfl) hL fun a s e_ hL=>?_)
  refine sx 4 (t_isnil (o_t 3 rfl) Tryd.underlying26 rfl rfl) hL fun a s e_ hL=>?_
  obtain ⟨b4, h5, hL⟩ := hL.nilq 4 rfl
  replace h := h b4 h5
  refine en' (hK3 _ _ ?_)
  refine cnd hL rfl (fun hb_ => ?_) (fun hb_ => ?_)
  · replace h := h.1 hb_
    refine wp_seq_k fun K6 hK6=>rg (sx 2 (t_assign (o_nil (E := En.SItem) (N := s0.w.heap.size) (te := 43)) rfl rfl) hL fun a s e_ hL=>?_)
    refine en' (hK6 _ _ ?_)
    subst h
    exact wp_ret (reto rfl hL rfl)
  · replace h := h.2 hb_
    refine wp_skip ?_
    show K2 a s.w
    refine hK2 _ _ (wp_seq_k fun K7 hK7=>?_)
    obtain ⟨h9, h⟩ := h
    refine rg (st_new En.SItem 5 hL Tryd.underlying26 ty43 rfl rfl rfl rfl fun a s g8 hg_ hL => ?_)
    refine sx 6 (t_move (o_t 0 rfl) rfl rfl) hL fun a s e_ hL=>st_app (L' := [(2, (Pd.row En.SItem s0.w.heap.size 43 none ([] : (List SItem))))]) 7 hL (o_t 5 rfl) (o_t 6 rfl) Tryd.underlying26 ty43 h9 rfl rfl rfl rfl (.cons (t := 2) rfl no_own .nil) fun a s og10 hg_ hL => ?_
    refine sx 2 (t_assign (o_t 7 rfl) rfl rfl) hL fun a s e_ hL=>en' (hK7 _ _ ?_)
    subst h
    exact wp_ret (reto rfl hL rfl)
end Go.Proofs.YtdidjelkkanenaaDoor.V
namespace Go.Proofs.YtdidjelkkanenaaDoor.V
open Go
set_option linter.unusedVariables false
def class_Has (a_ : Cl) (cv_ : Int) (r_ : Bool) : Prop := (0 ≤ (cv_ / 64) ∧ (cv_ / 64) < 4) ∧ ∃ b4 : Bool, b4 = ((andI (shrI (Cl.w a_ (cv_ / 64)) (cv_ % 64)) 1) == 1) ∧ r_ = b4
def ref01_Of.j1 (r_ : Cl) (a8 : Cl) : Prop := r_ = a8
def ref01_Of.j2 (L1_ : Cl → Int → Prop) (w13 : Int) (a23 : Cl) : Prop := (InR .i64 (w13 + 1)) ∧ L1_ a23 (w13 + 1)
def ref01_Of.l2 (l_ : (List Bool)) (w13 : Int) (X2 : Cl → Prop) : Nat → Cl → Int → Int → Prop
  | 0, _, _, _ => False
  | k_0 + 1, a27, bit28, i29 => ((decide (i29 < 64)) = true → (InR .i64 (64 * w13)) ∧ (InR .i64 ((64 * w13) + i29)) ∧ ∃ e41 : Bool, at? l_ ((64 * w13) + i29) = some e41 ∧ ((e41) = true → (0 ≤ w13 ∧ w13 < 4) ∧ (0 ≤ w13 ∧ w13 < 4) ∧ (InR .i64 (i29 + 1)) ∧ ref01_Of.l2 l_ w13 X2 k_0 (Cl.setw a27 w13 (IntKind.wrap .u64 ((Cl.w a27 w13) + bit28))) (IntKind.wrap .u64 (bit28 * 2)) (i29 + 1)) ∧ ((e41) = false → (InR .i64 (i29 + 1)) ∧ ref01_Of.l2 l_ w13 X2 k_0 a27 (IntKind.wrap .u64 (bit28 * 2)) (i29 + 1))) ∧ ((decide (i29 < 64)) = false → X2 a27)
def ref01_Of.l1 (l_ : (List Bool)) (X1 : Cl → Prop) : Nat → Cl → Int → Prop
  | 0, _, _ => False
  | k_0 + 1, a12, w13 => ((decide (w13 < 4)) = true → ∃ k30, ref01_Of.l2 l_ w13 (ref01_Of.j2 (ref01_Of.l1 l_ X1 k_0) w13) k30 a12 1 0) ∧ ((decide (w13 < 4)) = false → X1 a12)
def ref01_Of (l_ : (List Bool)) (r_ : Cl) : Prop := ∃ k14, ref01_Of.l1 l_ (ref01_Of.j1 r_) k14 (0#256) 0
def ref01_Row.j1 (r_ : Cl) (l8 : (List Bool)) : Prop := ∃ r15 : Cl, ref01_Of l8 r15 ∧ r_ = r15
def ref01_Row.l1 (to_ : Int) (X1 : (List Bool) → Prop) : Nat → (List Bool) → Int → Prop
  | 0, _, _ => False
  | k_0 + 1, l17, i19 => ((decide (i19 ≤ to_)) = true → ∃ e27 : Bool, at? l17 i19 = some e27 ∧ (InR .i64 (i19 + 1)) ∧ ref01_Row.l1 to_ X1 k_0 (l17.set (i19 : Int).toNat true) (i19 + 1)) ∧ ((decide (i19 ≤ to_)) = false → X1 l17)
def ref01_Row (from_ : Int) (to_ : Int) (r_ : Cl) : Prop := ∃ k20, ref01_Row.l1 to_ (ref01_Row.j1 r_) k20 (List.replicate 256 false) from_
def class_Add.j1 (r_ : Cl) (a7 : Cl) : Prop := r_ = a7
def class_Add.l1 (list_ : (List Int)) (X1 : Cl → Prop) : Nat → Cl → Int → Prop
  | 0, _, _ => False
  | k_0 + 1, a11, v12 => ((decide (v12 < (list_.length : Int))) = true → ∃ e21 : Int, at? list_ v12 = some e21 ∧ (0 ≤ (e21 / 64) ∧ (e21 / 64) < 4) ∧ (0 ≤ (e21 / 64) ∧ (e21 / 64) < 4) ∧ (InR .i64 (v12 + 1)) ∧ class_Add.l1 list_ X1 k_0 (Cl.setw a11 (e21 / 64) (orI (Cl.w a11 (e21 / 64)) (shlI 1 (e21 % 64)))) (v12 + 1)) ∧ ((decide (v12 < (list_.length : Int))) = false → X1 a11)
def class_Add (a_ : Cl) (list_ : (List Int)) (r_ : Cl) : Prop := ∃ k13, class_Add.l1 list_ (class_Add.j1 r_) k13 a_ 0
def class_Of.j1 (r_ : Cl) (a8 : Cl) : Prop := r_ = a8
def class_Of.l1 (from_ : Int) (to_ : Int) (X1 : Cl → Prop) : Nat → Cl → Int → Prop
  | 0, _, _ => False
  | k_0 + 1, a12, v13 => ((decide (v13 < 256)) = true → ∃ b24 : Bool, b24 = ((decide (from_ ≤ v13 % 256)) && (decide (v13 % 256 ≤ to_))) ∧ ((b24) = true → ∃ r26 : Cl, class_Add a12 [v13 % 256] r26 ∧ (InR .i64 (v13 + 1)) ∧ class_Of.l1 from_ to_ X1 k_0 r26 (v13 + 1)) ∧ ((b24) = false → (InR .i64 (v13 + 1)) ∧ class_Of.l1 from_ to_ X1 k_0 a12 (v13 + 1))) ∧ ((decide (v13 < 256)) = false → X1 a12)
def class_Of (from_ : Int) (to_ : Int) (r_ : Cl) : Prop := ∃ k14, class_Of.l1 from_ to_ (class_Of.j1 r_) k14 (0#256) 0
def ref01_Has.j1 (r_ : Bool) (w7 : Int) : Prop := r_ = ((w7 % 2) == 1)
def ref01_Has.l1 (cv_ : Int) (X1 : Int → Prop) : Nat → Int → Int → Prop
  | 0, _, _ => False
  | k_0 + 1, w10, i11 => (0 ≤ cv_) ∧ ((decide (i11 < cv_ % 64)) = true → (InR .i64 (i11 + 1)) ∧ ref01_Has.l1 cv_ X1 k_0 (w10 / 2) (i11 + 1)) ∧ ((decide (i11 < cv_ % 64)) = false → X1 w10)
def ref01_Has (a_ : Cl) (cv_ : Int) (r_ : Bool) : Prop := (0 ≤ cv_) ∧ (0 ≤ (cv_ / 64) ∧ (cv_ / 64) < 4) ∧ ∃ k12, ref01_Has.l1 cv_ (ref01_Has.j1 r_) k12 (Cl.w a_ (cv_ / 64)) 0
end Go.Proofs.YtdidjelkkanenaaDoor.V
namespace Go.Proofs.YtdidjelkkanenaaDoor.V
open Go
set_option linter.unusedVariables false
set_option maxRecDepth 100000
theorem class_Has_ok {a_ : Cl} {cv_ : Int} {r_ : Bool} (h : class_Has a_ cv_ r_) : Fn Tryd.prog 137 [(Pd.rep En.cls a_), (Pd.rep (En.int .u8) cv_)] (Rq (Pd.rep En.bool r_)) := by
  unfold class_Has at h
  refine fn_of Tryd.func137 rfl Tryd.ntmps137 (by rfl) (by simp) fun s0 a hL => ?_
  refine wp_seq_k fun K1 hK1=>rg (sx 2 (t_box (o_t 0 rfl) rfl rfl) hL fun a s e_ hL=>?_)
  refine sx 4 (t_assign o_b rfl rfl) hL fun a s e_ hL=>en' (hK1 _ _ ?_)
  refine wp_seq_k fun K2 hK2=>?_
  obtain ⟨h3, b4, h5, h⟩ := h
  refine rg (sx 5 (t_move (o_t 1 rfl) rfl rfl) hL fun a s e_ hL=>?_)
  refine sx 6 (t_quou (o_t 5 rfl) (o_i (k := .u8) (by decide)) (by decide) (by decide) rfl rfl) hL fun a s e_ hL=>sx 7 (t_idxc (o_t 2 rfl) (o_t 6 rfl) h3 Tryd.underlying46 (by rfl) rfl rfl) hL fun a s e_ hL=>sx 8 (t_load ty44 (o_t 7 rfl) rfl rfl) hL fun a s e_ hL=>sx 9 (t_move (o_t 1 rfl) rfl rfl) hL fun a s e_ hL=>sx 10 (t_remu (o_t 9 rfl) (o_i (k := .u8) (by decide)) (by decide) (by decide) rfl rfl) hL fun a s e_ hL=>sx 11 (t_shr (o_t 8 rfl) (o_t 10 rfl) (by decide) rfl rfl) hL fun a s e_ hL=>sx 12 (t_andb (o_t 11 rfl) (o_i (k := .u64) (by decide)) rfl rfl) hL fun a s e_ hL=>sx 13 (h5 ▸ (t_eqi (o_t 12 rfl) (o_i (k := .u64) (by decide)) rfl rfl)) hL fun a s e_ hL=>sx 4 (t_assign (o_t 13 rfl) rfl rfl) hL fun a s e_ hL=>?_
  refine en' (hK2 _ _ ?_)
  subst h
  exact wp_ret (retq rfl hL rfl)
theorem ref01_Of_ok {l_ : (List Bool)} {r_ : Cl} (h : ref01_Of l_ r_) : Fn Tryd.prog 71 [(Pd.rep (En.slice En.bool) l_)] (Rq (Pd.rep En.cls r_)) := by
  unfold ref01_Of at h
  refine fn_of Tryd.func71 rfl Tryd.ntmps71 (by rfl) (by simp) fun s0 a hL => ?_
  refine wp_seq_k fun K1 hK1=>rg (st_alloc En.cls (z := (0#256)) 2 hL tyz46 rfl rfl rfl rfl fun a s g2 hg_ hL => ?_)
  refine en' (hK1 _ _ ?_)
  refine wp_seq_k fun K3 hK3=>rg ?_
  have lt_d5 := hL.blt 2 rfl
  refine st_alloc En.cls (z := (0#256)) 3 hL tyz46 rfl rfl rfl rfl fun a s g4 hg_ hL => ?_
  have d5 : Dis (some g4) (some g2) := Dis.newg hg_ lt_d5
  refine en' (hK3 _ _ ?_)
  refine wp_seq_k fun K6 hK6=>wp_seq_k fun K7 hK7=>rg (sx 4 (t_assign (o_i (k := .i64) (by decide)) rfl rfl) hL fun a s e_ hL=>?_)
  refine en' (hK7 _ _ ?_)
  refine wp_block ?_
  have J9 : ∀ (a8 : Cl) (a : Act) (s : St), Has N0 32 s0 a s [(2, (Pd.box En.cls s0.w.heap.size g2 (0#256))), (3, (Pd.box En.cls s0.w.heap.size g4 a8))] → Dis (some g2) (some g4) → ((ref01_Of.j1 r_) a8) → K6 a s.w := by
    intro a8 a s hL d10 h
    unfold ref01_Of.j1 at h
    show K6 a s.w
    refine hK6 _ _ (wp_seq_k fun K11 hK11=>?_)
    refine rg (sx 31 (t_loadb ty46 (o_t 3 rfl) rfl rfl) hL fun a s e_ hL=>?_)
    refine st_stb (L' := []) 2 hL rfl (o_t 31 rfl) ty46 rfl rfl rfl .nil fun s hL => ?_
    refine en' (hK11 _ _ ?_)
    subst h
    exact wp_ret (retb rfl ty46 hL rfl)
  obtain ⟨k14, h⟩ := h
  refine lpg (fun k15 a s => ∃ (a12 : Cl) (w13 : Int), Has N0 32 s0 a s [(0, (Pd.rep (En.slice En.bool) l_)), (2, (Pd.box En.cls s0.w.heap.size g2 (0#256))), (3, (Pd.box En.cls s0.w.heap.size g4 a12)), (4, (Pd.rep (En.int .i64) w13))] ∧ Dis (some g2) (some g4) ∧ ref01_Of.l1 l_ (ref01_Of.j1 r_) k15 a12 w13) k14 ⟨(0#256), 0, hL.keep (.cons (t := 0) rfl nE (.cons (t := 2) rfl (fun _ _ h_ => h_) (.cons (t := 3) rfl (fun _ _ h_ => h_) (.cons (t := 4) rfl nE .nil)))), (Dis.symm d5), h⟩ ?_
  rintro k15 a s ⟨a12, w13, hL, d17, h⟩ KL16 hKL16
  cases k15 with
  | zero => exact h.elim
  | succ k15 =>
  unfold ref01_Of.l1 at h
  refine wp_seq_k fun K18 hK18=>wp_seq_k fun K19 hK19=>rg (sx 7 (t_move (o_t 4 rfl) rfl rfl) hL fun a s e_ hL=>?_)
  refine sx 8 (t_lss (o_t 7 rfl) (o_i (k := .i64) (by decide)) rfl rfl) hL fun a s e_ hL=>en' (hK19 _ _ ?_)
  refine cnd hL rfl (fun hb_ => ?_) (fun hb_ => ?_)
  · replace h := h.1 hb_
    refine wp_skip ?_
    show K18 a s.w
    refine hK18 _ _ (wp_seq_k fun K20 hK20=>?_)
    refine wp_block (wp_seq_k fun K21 hK21=>?_)
    refine rg (sx 5 (t_assign (o_i (k := .u64) (by decide)) rfl rfl) hL fun a s e_ hL=>?_)
    refine en' (hK21 _ _ ?_)
    refine wp_seq_k fun K22 hK22=>rg (sx 6 (t_assign (o_i (k := .i64) (by decide)) rfl rfl) hL fun a s e_ hL=>?_)
    refine en' (hK22 _ _ ?_)
    refine wp_block ?_
    have J24 : ∀ (a23 : Cl) (a : Act) (s : St), Has N0 32 s0 a s [(0, (Pd.rep (En.slice En.bool) l_)), (2, (Pd.box En.cls s0.w.heap.size g2 (0#256))), (3, (Pd.box En.cls s0.w.heap.size g4 a23)), (4, (Pd.rep (En.int .i64) w13))] → Dis (some g2) (some g4) → ((ref01_Of.j2 (ref01_Of.l1 l_ (ref01_Of.j1 r_) k15) w13) a23) → K20 a s.w := by
      intro a23 a s hL d25 h
      unfold ref01_Of.j2 at h
      show K20 a s.w
      refine hK20 _ _ ?_
      obtain ⟨h26, h⟩ := h
      refine rg (sx 9 (t_move (o_t 4 rfl) rfl rfl) hL fun a s e_ hL=>?_)
      refine sx 10 (t_add (o_t 9 rfl) (o_i (k := .i64) (by decide)) h26 rfl rfl) hL fun a s e_ hL=>sx 4 (t_assign (o_t 10 rfl) rfl rfl) hL fun a s e_ hL=>en' ?_
      exact hKL16 k15 a s (Nat.lt_succ_self _) ⟨a23, (w13 + 1), hL.keep (.cons (t := 0) rfl nE (.cons (t := 2) rfl (fun _ _ h_ => h_) (.cons (t := 3) rfl (fun _ _ h_ => h_) (.cons (t := 4) rfl nE .nil)))), d25, h⟩
    obtain ⟨k30, h⟩ := h
    refine lpg (fun k31 a s => ∃ (a27 : Cl) (bit28 : Int) (i29 : Int), Has N0 32 s0 a s [(0, (Pd.rep (En.slice En.bool) l_)), (2, (Pd.box En.cls s0.w.heap.size g2 (0#256))), (3, (Pd.box En.cls s0.w.heap.size g4 a27)), (4, (Pd.rep (En.int .i64) w13)), (5, (Pd.rep (En.int .u64) bit28)), (6, (Pd.rep (En.int .i64) i29))] ∧ Dis (some g2) (some g4) ∧ ref01_Of.l2 l_ w13 (ref01_Of.j2 (ref01_Of.l1 l_ (ref01_Of.j1 r_) k15) w13) k31 a27 bit28 i29) k30 ⟨a12, 1, 0, hL.keep (.cons (t := 0) rfl nE (.cons (t := 2) rfl (fun _ _ h_ => h_) (.cons (t := 3) rfl (fun _ _ h_ => h_) (.cons (t := 4) rfl nE (.cons (t := 5) rfl nE (.cons (t := 6) rfl nE .nil)))))), d17, h⟩ ?_
    rintro k31 a s ⟨a27, bit28, i29, hL, d33, h⟩ KL32 hKL32
    cases k31 with
    | zero => exact h.elim
    | succ k31 =>
    unfold ref01_Of.l2 at h
    refine wp_seq_k fun K34 hK34=>wp_seq_k fun K35 hK35=>rg (sx 11 (t_move (o_t 6 rfl) rfl rfl) hL fun a s e_ hL=>?_)
    refine sx 12 (t_lss (o_t 11 rfl) (o_i (k := .i64) (by decide)) rfl rfl) hL fun a s e_ hL=>en' (hK35 _ _ ?_)
    refine cnd hL rfl (fun hb_ => ?_) (fun hb_ => ?_)
    · replace h := h.1 hb_
      refine wp_skip ?_
      show K34 a s.w
      refine hK34 _ _ (wp_seq_k fun K36 hK36=>?_)
      refine wp_block (wp_seq_k fun K37 hK37=>?_)
      refine wp_seq_k fun K38 hK38=>?_
      obtain ⟨h39, h40, e41, h42, h⟩ := h
      refine rg (sx 15 (t_move (o_t 0 rfl) rfl rfl) hL fun a s e_ hL=>?_)
      refine sx 16 (t_move (o_t 4 rfl) rfl rfl) hL fun a s e_ hL=>sx 17 (t_mul (o_i (k := .i64) (by decide)) (o_t 16 rfl) h39 rfl rfl) hL fun a s e_ hL=>sx 18 (t_move (o_t 6 rfl) rfl rfl) hL fun a s e_ hL=>sx 19 (t_add (o_t 17 rfl) (o_t 18 rfl) h40 rfl rfl) hL fun a s e_ hL=>sx 20 (t_idx (o_t 15 rfl) (o_t 19 rfl) h42 Tryd.underlying109 ty4 rfl rfl) hL fun a s e_ hL=>sx 21 (t_load ty4 (o_t 20 rfl) rfl rfl) hL fun a s e_ hL=>en' (hK38 _ _ ?_)
      refine cnd hL rfl (fun hb_ => ?_) (fun hb_ => ?_)
      · replace h := h.1 hb_
        obtain ⟨h43, h44, h⟩ := h
        refine rg (sx 22 (t_move (o_t 4 rfl) rfl rfl) hL fun a s e_ hL=>?_)
        refine sx 23 (t_move (o_t 4 rfl) rfl rfl) hL fun a s e_ hL=>sx 24 (t_idxcb (o_t 3 rfl) (o_t 23 rfl) h43 Tryd.underlying46 (by rfl) rfl rfl) hL fun a s e_ hL=>sx 25 (t_loado ty44 (o_t 24 rfl) rfl rfl) hL fun a s e_ hL=>sx 26 (t_move (o_t 5 rfl) rfl rfl) hL fun a s e_ hL=>sx 27 (t_addw (o_t 25 rfl) (o_t 26 rfl) rfl rfl) hL fun a s e_ hL=>sx 28 (t_idxcb (o_t 3 rfl) (o_t 22 rfl) h44 Tryd.underlying46 (by rfl) rfl rfl) hL fun a s e_ hL=>st_stob (L' := [(0, (Pd.rep (En.slice En.bool) l_)), (2, (Pd.box En.cls s0.w.heap.size g2 (0#256))), (4, (Pd.rep (En.int .i64) w13)), (5, (Pd.rep (En.int .u64) bit28)), (6, (Pd.rep (En.int .i64) i29))]) 3 hL rfl (o_t 28 rfl) (o_t 27 rfl) (sub_cls h44) ty44 rfl rfl rfl (.cons (t := 0) rfl nE (.cons (t := 2) rfl (Dis.bx d33) (.cons (t := 4) rfl nE (.cons (t := 5) rfl nE (.cons (t := 6) rfl nE .nil))))) fun s hL => ?_
        refine en' (hK37 _ _ ?_)
        refine rg (sx 29 (t_move (o_t 5 rfl) rfl rfl) hL fun a s e_ hL=>?_)
        refine sx 30 (t_mulw (o_t 29 rfl) (o_i (k := .u64) (by decide)) rfl rfl) hL fun a s e_ hL=>sx 5 (t_assign (o_t 30 rfl) rfl rfl) hL fun a s e_ hL=>en' (hK36 _ _ ?_)
        obtain ⟨h45, h⟩ := h
        refine rg (sx 13 (t_move (o_t 6 rfl) rfl rfl) hL fun a s e_ hL=>?_)
        refine sx 14 (t_add (o_t 13 rfl) (o_i (k := .i64) (by decide)) h45 rfl rfl) hL fun a s e_ hL=>sx 6 (t_assign (o_t 14 rfl) rfl rfl) hL fun a s e_ hL=>en' ?_
        exact hKL32 k31 a s (Nat.lt_succ_self _) ⟨(Cl.setw a27 w13 (IntKind.wrap .u64 ((Cl.w a27 w13) + bit28))), (IntKind.wrap .u64 (bit28 * 2)), (i29 + 1), hL.keep (.cons (t := 0) rfl nE (.cons (t := 2) rfl (fun _ _ h_ => h_) (.cons (t := 3) rfl (fun _ _ h_ => h_) (.cons (t := 4) rfl nE (.cons (t := 5) rfl nE (.cons (t := 6) rfl nE .nil)))))), d33, h⟩
      · replace h := h.2 hb_
        refine wp_skip ?_
        show K37 a s.w
        refine hK37 _ _ (rg ?_)
        refine sx 29 (t_move (o_t 5 rfl) rfl rfl) hL fun a s e_ hL=>sx 30 (t_mulw (o_t 29 rfl) (o_i (k := .u64) (by decide)) rfl rfl) hL fun a s e_ hL=>sx 5 (t_assign (o_t 30 rfl) rfl rfl) hL fun a s e_ hL=>en' (hK36 _ _ ?_)
        obtain ⟨h46, h⟩ := h
        refine rg (sx 13 (t_move (o_t 6 rfl) rfl rfl) hL fun a s e_ hL=>?_)
        refine sx 14 (t_add (o_t 13 rfl) (o_i (k := .i64) (by decide)) h46 rfl rfl) hL fun a s e_ hL=>sx 6 (t_assign (o_t 14 rfl) rfl rfl) hL fun a s e_ hL=>en' ?_
        exact hKL32 k31 a s (Nat.lt_succ_self _) ⟨a27, (IntKind.wrap .u64 (bit28 * 2)), (i29 + 1), hL.keep (.cons (t := 0) rfl nE (.cons (t := 2) rfl (fun _ _ h_ => h_) (.cons (t := 3) rfl (fun _ _ h_ => h_) (.cons (t := 4) rfl nE (.cons (t := 5) rfl nE (.cons (t := 6) rfl nE .nil)))))), d33, h⟩
    · replace h := h.2 hb_
      refine wp_exit ?_
      exact J24 a27 a s (hL.keep (.cons (t := 0) rfl nE (.cons (t := 2) rfl (fun _ _ h_ => h_) (.cons (t := 3) rfl (fun _ _ h_ => h_) (.cons (t := 4) rfl nE .nil))))) d33 h
  · replace h := h.2 hb_
    refine wp_exit ?_
    exact J9 a12 a s (hL.keep (.cons (t := 2) rfl (fun _ _ h_ => h_) (.cons (t := 3) rfl (fun _ _ h_ => h_) .nil))) d17 h
theorem ref01_Row_ok {from_ : Int} {to_ : Int} {r_ : Cl} (h : ref01_Row from_ to_ r_) : Fn Tryd.prog 55 [(Pd.rep (En.int .u8) from_), (Pd.rep (En.int .u8) to_)] (Rq (Pd.rep En.cls r_)) := by
  unfold ref01_Row at h
  refine fn_of Tryd.func55 rfl Tryd.ntmps55 (by rfl) (by simp) fun s0 a hL => ?_
  refine wp_seq_k fun K1 hK1=>rg (st_alloc En.cls (z := (0#256)) 4 hL tyz46 rfl rfl rfl rfl fun a s g2 hg_ hL => ?_)
  refine en' (hK1 _ _ ?_)
  refine wp_seq_k fun K3 hK3=>rg ?_
  have lt_d5 := hL.blt 4 rfl
  refine st_make En.bool (z := false) (m := 256) 7 hL (o_i (k := .i64) (by decide)) (o_i (k := .i64) (by decide)) (by decide) Tryd.underlying109 ty4 tyz4 rfl rfl rfl rfl fun a s g4 hg_ hL => ?_
  have d5 : Dis (some g4) (some g2) := Dis.newg hg_ lt_d5
  refine sx 5 (t_assign (o_t 7 rfl) rfl rfl) hL fun a s e_ hL=>en' (hK3 _ _ ?_)
  refine wp_seq_k fun K6 hK6=>wp_seq_k fun K7 hK7=>rg (sx 8 (t_move (o_t 0 rfl) rfl rfl) hL fun a s e_ hL=>?_)
  refine sx 9 (t_up (o_t 8 rfl) (by decide) Tryd.underlying5 Tryd.underlying3 rfl rfl) hL fun a s e_ hL=>sx 6 (t_assign (o_t 9 rfl) rfl rfl) hL fun a s e_ hL=>en' (hK7 _ _ ?_)
  refine wp_block ?_
  have J10 : ∀ (l8 : (List Bool)) (og9 : Option Nat) (a : Act) (s : St), Has N0 21 s0 a s [(4, (Pd.box En.cls s0.w.heap.size g2 (0#256))), (5, (Pd.row En.bool s0.w.heap.size 4 og9 l8))] → Dis (some g2) og9 → ((ref01_Row.j1 r_) l8) → K6 a s.w := by
    intro l8 og9 a s hL d11 h
    unfold ref01_Row.j1 at h
    show K6 a s.w
    refine hK6 _ _ (wp_seq_k fun K12 hK12=>?_)
    obtain ⟨s14, h13, hL⟩ := hL.freeze (L' := [(4, (Pd.box En.cls s0.w.heap.size g2 (0#256)))]) 5 rfl (.cons (t := 4) rfl (Dis.bx d11) .nil)
    rw [← h13]
    clear h13
    generalize s14 = s at *
    obtain ⟨r15, h16, h⟩ := h
    refine rg (sx 19 (t_move (o_t 5 rfl) rfl rfl) hL fun a s e_ hL=>?_)
    refine sx 20 (t_call (ref01_Of_ok h16) (xs := [.tmp 19]) (.cons (o_t 19 rfl) .nil) rfl rfl) hL fun a s e_ hL=>st_stb (L' := []) 4 hL rfl (o_t 20 rfl) ty46 rfl rfl rfl .nil fun s hL => ?_
    refine en' (hK12 _ _ ?_)
    subst h
    exact wp_ret (retb rfl ty46 hL rfl)
  obtain ⟨k20, h⟩ := h
  refine lpg (fun k21 a s => ∃ (l17 : (List Bool)) (i19 : Int) (og18 : Option Nat), Has N0 21 s0 a s [(1, (Pd.rep (En.int .u8) to_)), (4, (Pd.box En.cls s0.w.heap.size g2 (0#256))), (5, (Pd.row En.bool s0.w.heap.size 4 og18 l17)), (6, (Pd.rep (En.int .i64) i19))] ∧ Dis (some g2) og18 ∧ ref01_Row.l1 to_ (ref01_Row.j1 r_) k21 l17 i19) k20 ⟨(List.replicate 256 false), from_, (some g4), hL.keep (.cons (t := 1) rfl nE (.cons (t := 4) rfl (fun _ _ h_ => h_) (.cons (t := 5) rfl (fun _ _ h_ => h_) (.cons (t := 6) rfl nE .nil)))), (Dis.symm d5), h⟩ ?_
  rintro k21 a s ⟨l17, i19, og18, hL, d23, h⟩ KL22 hKL22
  cases k21 with
  | zero => exact h.elim
  | succ k21 =>
  unfold ref01_Row.l1 at h
  refine wp_seq_k fun K24 hK24=>wp_seq_k fun K25 hK25=>rg (sx 10 (t_move (o_t 6 rfl) rfl rfl) hL fun a s e_ hL=>?_)
  refine sx 11 (t_move (o_t 1 rfl) rfl rfl) hL fun a s e_ hL=>sx 12 (t_up (o_t 11 rfl) (by decide) Tryd.underlying5 Tryd.underlying3 rfl rfl) hL fun a s e_ hL=>sx 13 (t_leq (o_t 10 rfl) (o_t 12 rfl) rfl rfl) hL fun a s e_ hL=>en' (hK25 _ _ ?_)
  refine cnd hL rfl (fun hb_ => ?_) (fun hb_ => ?_)
  · replace h := h.1 hb_
    refine wp_skip ?_
    show K24 a s.w
    refine hK24 _ _ (wp_seq_k fun K26 hK26=>?_)
    refine wp_block ?_
    obtain ⟨e27, h28, h⟩ := h
    refine rg (sx 16 (t_move (o_t 5 rfl) rfl rfl) hL fun a s e_ hL=>?_)
    refine sx 17 (t_move (o_t 6 rfl) rfl rfl) hL fun a s e_ hL=>sx 18 (t_idxo (o_t 16 rfl) (o_t 17 rfl) h28 Tryd.underlying109 ty4 rfl rfl) hL fun a s e_ hL=>st_stor (L' := [(1, (Pd.rep (En.int .u8) to_)), (4, (Pd.box En.cls s0.w.heap.size g2 (0#256))), (5, (Pd.row En.bool s0.w.heap.size 4 og18 (l17.set (i19 : Int).toNat true))), (6, (Pd.rep (En.int .i64) i19))]) (off := 0) 5 hL rfl h28 (o_t 18 rfl) o_b (sub_all _ _ _) ty4 rfl rfl rfl (.cons (t := 1) rfl nE (.cons (t := 4) rfl (Dis.bx d23) (.turn (t := 5) rfl (.cons (t := 6) rfl nE .nil)))) fun s hL => ?_
    refine en' (hK26 _ _ ?_)
    obtain ⟨h29, h⟩ := h
    refine rg (sx 14 (t_move (o_t 6 rfl) rfl rfl) hL fun a s e_ hL=>?_)
    refine sx 15 (t_add (o_t 14 rfl) (o_i (k := .i64) (by decide)) h29 rfl rfl) hL fun a s e_ hL=>sx 6 (t_assign (o_t 15 rfl) rfl rfl) hL fun a s e_ hL=>en' ?_
    exact hKL22 k21 a s (Nat.lt_succ_self _) ⟨(l17.set (i19 : Int).toNat true), (i19 + 1), og18, hL.keep (.cons (t := 1) rfl nE (.cons (t := 4) rfl (fun _ _ h_ => h_) (.cons (t := 5) rfl (fun _ _ h_ => h_) (.cons (t := 6) rfl nE .nil)))), d23, h⟩
  · replace h := h.2 hb_
    refine wp_exit ?_
    exact J10 l17 og18 a s (hL.keep (.cons (t := 4) rfl (fun _ _ h_ => h_) (.cons (t := 5) rfl (fun _ _ h_ => h_) .nil))) d23 h
theorem class_Add_ok {a_ : Cl} {list_ : (List Int)} {r_ : Cl} (h : class_Add a_ list_ r_) : Fn Tryd.prog 80 [(Pd.rep En.cls a_), (Pd.rep (En.slice (En.int .u8)) list_)] (Rq (Pd.rep En.cls r_)) := by
  unfold class_Add at h
  refine fn_of Tryd.func80 rfl Tryd.ntmps80 (by rfl) (by simp) fun s0 a hL => ?_
  refine wp_seq_k fun K1 hK1=>rg (st_boxm 2 hL (o_t 0 rfl) rfl rfl rfl rfl fun a s g2 hg_ hL => ?_)
  have lt_d4 := hL.blt 2 rfl
  refine st_alloc En.cls (z := (0#256)) 4 hL tyz46 rfl rfl rfl rfl fun a s g3 hg_ hL => ?_
  have d4 : Dis (some g3) (some g2) := Dis.newg hg_ lt_d4
  refine en' (hK1 _ _ ?_)
  refine wp_seq_k fun K5 hK5=>wp_seq_k fun K6 hK6=>rg (sx 7 (t_move (o_t 1 rfl) rfl rfl) hL fun a s e_ hL=>?_)
  refine sx 8 (t_len (o_t 7 rfl) Tryd.underlying53 rfl rfl) hL fun a s e_ hL=>sx 9 (t_move (o_i (k := .i64) (by decide)) rfl rfl) hL fun a s e_ hL=>en' (hK6 _ _ ?_)
  refine wp_block ?_
  have J8 : ∀ (a7 : Cl) (a : Act) (s : St), Has N0 24 s0 a s [(2, (Pd.box En.cls s0.w.heap.size g2 a7)), (4, (Pd.box En.cls s0.w.heap.size g3 (0#256)))] → Dis (some g2) (some g3) → ((class_Add.j1 r_) a7) → K5 a s.w := by
    intro a7 a s hL d9 h
    unfold class_Add.j1 at h
    show K5 a s.w
    refine hK5 _ _ (wp_seq_k fun K10 hK10=>?_)
    refine rg (sx 23 (t_loadb ty46 (o_t 2 rfl) rfl rfl) hL fun a s e_ hL=>?_)
    refine st_stb (L' := []) 4 hL rfl (o_t 23 rfl) ty46 rfl rfl rfl .nil fun s hL => ?_
    refine en' (hK10 _ _ ?_)
    subst h
    exact wp_ret (retb rfl ty46 hL rfl)
  obtain ⟨k13, h⟩ := h
  refine lpg (fun k14 a s => ∃ (a11 : Cl) (v12 : Int), Has N0 24 s0 a s [(2, (Pd.box En.cls s0.w.heap.size g2 a11)), (4, (Pd.box En.cls s0.w.heap.size g3 (0#256))), (7, (Pd.rep (En.slice (En.int .u8)) list_)), (8, (Pd.rep (En.int .i64) (list_.length : Int))), (9, (Pd.rep (En.int .i64) v12))] ∧ Dis (some g2) (some g3) ∧ class_Add.l1 list_ (class_Add.j1 r_) k14 a11 v12) k13 ⟨a_, 0, hL.keep (.cons (t := 2) rfl (fun _ _ h_ => h_) (.cons (t := 4) rfl (fun _ _ h_ => h_) (.cons (t := 7) rfl nE (.cons (t := 8) rfl nE (.cons (t := 9) rfl nE .nil))))), (Dis.symm d4), h⟩ ?_
  rintro k14 a s ⟨a11, v12, hL, d16, h⟩ KL15 hKL15
  cases k14 with
  | zero => exact h.elim
  | succ k14 =>
  unfold class_Add.l1 at h
  refine wp_seq_k fun K17 hK17=>rg (sx 10 (t_lss (o_t 9 rfl) (o_t 8 rfl) rfl rfl) hL fun a s e_ hL=>?_)
  refine en' (hK17 _ _ ?_)
  refine wp_seq_k fun K18 hK18=>cnd hL rfl (fun hb_ => ?_) (fun hb_ => ?_)
  · replace h := h.1 hb_
    refine wp_skip ?_
    show K18 a s.w
    refine hK18 _ _ (wp_seq_k fun K19 hK19=>?_)
    refine wp_block (wp_seq_k fun K20 hK20=>?_)
    obtain ⟨e21, h22, h⟩ := h
    refine rg (sx 11 (t_idx (o_t 7 rfl) (o_t 9 rfl) h22 Tryd.underlying53 ty5 rfl rfl) hL fun a s e_ hL=>?_)
    refine sx 12 (t_load ty5 (o_t 11 rfl) rfl rfl) hL fun a s e_ hL=>sx 6 (t_assign (o_t 12 rfl) rfl rfl) hL fun a s e_ hL=>en' (hK20 _ _ ?_)
    obtain ⟨h23, h24, h⟩ := h
    refine rg (sx 13 (t_move (o_t 6 rfl) rfl rfl) hL fun a s e_ hL=>?_)
    refine sx 14 (t_quou (o_t 13 rfl) (o_i (k := .u8) (by decide)) (by decide) (by decide) rfl rfl) hL fun a s e_ hL=>sx 15 (t_idxcb (o_t 2 rfl) (o_t 14 rfl) h23 Tryd.underlying46 (by rfl) rfl rfl) hL fun a s e_ hL=>sx 16 (t_loado ty44 (o_t 15 rfl) rfl rfl) hL fun a s e_ hL=>sx 17 (t_move (o_t 6 rfl) rfl rfl) hL fun a s e_ hL=>sx 18 (t_remu (o_t 17 rfl) (o_i (k := .u8) (by decide)) (by decide) (by decide) rfl rfl) hL fun a s e_ hL=>sx 19 (t_shl (o_i (k := .u64) (by decide)) (o_t 18 rfl) (by decide) rfl rfl) hL fun a s e_ hL=>sx 20 (t_orb (o_t 16 rfl) (o_t 19 rfl) rfl rfl) hL fun a s e_ hL=>sx 21 (t_idxcb (o_t 2 rfl) (o_t 14 rfl) h24 Tryd.underlying46 (by rfl) rfl rfl) hL fun a s e_ hL=>st_stob (L' := [(4, (Pd.box En.cls s0.w.heap.size g3 (0#256))), (7, (Pd.rep (En.slice (En.int .u8)) list_)), (8, (Pd.rep (En.int .i64) (list_.length : Int))), (9, (Pd.rep (En.int .i64) v12))]) 2 hL rfl (o_t 21 rfl) (o_t 20 rfl) (sub_cls h24) ty44 rfl rfl rfl (.cons (t := 4) rfl (Dis.bx d4) (.cons (t := 7) rfl nE (.cons (t := 8) rfl nE (.cons (t := 9) rfl nE .nil)))) fun s hL => ?_
    refine en' (hK19 _ _ ?_)
    obtain ⟨h25, h⟩ := h
    refine rg (sx 22 (t_add (o_t 9 rfl) (o_i (k := .i64) (by decide)) h25 rfl rfl) hL fun a s e_ hL=>?_)
    refine sx 9 (t_move (o_t 22 rfl) rfl rfl) hL fun a s e_ hL=>en' ?_
    exact hKL15 k14 a s (Nat.lt_succ_self _) ⟨(Cl.setw a11 (e21 / 64) (orI (Cl.w a11 (e21 / 64)) (shlI 1 (e21 % 64)))), (v12 + 1), hL.keep (.cons (t := 2) rfl (fun _ _ h_ => h_) (.cons (t := 4) rfl (fun _ _ h_ => h_) (.cons (t := 7) rfl nE (.cons (t := 8) rfl nE (.cons (t := 9) rfl nE .nil))))), d16, h⟩
  · replace h := h.2 hb_
    refine wp_exit ?_
    exact J8 a11 a s (hL.keep (.cons (t := 2) rfl (fun _ _ h_ => h_) (.cons (t := 4) rfl (fun _ _ h_ => h_) .nil))) d16 h
theorem class_Of_ok {from_ : Int} {to_ : Int} {r_ : Cl} (h : class_Of from_ to_ r_) : Fn Tryd.prog 59 [(Pd.rep (En.int .u8) from_), (Pd.rep (En.int .u8) to_)] (Rq (Pd.rep En.cls r_)) := by
  unfold class_Of at h
  refine fn_of Tryd.func59 rfl Tryd.ntmps59 (by rfl) (by simp) fun s0 a hL => ?_
  refine wp_seq_k fun K1 hK1=>rg (st_alloc En.cls (z := (0#256)) 4 hL tyz46 rfl rfl rfl rfl fun a s g2 hg_ hL => ?_)
  refine en' (hK1 _ _ ?_)
  refine wp_seq_k fun K3 hK3=>rg ?_
  have lt_d5 := hL.blt 4 rfl
  refine st_alloc En.cls (z := (0#256)) 5 hL tyz46 rfl rfl rfl rfl fun a s g4 hg_ hL => ?_
  have d5 : Dis (some g4) (some g2) := Dis.newg hg_ lt_d5
  refine en' (hK3 _ _ ?_)
  refine wp_seq_k fun K6 hK6=>wp_seq_k fun K7 hK7=>rg (sx 8 (t_move (o_i (k := .i64) (by decide)) rfl rfl) hL fun a s e_ hL=>?_)
  refine en' (hK7 _ _ ?_)
  refine wp_block ?_
  have J9 : ∀ (a8 : Cl) (a : Act) (s : St), Has N0 27 s0 a s [(4, (Pd.box En.cls s0.w.heap.size g2 (0#256))), (5, (Pd.box En.cls s0.w.heap.size g4 a8))] → Dis (some g2) (some g4) → ((class_Of.j1 r_) a8) → K6 a s.w := by
    intro a8 a s hL d10 h
    unfold class_Of.j1 at h
    show K6 a s.w
    refine hK6 _ _ (wp_seq_k fun K11 hK11=>?_)
    refine rg (sx 26 (t_loadb ty46 (o_t 5 rfl) rfl rfl) hL fun a s e_ hL=>?_)
    refine st_stb (L' := []) 4 hL rfl (o_t 26 rfl) ty46 rfl rfl rfl .nil fun s hL => ?_
    refine en' (hK11 _ _ ?_)
    subst h
    exact wp_ret (retb rfl ty46 hL rfl)
  obtain ⟨k14, h⟩ := h
  refine lpg (fun k15 a s => ∃ (a12 : Cl) (v13 : Int), Has N0 27 s0 a s [(0, (Pd.rep (En.int .u8) from_)), (1, (Pd.rep (En.int .u8) to_)), (4, (Pd.box En.cls s0.w.heap.size g2 (0#256))), (5, (Pd.box En.cls s0.w.heap.size g4 a12)), (8, (Pd.rep (En.int .i64) v13))] ∧ Dis (some g2) (some g4) ∧ class_Of.l1 from_ to_ (class_Of.j1 r_) k15 a12 v13) k14 ⟨(0#256), 0, hL.keep (.cons (t := 0) rfl nE (.cons (t := 1) rfl nE (.cons (t := 4) rfl (fun _ _ h_ => h_) (.cons (t := 5) rfl (fun _ _ h_ => h_) (.cons (t := 8) rfl nE .nil))))), (Dis.symm d5), h⟩ ?_
  rintro k15 a s ⟨a12, v13, hL, d17, h⟩ KL16 hKL16
  cases k15 with
  | zero => exact h.elim
  | succ k15 =>
  unfold class_Of.l1 at h
  refine wp_seq_k fun K18 hK18=>rg (sx 9 (t_lss (o_t 8 rfl) (o_i (k := .i64) (by decide)) rfl rfl) hL fun a s e_ hL=>?_)
  refine en' (hK18 _ _ ?_)
  refine wp_seq_k fun K19 hK19=>cnd hL rfl (fun hb_ => ?_) (fun hb_ => ?_)
  · replace h := h.1 hb_
    refine wp_skip ?_
    show K19 a s.w
    refine hK19 _ _ (wp_seq_k fun K20 hK20=>?_)
    refine wp_block (wp_seq_k fun K21 hK21=>?_)
    refine rg (sx 10 (t_move (o_t 8 rfl) rfl rfl) hL fun a s e_ hL=>?_)
    refine sx 6 (t_assign (o_t 10 rfl) rfl rfl) hL fun a s e_ hL=>en' (hK21 _ _ ?_)
    refine wp_seq_k fun K22 hK22=>rg (sx 11 (t_move (o_t 6 rfl) rfl rfl) hL fun a s e_ hL=>?_)
    refine sx 12 (t_u8 (o_t 11 rfl) Tryd.underlying3 Tryd.underlying5 rfl rfl) hL fun a s e_ hL=>sx 7 (t_assign (o_t 12 rfl) rfl rfl) hL fun a s e_ hL=>en' (hK22 _ _ ?_)
    refine wp_seq_k fun K23 hK23=>?_
    obtain ⟨b24, h25, h⟩ := h
    refine rg (sx 13 (t_move (o_t 7 rfl) rfl rfl) hL fun a s e_ hL=>?_)
    refine sx 14 (t_move (o_t 0 rfl) rfl rfl) hL fun a s e_ hL=>sx 15 (t_geq (o_t 13 rfl) (o_t 14 rfl) rfl rfl) hL fun a s e_ hL=>sx 16 (t_move (o_t 15 rfl) rfl rfl) hL fun a s e_ hL=>sx 17 (t_g1 rfl rfl rfl (fun hc_ => t_move (o_t 7 rfl) rfl rfl)) hL fun a s e_ hL=>sx 18 (t_g1 rfl rfl rfl (fun hc_ => t_move (o_t 1 rfl) rfl rfl)) hL fun a s e_ hL=>sx 19 (t_g1 rfl rfl rfl (fun hc_ => t_leq (o_w hc_ 17 rfl) (o_w hc_ 18 rfl) rfl rfl)) hL fun a s e_ hL=>sx 20 (h25 ▸ (t_and (o_t 16 rfl) (fun hc2_ => (o_w hc2_ 19 rfl)) rfl rfl)) hL fun a s e_ hL=>en' (hK23 _ _ ?_)
    refine cnd hL rfl (fun hb_ => ?_) (fun hb_ => ?_)
    · replace h := h.1 hb_
      obtain ⟨r26, h27, h⟩ := h
      refine rg (sx 21 (t_loadb ty46 (o_t 5 rfl) rfl rfl) hL fun a s e_ hL=>?_)
      refine sx 22 (t_move (o_t 7 rfl) rfl rfl) hL fun a s e_ hL=>sx 23 (t_lit (xs := [.tmp 22]) (.cons (o_t 22 rfl) .nil) Tryd.underlying53 ty5 rfl rfl (by decide) rfl rfl) hL fun a s e_ hL=>sx 24 (t_call (class_Add_ok h27) (xs := [.tmp 21, .tmp 23]) (.cons (o_t 21 rfl) (.cons (o_t 23 rfl) .nil)) rfl rfl) hL fun a s e_ hL=>st_stb (L' := [(0, (Pd.rep (En.int .u8) from_)), (1, (Pd.rep (En.int .u8) to_)), (4, (Pd.box En.cls s0.w.heap.size g2 (0#256))), (8, (Pd.rep (En.int .i64) v13))]) 5 hL rfl (o_t 24 rfl) ty46 rfl rfl rfl (.cons (t := 0) rfl nE (.cons (t := 1) rfl nE (.cons (t := 4) rfl (Dis.bx d17) (.cons (t := 8) rfl nE .nil)))) fun s hL => ?_
      refine en' (hK20 _ _ ?_)
      obtain ⟨h28, h⟩ := h
      refine rg (sx 25 (t_add (o_t 8 rfl) (o_i (k := .i64) (by decide)) h28 rfl rfl) hL fun a s e_ hL=>?_)
      refine sx 8 (t_move (o_t 25 rfl) rfl rfl) hL fun a s e_ hL=>en' ?_
      exact hKL16 k15 a s (Nat.lt_succ_self _) ⟨r26, (v13 + 1), hL.keep (.cons (t := 0) rfl nE (.cons (t := 1) rfl nE (.cons (t := 4) rfl (fun _ _ h_ => h_) (.cons (t := 5) rfl (fun _ _ h_ => h_) (.cons (t := 8) rfl nE .nil))))), d17, h⟩
    · replace h := h.2 hb_
      refine wp_skip ?_
      show K20 a s.w
      refine hK20 _ _ ?_
      obtain ⟨h29, h⟩ := h
      refine rg (sx 25 (t_add (o_t 8 rfl) (o_i (k := .i64) (by decide)) h29 rfl rfl) hL fun a s e_ hL=>?_)
      refine sx 8 (t_move (o_t 25 rfl) rfl rfl) hL fun a s e_ hL=>en' ?_
      exact hKL16 k15 a s (Nat.lt_succ_self _) ⟨a12, (v13 + 1), hL.keep (.cons (t := 0) rfl nE (.cons (t := 1) rfl nE (.cons (t := 4) rfl (fun _ _ h_ => h_) (.cons (t := 5) rfl (fun _ _ h_ => h_) (.cons (t := 8) rfl nE .nil))))), d17, h⟩
  · replace h := h.2 hb_
    refine wp_exit ?_
    exact J9 a12 a s (hL.keep (.cons (t := 4) rfl (fun _ _ h_ => h_) (.cons (t := 5) rfl (fun _ _ h_ => h_) .nil))) d17 h
theorem ref01_Has_ok {a_ : Cl} {cv_ : Int} {r_ : Bool} (h : ref01_Has a_ cv_ r_) : Fn Tryd.prog 40 [(Pd.rep En.cls a_), (Pd.rep (En.int .u8) cv_)] (Rq (Pd.rep En.bool r_)) := by
  unfold ref01_Has at h
  refine fn_of Tryd.func40 rfl Tryd.ntmps40 (by rfl) (by simp) fun s0 a hL => ?_
  refine wp_seq_k fun K1 hK1=>rg (sx 2 (t_box (o_t 0 rfl) rfl rfl) hL fun a s e_ hL=>?_)
  refine sx 4 (t_assign o_b rfl rfl) hL fun a s e_ hL=>en' (hK1 _ _ ?_)
  refine wp_seq_k fun K2 hK2=>?_
  obtain ⟨h3, h4, h⟩ := h
  refine rg (sx 7 (t_move (o_t 1 rfl) rfl rfl) hL fun a s e_ hL=>?_)
  refine sx 8 (t_up (o_t 7 rfl) (by decide) Tryd.underlying5 Tryd.underlying3 rfl rfl) hL fun a s e_ hL=>sx 9 (t_quo (o_t 8 rfl) (o_i (k := .i64) (by decide)) h3 (by decide) rfl rfl) hL fun a s e_ hL=>sx 10 (t_idxc (o_t 2 rfl) (o_t 9 rfl) h4 Tryd.underlying46 (by rfl) rfl rfl) hL fun a s e_ hL=>sx 11 (t_load ty44 (o_t 10 rfl) rfl rfl) hL fun a s e_ hL=>sx 5 (t_assign (o_t 11 rfl) rfl rfl) hL fun a s e_ hL=>en' (hK2 _ _ ?_)
  refine wp_seq_k fun K5 hK5=>wp_seq_k fun K6 hK6=>rg (sx 6 (t_assign (o_i (k := .i64) (by decide)) rfl rfl) hL fun a s e_ hL=>?_)
  refine en' (hK6 _ _ ?_)
  refine wp_block ?_
  have J8 : ∀ (w7 : Int) (a : Act) (s : St), Has N0 24 s0 a s [(5, (Pd.rep (En.int .u64) w7))] → ((ref01_Has.j1 r_) w7) → K5 a s.w := by
    intro w7 a s hL h
    unfold ref01_Has.j1 at h
    show K5 a s.w
    refine hK5 _ _ (wp_seq_k fun K9 hK9=>?_)
    refine rg (sx 21 (t_move (o_t 5 rfl) rfl rfl) hL fun a s e_ hL=>?_)
    refine sx 22 (t_remu (o_t 21 rfl) (o_i (k := .u64) (by decide)) (by decide) (by decide) rfl rfl) hL fun a s e_ hL=>sx 23 (t_eqi (o_t 22 rfl) (o_i (k := .u64) (by decide)) rfl rfl) hL fun a s e_ hL=>sx 4 (t_assign (o_t 23 rfl) rfl rfl) hL fun a s e_ hL=>en' (hK9 _ _ ?_)
    subst h
    exact wp_ret (retq rfl hL rfl)
  obtain ⟨k12, h⟩ := h
  refine lpg (fun k13 a s => ∃ (w10 : Int) (i11 : Int), Has N0 24 s0 a s [(1, (Pd.rep (En.int .u8) cv_)), (5, (Pd.rep (En.int .u64) w10)), (6, (Pd.rep (En.int .i64) i11))] ∧ ref01_Has.l1 cv_ (ref01_Has.j1 r_) k13 w10 i11) k12 ⟨(Cl.w a_ (cv_ / 64)), 0, hL.keep (.cons (t := 1) rfl nE (.cons (t := 5) rfl nE (.cons (t := 6) rfl nE .nil))), h⟩ ?_
  rintro k13 a s ⟨w10, i11, hL, h⟩ KL14 hKL14
  cases k13 with
  | zero => exact h.elim
  | succ k13 =>
  unfold ref01_Has.l1 at h
  refine wp_seq_k fun K15 hK15=>wp_seq_k fun K16 hK16=>?_
  obtain ⟨h17, h⟩ := h
  refine rg (sx 12 (t_move (o_t 6 rfl) rfl rfl) hL fun a s e_ hL=>?_)
  refine sx 13 (t_move (o_t 1 rfl) rfl rfl) hL fun a s e_ hL=>sx 14 (t_up (o_t 13 rfl) (by decide) Tryd.underlying5 Tryd.underlying3 rfl rfl) hL fun a s e_ hL=>sx 15 (t_rem (o_t 14 rfl) (o_i (k := .i64) (by decide)) h17 (by decide) rfl rfl) hL fun a s e_ hL=>sx 16 (t_lss (o_t 12 rfl) (o_t 15 rfl) rfl rfl) hL fun a s e_ hL=>en' (hK16 _ _ ?_)
  refine cnd hL rfl (fun hb_ => ?_) (fun hb_ => ?_)
  · replace h := h.1 hb_
    refine wp_skip ?_
    show K15 a s.w
    refine hK15 _ _ (wp_seq_k fun K18 hK18=>?_)
    refine wp_block (rg ?_)
    refine sx 19 (t_move (o_t 5 rfl) rfl rfl) hL fun a s e_ hL=>sx 20 (t_quou (o_t 19 rfl) (o_i (k := .u64) (by decide)) (by decide) (by decide) rfl rfl) hL fun a s e_ hL=>sx 5 (t_assign (o_t 20 rfl) rfl rfl) hL fun a s e_ hL=>en' (hK18 _ _ ?_)
    obtain ⟨h19, h⟩ := h
    refine rg (sx 17 (t_move (o_t 6 rfl) rfl rfl) hL fun a s e_ hL=>?_)
    refine sx 18 (t_add (o_t 17 rfl) (o_i (k := .i64) (by decide)) h19 rfl rfl) hL fun a s e_ hL=>sx 6 (t_assign (o_t 18 rfl) rfl rfl) hL fun a s e_ hL=>en' ?_
    exact hKL14 k13 a s (Nat.lt_succ_self _) ⟨(w10 / 2), (i11 + 1), hL.keep (.cons (t := 1) rfl nE (.cons (t := 5) rfl nE (.cons (t := 6) rfl nE .nil))), h⟩
  · replace h := h.2 hb_
    refine wp_exit ?_
    exact J8 w10 a s (hL.keep (.cons (t := 5) rfl nE .nil)) h
end Go.Proofs.YtdidjelkkanenaaDoor.V
namespace Go.Proofs.YtdidjelkkanenaaDoor.V
open Go
set_option linter.unusedVariables false
def ref03_in (s_ : Str) (i_ : Int) (from_ : Int) (to_ : Int) (r_ : Bool) : Prop := ∃ c3 : Int, (((decide (i_ < (s_.length : Int))) = true) → byte? s_ i_ = some c3) ∧ ∃ b5 : Bool, b5 = ((decide (i_ < (s_.length : Int))) && (decide (from_ ≤ c3))) ∧ ∃ c7 : Int, (((b5) = true) → byte? s_ i_ = some c7) ∧ r_ = (b5 && (decide (c7 ≤ to_)))
def ref03_Utf8.j1 (r_ : Bool) : Prop := r_ = true
def ref03_Utf8.l1 (s_ : Str) (r_ : Bool) (X1 : Prop) : Nat → Int → Prop
  | 0, _ => False
  | k_0 + 1, i6 => ((decide (i6 < (s_.length : Int))) = true → ∃ c13 : Int, byte? s_ i6 = some c13 ∧ (InR .i64 (i6 + 1)) ∧ ∃ r17 : Bool, ref03_in s_ (i6 + 1) 128 191 r17 ∧ (InR .i64 (i6 + 2)) ∧ ∃ r21 : Bool, ref03_in s_ (i6 + 2) 128 191 r21 ∧ (InR .i64 (i6 + 3)) ∧ ∃ r25 : Bool, ref03_in s_ (i6 + 3) 128 191 r25 ∧ ((decide (c13 < 128)) = true → (InR .i64 (i6 + 1)) ∧ ref03_Utf8.l1 s_ r_ X1 k_0 (i6 + 1)) ∧ ((decide (c13 < 128)) = false → ∃ b30 : Bool, b30 = (((decide (194 ≤ c13)) && (decide (c13 ≤ 223))) && r17) ∧ ((b30) = true → (InR .i64 (i6 + 2)) ∧ ref03_Utf8.l1 s_ r_ X1 k_0 (i6 + 2)) ∧ ((b30) = false → ((((c13 == 224)) = true) → InR .i64 (i6 + 1)) ∧ ∃ r35 : Bool, ((((c13 == 224)) = true) → ref03_in s_ (i6 + 1) 160 191 r35) ∧ (((((c13 == 224) && r35) && r21)) = true → (InR .i64 (i6 + 3)) ∧ ref03_Utf8.l1 s_ r_ X1 k_0 (i6 + 3)) ∧ (((((c13 == 224) && r35) && r21)) = false → ∃ b39 : Bool, b39 = (((decide (225 ≤ c13)) && (decide (c13 ≤ 236))) || (c13 == 238)) ∧ (((((b39 || (c13 == 239)) && r17) && r21)) = true → (InR .i64 (i6 + 3)) ∧ ref03_Utf8.l1 s_ r_ X1 k_0 (i6 + 3)) ∧ (((((b39 || (c13 == 239)) && r17) && r21)) = false → ((((c13 == 237)) = true) → InR .i64 (i6 + 1)) ∧ ∃ r44 : Bool, ((((c13 == 237)) = true) → ref03_in s_ (i6 + 1) 128 159 r44) ∧ (((((c13 == 237) && r44) && r21)) = true → (InR .i64 (i6 + 3)) ∧ ref03_Utf8.l1 s_ r_ X1 k_0 (i6 + 3)) ∧ (((((c13 == 237) && r44) && r21)) = false → ((((c13 == 240)) = true) → InR .i64 (i6 + 1)) ∧ ∃ r49 : Bool, ((((c13 == 240)) = true) → ref03_in s_ (i6 + 1) 144 191 r49) ∧ ((((((c13 == 240) && r49) && r21) && r25)) = true → (InR .i64 (i6 + 4)) ∧ ref03_Utf8.l1 s_ r_ X1 k_0 (i6 + 4)) ∧ ((((((c13 == 240) && r49) && r21) && r25)) = false → ∃ b53 : Bool, b53 = (((decide (241 ≤ c13)) && (decide (c13 ≤ 243))) && r17) ∧ ((((b53 && r21) && r25)) = true → (InR .i64 (i6 + 4)) ∧ ref03_Utf8.l1 s_ r_ X1 k_0 (i6 + 4)) ∧ ((((b53 && r21) && r25)) = false → ((((c13 == 244)) = true) → InR .i64 (i6 + 1)) ∧ ∃ r58 : Bool, ((((c13 == 244)) = true) → ref03_in s_ (i6 + 1) 128 143 r58) ∧ ((((((c13 == 244) && r58) && r21) && r25)) = true → (InR .i64 (i6 + 4)) ∧ ref03_Utf8.l1 s_ r_ X1 k_0 (i6 + 4)) ∧ ((((((c13 == 244) && r58) && r21) && r25)) = false → r_ = false))))))))) ∧ ((decide (i6 < (s_.length : Int))) = false → X1)
def ref03_Utf8 (s_ : Str) (r_ : Bool) : Prop := ∃ k7, ref03_Utf8.l1 s_ r_ (ref03_Utf8.j1 r_) k7 0
end Go.Proofs.YtdidjelkkanenaaDoor.V
namespace Go.Proofs.YtdidjelkkanenaaDoor.V
open Go
set_option linter.unusedVariables false
set_option maxRecDepth 100000
theorem ref03_in_ok {s_ : Str} {i_ : Int} {from_ : Int} {to_ : Int} {r_ : Bool} (h : ref03_in s_ i_ from_ to_ r_) : Fn Tryd.prog 104 [(Pd.rep En.str s_), (Pd.rep (En.int .i64) i_), (Pd.rep (En.int .i64) from_), (Pd.rep (En.int .i64) to_)] (Rq (Pd.rep En.bool r_)) := by
  unfold ref03_in at h
  refine fn_of Tryd.func104 rfl Tryd.ntmps104 (by rfl) (by simp) fun s0 a hL => ?_
  refine wp_seq_k fun K1 hK1=>rg (sx 8 (t_assign o_b rfl rfl) hL fun a s e_ hL=>?_)
  refine en' (hK1 _ _ ?_)
  refine wp_seq_k fun K2 hK2=>?_
  obtain ⟨c3, h4, b5, h6, c7, h8, h⟩ := h
  refine rg (sx 9 (t_move (o_t 1 rfl) rfl rfl) hL fun a s e_ hL=>?_)
  refine sx 10 (t_move (o_t 0 rfl) rfl rfl) hL fun a s e_ hL=>sx 11 (t_slen (o_t 10 rfl) Tryd.underlying9 rfl rfl) hL fun a s e_ hL=>sx 12 (t_lss (o_t 9 rfl) (o_t 11 rfl) rfl rfl) hL fun a s e_ hL=>sx 13 (t_move (o_t 12 rfl) rfl rfl) hL fun a s e_ hL=>sx 14 (t_g1 rfl rfl rfl (fun hc_ => t_move (o_t 0 rfl) rfl rfl)) hL fun a s e_ hL=>sx 15 (t_g1 rfl rfl rfl (fun hc_ => t_move (o_t 1 rfl) rfl rfl)) hL fun a s e_ hL=>sx 16 (t_g1 rfl rfl rfl (fun hc_ => t_sidx (o_w hc_ 14 rfl) (o_w hc_ 15 rfl) (h4 hc_) Tryd.underlying9 rfl rfl)) hL fun a s e_ hL=>sx 17 (t_g1 rfl rfl rfl (fun hc_ => t_up (o_w hc_ 16 rfl) (by decide) Tryd.underlying5 Tryd.underlying3 rfl rfl)) hL fun a s e_ hL=>sx 18 (t_g1 rfl rfl rfl (fun hc_ => t_move (o_t 2 rfl) rfl rfl)) hL fun a s e_ hL=>?_
  refine sx 19 (t_g1 rfl rfl rfl (fun hc_ => t_geq (o_w hc_ 17 rfl) (o_w hc_ 18 rfl) rfl rfl)) hL fun a s e_ hL=>sx 20 (h6 ▸ (t_and (o_t 13 rfl) (fun hc2_ => (o_w hc2_ 19 rfl)) rfl rfl)) hL fun a s e_ hL=>sx 21 (t_move (o_t 20 rfl) rfl rfl) hL fun a s e_ hL=>sx 22 (t_g1 rfl rfl rfl (fun hc_ => t_move (o_t 0 rfl) rfl rfl)) hL fun a s e_ hL=>sx 23 (t_g1 rfl rfl rfl (fun hc_ => t_move (o_t 1 rfl) rfl rfl)) hL fun a s e_ hL=>sx 24 (t_g1 rfl rfl rfl (fun hc_ => t_sidx (o_w hc_ 22 rfl) (o_w hc_ 23 rfl) (h8 hc_) Tryd.underlying9 rfl rfl)) hL fun a s e_ hL=>sx 25 (t_g1 rfl rfl rfl (fun hc_ => t_up (o_w hc_ 24 rfl) (by decide) Tryd.underlying5 Tryd.underlying3 rfl rfl)) hL fun a s e_ hL=>sx 26 (t_g1 rfl rfl rfl (fun hc_ => t_move (o_t 3 rfl) rfl rfl)) hL fun a s e_ hL=>sx 27 (t_g1 rfl rfl rfl (fun hc_ => t_leq (o_w hc_ 25 rfl) (o_w hc_ 26 rfl) rfl rfl)) hL fun a s e_ hL=>?_
  refine sx 28 (t_and (o_t 21 rfl) (fun hc2_ => (o_w hc2_ 27 rfl)) rfl rfl) hL fun a s e_ hL=>sx 8 (t_assign (o_t 28 rfl) rfl rfl) hL fun a s e_ hL=>en' (hK2 _ _ ?_)
  subst h
  exact wp_ret (retq rfl hL rfl)
theorem ref03_Utf8_ok {s_ : Str} {r_ : Bool} (h : ref03_Utf8 s_ r_) : Fn Tryd.prog 96 [(Pd.rep En.str s_)] (Rq (Pd.rep En.bool r_)) := by
  unfold ref03_Utf8 at h
  refine fn_of Tryd.func96 rfl Tryd.ntmps96 (by rfl) (by simp) fun s0 a hL => ?_
  refine wp_seq_k fun K1 hK1=>rg (sx 2 (t_assign o_b rfl rfl) hL fun a s e_ hL=>?_)
  refine en' (hK1 _ _ ?_)
  refine wp_seq_k fun K2 hK2=>rg (sx 3 (t_assign (o_i (k := .i64) (by decide)) rfl rfl) hL fun a s e_ hL=>?_)
  refine en' (hK2 _ _ ?_)
  refine wp_seq_k fun K3 hK3=>wp_block ?_
  have J4 : ∀ (a : Act) (s : St), Has N0 148 s0 a s [] → ((ref03_Utf8.j1 r_)) → K3 a s.w := by
    intro a s hL h
    unfold ref03_Utf8.j1 at h
    show K3 a s.w
    refine hK3 _ _ (wp_seq_k fun K5 hK5=>?_)
    refine rg (sx 2 (t_assign o_b rfl rfl) hL fun a s e_ hL=>?_)
    refine en' (hK5 _ _ ?_)
    subst h
    exact wp_ret (retq rfl hL rfl)
  obtain ⟨k7, h⟩ := h
  refine lpg (fun k8 a s => ∃ (i6 : Int), Has N0 148 s0 a s [(0, (Pd.rep En.str s_)), (3, (Pd.rep (En.int .i64) i6))] ∧ ref03_Utf8.l1 s_ r_ (ref03_Utf8.j1 r_) k8 i6) k7 ⟨0, hL.keep (.cons (t := 0) rfl nE (.cons (t := 3) rfl nE .nil)), h⟩ ?_
  rintro k8 a s ⟨i6, hL, h⟩ KL9 hKL9
  cases k8 with
  | zero => exact h.elim
  | succ k8 =>
  unfold ref03_Utf8.l1 at h
  refine wp_seq_k fun K10 hK10=>wp_seq_k fun K11 hK11=>rg (sx 8 (t_move (o_t 3 rfl) rfl rfl) hL fun a s e_ hL=>?_)
  refine sx 9 (t_move (o_t 0 rfl) rfl rfl) hL fun a s e_ hL=>sx 10 (t_slen (o_t 9 rfl) Tryd.underlying9 rfl rfl) hL fun a s e_ hL=>sx 11 (t_lss (o_t 8 rfl) (o_t 10 rfl) rfl rfl) hL fun a s e_ hL=>en' (hK11 _ _ ?_)
  refine cnd hL rfl (fun hb_ => ?_) (fun hb_ => ?_)
  · replace h := h.1 hb_
    refine wp_skip ?_
    show K10 a s.w
    refine hK10 _ _ (wp_block ?_)
    refine wp_seq_k fun K12 hK12=>?_
    obtain ⟨c13, h14, h⟩ := h
    refine rg (sx 12 (t_move (o_t 0 rfl) rfl rfl) hL fun a s e_ hL=>?_)
    refine sx 13 (t_move (o_t 3 rfl) rfl rfl) hL fun a s e_ hL=>sx 14 (t_sidx (o_t 12 rfl) (o_t 13 rfl) h14 Tryd.underlying9 rfl rfl) hL fun a s e_ hL=>sx 15 (t_up (o_t 14 rfl) (by decide) Tryd.underlying5 Tryd.underlying3 rfl rfl) hL fun a s e_ hL=>sx 4 (t_assign (o_t 15 rfl) rfl rfl) hL fun a s e_ hL=>en' (hK12 _ _ ?_)
    refine wp_seq_k fun K15 hK15=>?_
    obtain ⟨h16, r17, h18, h⟩ := h
    refine rg (sx 16 (t_move (o_t 0 rfl) rfl rfl) hL fun a s e_ hL=>?_)
    refine sx 17 (t_move (o_t 3 rfl) rfl rfl) hL fun a s e_ hL=>sx 18 (t_add (o_t 17 rfl) (o_i (k := .i64) (by decide)) h16 rfl rfl) hL fun a s e_ hL=>sx 19 (t_call (ref03_in_ok h18) (xs := [.tmp 16, .tmp 18, .const (.int .i64 128), .const (.int .i64 191)]) (.cons (o_t 16 rfl) (.cons (o_t 18 rfl) (.cons (o_i (k := .i64) (by decide)) (.cons (o_i (k := .i64) (by decide)) .nil)))) rfl rfl) hL fun a s e_ hL=>sx 5 (t_assign (o_t 19 rfl) rfl rfl) hL fun a s e_ hL=>en' (hK15 _ _ ?_)
    refine wp_seq_k fun K19 hK19=>?_
    obtain ⟨h20, r21, h22, h⟩ := h
    refine rg (sx 20 (t_move (o_t 0 rfl) rfl rfl) hL fun a s e_ hL=>?_)
    refine sx 21 (t_move (o_t 3 rfl) rfl rfl) hL fun a s e_ hL=>sx 22 (t_add (o_t 21 rfl) (o_i (k := .i64) (by decide)) h20 rfl rfl) hL fun a s e_ hL=>sx 23 (t_call (ref03_in_ok h22) (xs := [.tmp 20, .tmp 22, .const (.int .i64 128), .const (.int .i64 191)]) (.cons (o_t 20 rfl) (.cons (o_t 22 rfl) (.cons (o_i (k := .i64) (by decide)) (.cons (o_i (k := .i64) (by decide)) .nil)))) rfl rfl) hL fun a s e_ hL=>sx 6 (t_assign (o_t 23 rfl) rfl rfl) hL fun a s e_ hL=>en' (hK19 _ _ ?_)
    refine wp_seq_k fun K23 hK23=>?_
    obtain ⟨h24, r25, h26, h⟩ := h
    refine rg (sx 24 (t_move (o_t 0 rfl) rfl rfl) hL fun a s e_ hL=>?_)
    refine sx 25 (t_move (o_t 3 rfl) rfl rfl) hL fun a s e_ hL=>sx 26 (t_add (o_t 25 rfl) (o_i (k := .i64) (by decide)) h24 rfl rfl) hL fun a s e_ hL=>sx 27 (t_call (ref03_in_ok h26) (xs := [.tmp 24, .tmp 26, .const (.int .i64 128), .const (.int .i64 191)]) (.cons (o_t 24 rfl) (.cons (o_t 26 rfl) (.cons (o_i (k := .i64) (by decide)) (.cons (o_i (k := .i64) (by decide)) .nil)))) rfl rfl) hL fun a s e_ hL=>sx 7 (t_assign (o_t 27 rfl) rfl rfl) hL fun a s e_ hL=>en' (hK23 _ _ ?_)
    refine wp_block (wp_seq_k fun K27 hK27=>?_)
    refine rg (sx 29 (t_move (o_t 4 rfl) rfl rfl) hL fun a s e_ hL=>?_)
    refine sx 30 (t_lss (o_t 29 rfl) (o_i (k := .i64) (by decide)) rfl rfl) hL fun a s e_ hL=>sx 28 (t_assign (o_t 30 rfl) rfl rfl) hL fun a s e_ hL=>en' (hK27 _ _ ?_)
    refine cnd hL rfl (fun hb_ => ?_) (fun hb_ => ?_)
    · replace h := h.1 hb_
      obtain ⟨h28, h⟩ := h
      refine rg (sx 31 (t_move (o_t 3 rfl) rfl rfl) hL fun a s e_ hL=>?_)
      refine sx 32 (t_add (o_t 31 rfl) (o_i (k := .i64) (by decide)) h28 rfl rfl) hL fun a s e_ hL=>sx 3 (t_assign (o_t 32 rfl) rfl rfl) hL fun a s e_ hL=>en' ?_
      exact hKL9 k8 a s (Nat.lt_succ_self _) ⟨(i6 + 1), hL.keep (.cons (t := 0) rfl nE (.cons (t := 3) rfl nE .nil)), h⟩
    · replace h := h.2 hb_
      refine wp_seq_k fun K29 hK29=>?_
      obtain ⟨b30, h31, h⟩ := h
      refine rg (sx 34 (t_move (o_t 4 rfl) rfl rfl) hL fun a s e_ hL=>?_)
      refine sx 35 (t_geq (o_t 34 rfl) (o_i (k := .i64) (by decide)) rfl rfl) hL fun a s e_ hL=>sx 36 (t_move (o_t 35 rfl) rfl rfl) hL fun a s e_ hL=>sx 37 (t_g1 rfl rfl rfl (fun hc_ => t_move (o_t 4 rfl) rfl rfl)) hL fun a s e_ hL=>sx 38 (t_g1 rfl rfl rfl (fun hc_ => t_leq (o_w hc_ 37 rfl) (o_i (k := .i64) (by decide)) rfl rfl)) hL fun a s e_ hL=>sx 39 (t_and (o_t 36 rfl) (fun hc2_ => (o_w hc2_ 38 rfl)) rfl rfl) hL fun a s e_ hL=>sx 40 (t_move (o_t 39 rfl) rfl rfl) hL fun a s e_ hL=>sx 41 (t_g1 rfl rfl rfl (fun hc_ => t_move (o_t 5 rfl) rfl rfl)) hL fun a s e_ hL=>sx 42 (h31 ▸ (t_and (o_t 40 rfl) (fun hc2_ => (o_w hc2_ 41 rfl)) rfl rfl)) hL fun a s e_ hL=>sx 33 (t_assign (o_t 42 rfl) rfl rfl) hL fun a s e_ hL=>?_
      refine en' (hK29 _ _ ?_)
      refine cnd hL rfl (fun hb_ => ?_) (fun hb_ => ?_)
      · replace h := h.1 hb_
        obtain ⟨h32, h⟩ := h
        refine rg (sx 43 (t_move (o_t 3 rfl) rfl rfl) hL fun a s e_ hL=>?_)
        refine sx 44 (t_add (o_t 43 rfl) (o_i (k := .i64) (by decide)) h32 rfl rfl) hL fun a s e_ hL=>sx 3 (t_assign (o_t 44 rfl) rfl rfl) hL fun a s e_ hL=>en' ?_
        exact hKL9 k8 a s (Nat.lt_succ_self _) ⟨(i6 + 2), hL.keep (.cons (t := 0) rfl nE (.cons (t := 3) rfl nE .nil)), h⟩
      · replace h := h.2 hb_
        refine wp_seq_k fun K33 hK33=>?_
        obtain ⟨h34, r35, h36, h⟩ := h
        refine rg (sx 46 (t_move (o_t 4 rfl) rfl rfl) hL fun a s e_ hL=>?_)
        refine sx 47 (t_eqi (o_t 46 rfl) (o_i (k := .i64) (by decide)) rfl rfl) hL fun a s e_ hL=>sx 48 (t_move (o_t 47 rfl) rfl rfl) hL fun a s e_ hL=>sx 49 (t_g1 rfl rfl rfl (fun hc_ => t_move (o_t 0 rfl) rfl rfl)) hL fun a s e_ hL=>sx 50 (t_g1 rfl rfl rfl (fun hc_ => t_move (o_t 3 rfl) rfl rfl)) hL fun a s e_ hL=>sx 51 (t_g1 rfl rfl rfl (fun hc_ => t_add (o_w hc_ 50 rfl) (o_i (k := .i64) (by decide)) (h34 hc_) rfl rfl)) hL fun a s e_ hL=>sx 52 (t_g1 rfl rfl rfl (fun hc_ => t_call (ref03_in_ok (h36 hc_)) (xs := [.tmp 49, .tmp 51, .const (.int .i64 160), .const (.int .i64 191)]) (.cons (o_w hc_ 49 rfl) (.cons (o_w hc_ 51 rfl) (.cons (o_i (k := .i64) (by decide)) (.cons (o_i (k := .i64) (by decide)) .nil)))) rfl rfl)) hL fun a s e_ hL=>sx 53 (t_and (o_t 48 rfl) (fun hc2_ => (o_w hc2_ 52 rfl)) rfl rfl) hL fun a s e_ hL=>sx 54 (t_move (o_t 53 rfl) rfl rfl) hL fun a s e_ hL=>sx 55 (t_g1 rfl rfl rfl (fun hc_ => t_move (o_t 6 rfl) rfl rfl)) hL fun a s e_ hL=>?_
        refine sx 56 (t_and (o_t 54 rfl) (fun hc2_ => (o_w hc2_ 55 rfl)) rfl rfl) hL fun a s e_ hL=>sx 45 (t_assign (o_t 56 rfl) rfl rfl) hL fun a s e_ hL=>en' (hK33 _ _ ?_)
        refine cnd hL rfl (fun hb_ => ?_) (fun hb_ => ?_)
        · replace h := h.1 hb_
          obtain ⟨h37, h⟩ := h
          refine rg (sx 57 (t_move (o_t 3 rfl) rfl rfl) hL fun a s e_ hL=>?_)
          refine sx 58 (t_add (o_t 57 rfl) (o_i (k := .i64) (by decide)) h37 rfl rfl) hL fun a s e_ hL=>sx 3 (t_assign (o_t 58 rfl) rfl rfl) hL fun a s e_ hL=>en' ?_
          exact hKL9 k8 a s (Nat.lt_succ_self _) ⟨(i6 + 3), hL.keep (.cons (t := 0) rfl nE (.cons (t := 3) rfl nE .nil)), h⟩
        · replace h := h.2 hb_
          refine wp_seq_k fun K38 hK38=>?_
          obtain ⟨b39, h40, h⟩ := h
          refine rg (sx 60 (t_move (o_t 4 rfl) rfl rfl) hL fun a s e_ hL=>?_)
          refine sx 61 (t_geq (o_t 60 rfl) (o_i (k := .i64) (by decide)) rfl rfl) hL fun a s e_ hL=>sx 62 (t_move (o_t 61 rfl) rfl rfl) hL fun a s e_ hL=>sx 63 (t_g1 rfl rfl rfl (fun hc_ => t_move (o_t 4 rfl) rfl rfl)) hL fun a s e_ hL=>sx 64 (t_g1 rfl rfl rfl (fun hc_ => t_leq (o_w hc_ 63 rfl) (o_i (k := .i64) (by decide)) rfl rfl)) hL fun a s e_ hL=>sx 65 (t_and (o_t 62 rfl) (fun hc2_ => (o_w hc2_ 64 rfl)) rfl rfl) hL fun a s e_ hL=>sx 66 (t_move (o_t 65 rfl) rfl rfl) hL fun a s e_ hL=>sx 67 (t_g1 rfl rfl rfl (fun hc_ => t_move (o_t 4 rfl) rfl rfl)) hL fun a s e_ hL=>sx 68 (t_g1 rfl rfl rfl (fun hc_ => t_eqi (o_w hc_ 67 rfl) (o_i (k := .i64) (by decide)) rfl rfl)) hL fun a s e_ hL=>sx 69 (h40 ▸ (t_or (o_t 66 rfl) (fun hc2_ => (o_w hc2_ 68 rfl)) rfl rfl)) hL fun a s e_ hL=>?_
          refine sx 70 (t_move (o_t 69 rfl) rfl rfl) hL fun a s e_ hL=>sx 71 (t_g1 rfl rfl rfl (fun hc_ => t_move (o_t 4 rfl) rfl rfl)) hL fun a s e_ hL=>sx 72 (t_g1 rfl rfl rfl (fun hc_ => t_eqi (o_w hc_ 71 rfl) (o_i (k := .i64) (by decide)) rfl rfl)) hL fun a s e_ hL=>sx 73 (t_or (o_t 70 rfl) (fun hc2_ => (o_w hc2_ 72 rfl)) rfl rfl) hL fun a s e_ hL=>sx 74 (t_move (o_t 73 rfl) rfl rfl) hL fun a s e_ hL=>sx 75 (t_g1 rfl rfl rfl (fun hc_ => t_move (o_t 5 rfl) rfl rfl)) hL fun a s e_ hL=>sx 76 (t_and (o_t 74 rfl) (fun hc2_ => (o_w hc2_ 75 rfl)) rfl rfl) hL fun a s e_ hL=>sx 77 (t_move (o_t 76 rfl) rfl rfl) hL fun a s e_ hL=>sx 78 (t_g1 rfl rfl rfl (fun hc_ => t_move (o_t 6 rfl) rfl rfl)) hL fun a s e_ hL=>?_
          refine sx 79 (t_and (o_t 77 rfl) (fun hc2_ => (o_w hc2_ 78 rfl)) rfl rfl) hL fun a s e_ hL=>sx 59 (t_assign (o_t 79 rfl) rfl rfl) hL fun a s e_ hL=>en' (hK38 _ _ ?_)
          refine cnd hL rfl (fun hb_ => ?_) (fun hb_ => ?_)
          · replace h := h.1 hb_
            obtain ⟨h41, h⟩ := h
            refine rg (sx 80 (t_move (o_t 3 rfl) rfl rfl) hL fun a s e_ hL=>?_)
            refine sx 81 (t_add (o_t 80 rfl) (o_i (k := .i64) (by decide)) h41 rfl rfl) hL fun a s e_ hL=>sx 3 (t_assign (o_t 81 rfl) rfl rfl) hL fun a s e_ hL=>en' ?_
            exact hKL9 k8 a s (Nat.lt_succ_self _) ⟨(i6 + 3), hL.keep (.cons (t := 0) rfl nE (.cons (t := 3) rfl nE .nil)), h⟩
          · replace h := h.2 hb_
            refine wp_seq_k fun K42 hK42=>?_
            obtain ⟨h43, r44, h45, h⟩ := h
            refine rg (sx 83 (t_move (o_t 4 rfl) rfl rfl) hL fun a s e_ hL=>?_)
            refine sx 84 (t_eqi (o_t 83 rfl) (o_i (k := .i64) (by decide)) rfl rfl) hL fun a s e_ hL=>sx 85 (t_move (o_t 84 rfl) rfl rfl) hL fun a s e_ hL=>sx 86 (t_g1 rfl rfl rfl (fun hc_ => t_move (o_t 0 rfl) rfl rfl)) hL fun a s e_ hL=>sx 87 (t_g1 rfl rfl rfl (fun hc_ => t_move (o_t 3 rfl) rfl rfl)) hL fun a s e_ hL=>sx 88 (t_g1 rfl rfl rfl (fun hc_ => t_add (o_w hc_ 87 rfl) (o_i (k := .i64) (by decide)) (h43 hc_) rfl rfl)) hL fun a s e_ hL=>sx 89 (t_g1 rfl rfl rfl (fun hc_ => t_call (ref03_in_ok (h45 hc_)) (xs := [.tmp 86, .tmp 88, .const (.int .i64 128), .const (.int .i64 159)]) (.cons (o_w hc_ 86 rfl) (.cons (o_w hc_ 88 rfl) (.cons (o_i (k := .i64) (by decide)) (.cons (o_i (k := .i64) (by decide)) .nil)))) rfl rfl)) hL fun a s e_ hL=>sx 90 (t_and (o_t 85 rfl) (fun hc2_ => (o_w hc2_ 89 rfl)) rfl rfl) hL fun a s e_ hL=>sx 91 (t_move (o_t 90 rfl) rfl rfl) hL fun a s e_ hL=>sx 92 (t_g1 rfl rfl rfl (fun hc_ => t_move (o_t 6 rfl) rfl rfl)) hL fun a s e_ hL=>?_
            refine sx 93 (t_and (o_t 91 rfl) (fun hc2_ => (o_w hc2_ 92 rfl)) rfl rfl) hL fun a s e_ hL=>sx 82 (t_assign (o_t 93 rfl) rfl rfl) hL fun a s e_ hL=>en' (hK42 _ _ ?_)
            refine cnd hL rfl (fun hb_ => ?_) (fun hb_ => ?_)
            · replace h := h.1 hb_
              obtain ⟨h46, h⟩ := h
              refine rg (sx 94 (t_move (o_t 3 rfl) rfl rfl) hL fun a s e_ hL=>?_)
              refine sx 95 (t_add (o_t 94 rfl) (o_i (k := .i64) (by decide)) h46 rfl rfl) hL fun a s e_ hL=>sx 3 (t_assign (o_t 95 rfl) rfl rfl) hL fun a s e_ hL=>en' ?_
              exact hKL9 k8 a s (Nat.lt_succ_self _) ⟨(i6 + 3), hL.keep (.cons (t := 0) rfl nE (.cons (t := 3) rfl nE .nil)), h⟩
            · replace h := h.2 hb_
              refine wp_seq_k fun K47 hK47=>?_
              obtain ⟨h48, r49, h50, h⟩ := h
              refine rg (sx 97 (t_move (o_t 4 rfl) rfl rfl) hL fun a s e_ hL=>?_)
              refine sx 98 (t_eqi (o_t 97 rfl) (o_i (k := .i64) (by decide)) rfl rfl) hL fun a s e_ hL=>sx 99 (t_move (o_t 98 rfl) rfl rfl) hL fun a s e_ hL=>sx 100 (t_g1 rfl rfl rfl (fun hc_ => t_move (o_t 0 rfl) rfl rfl)) hL fun a s e_ hL=>sx 101 (t_g1 rfl rfl rfl (fun hc_ => t_move (o_t 3 rfl) rfl rfl)) hL fun a s e_ hL=>sx 102 (t_g1 rfl rfl rfl (fun hc_ => t_add (o_w hc_ 101 rfl) (o_i (k := .i64) (by decide)) (h48 hc_) rfl rfl)) hL fun a s e_ hL=>sx 103 (t_g1 rfl rfl rfl (fun hc_ => t_call (ref03_in_ok (h50 hc_)) (xs := [.tmp 100, .tmp 102, .const (.int .i64 144), .const (.int .i64 191)]) (.cons (o_w hc_ 100 rfl) (.cons (o_w hc_ 102 rfl) (.cons (o_i (k := .i64) (by decide)) (.cons (o_i (k := .i64) (by decide)) .nil)))) rfl rfl)) hL fun a s e_ hL=>sx 104 (t_and (o_t 99 rfl) (fun hc2_ => (o_w hc2_ 103 rfl)) rfl rfl) hL fun a s e_ hL=>sx 105 (t_move (o_t 104 rfl) rfl rfl) hL fun a s e_ hL=>sx 106 (t_g1 rfl rfl rfl (fun hc_ => t_move (o_t 6 rfl) rfl rfl)) hL fun a s e_ hL=>?_
              refine sx 107 (t_and (o_t 105 rfl) (fun hc2_ => (o_w hc2_ 106 rfl)) rfl rfl) hL fun a s e_ hL=>sx 108 (t_move (o_t 107 rfl) rfl rfl) hL fun a s e_ hL=>sx 109 (t_g1 rfl rfl rfl (fun hc_ => t_move (o_t 7 rfl) rfl rfl)) hL fun a s e_ hL=>sx 110 (t_and (o_t 108 rfl) (fun hc2_ => (o_w hc2_ 109 rfl)) rfl rfl) hL fun a s e_ hL=>sx 96 (t_assign (o_t 110 rfl) rfl rfl) hL fun a s e_ hL=>en' (hK47 _ _ ?_)
              refine cnd hL rfl (fun hb_ => ?_) (fun hb_ => ?_)
              · replace h := h.1 hb_
                obtain ⟨h51, h⟩ := h
                refine rg (sx 111 (t_move (o_t 3 rfl) rfl rfl) hL fun a s e_ hL=>?_)
                refine sx 112 (t_add (o_t 111 rfl) (o_i (k := .i64) (by decide)) h51 rfl rfl) hL fun a s e_ hL=>sx 3 (t_assign (o_t 112 rfl) rfl rfl) hL fun a s e_ hL=>en' ?_
                exact hKL9 k8 a s (Nat.lt_succ_self _) ⟨(i6 + 4), hL.keep (.cons (t := 0) rfl nE (.cons (t := 3) rfl nE .nil)), h⟩
              · replace h := h.2 hb_
                refine wp_seq_k fun K52 hK52=>?_
                obtain ⟨b53, h54, h⟩ := h
                refine rg (sx 114 (t_move (o_t 4 rfl) rfl rfl) hL fun a s e_ hL=>?_)
                refine sx 115 (t_geq (o_t 114 rfl) (o_i (k := .i64) (by decide)) rfl rfl) hL fun a s e_ hL=>sx 116 (t_move (o_t 115 rfl) rfl rfl) hL fun a s e_ hL=>sx 117 (t_g1 rfl rfl rfl (fun hc_ => t_move (o_t 4 rfl) rfl rfl)) hL fun a s e_ hL=>sx 118 (t_g1 rfl rfl rfl (fun hc_ => t_leq (o_w hc_ 117 rfl) (o_i (k := .i64) (by decide)) rfl rfl)) hL fun a s e_ hL=>sx 119 (t_and (o_t 116 rfl) (fun hc2_ => (o_w hc2_ 118 rfl)) rfl rfl) hL fun a s e_ hL=>sx 120 (t_move (o_t 119 rfl) rfl rfl) hL fun a s e_ hL=>sx 121 (t_g1 rfl rfl rfl (fun hc_ => t_move (o_t 5 rfl) rfl rfl)) hL fun a s e_ hL=>sx 122 (h54 ▸ (t_and (o_t 120 rfl) (fun hc2_ => (o_w hc2_ 121 rfl)) rfl rfl)) hL fun a s e_ hL=>sx 123 (t_move (o_t 122 rfl) rfl rfl) hL fun a s e_ hL=>?_
                refine sx 124 (t_g1 rfl rfl rfl (fun hc_ => t_move (o_t 6 rfl) rfl rfl)) hL fun a s e_ hL=>sx 125 (t_and (o_t 123 rfl) (fun hc2_ => (o_w hc2_ 124 rfl)) rfl rfl) hL fun a s e_ hL=>sx 126 (t_move (o_t 125 rfl) rfl rfl) hL fun a s e_ hL=>sx 127 (t_g1 rfl rfl rfl (fun hc_ => t_move (o_t 7 rfl) rfl rfl)) hL fun a s e_ hL=>sx 128 (t_and (o_t 126 rfl) (fun hc2_ => (o_w hc2_ 127 rfl)) rfl rfl) hL fun a s e_ hL=>sx 113 (t_assign (o_t 128 rfl) rfl rfl) hL fun a s e_ hL=>en' (hK52 _ _ ?_)
                refine cnd hL rfl (fun hb_ => ?_) (fun hb_ => ?_)
                · replace h := h.1 hb_
                  obtain ⟨h55, h⟩ := h
                  refine rg (sx 129 (t_move (o_t 3 rfl) rfl rfl) hL fun a s e_ hL=>?_)
                  refine sx 130 (t_add (o_t 129 rfl) (o_i (k := .i64) (by decide)) h55 rfl rfl) hL fun a s e_ hL=>sx 3 (t_assign (o_t 130 rfl) rfl rfl) hL fun a s e_ hL=>en' ?_
                  exact hKL9 k8 a s (Nat.lt_succ_self _) ⟨(i6 + 4), hL.keep (.cons (t := 0) rfl nE (.cons (t := 3) rfl nE .nil)), h⟩
                · replace h := h.2 hb_
                  refine wp_seq_k fun K56 hK56=>?_
                  obtain ⟨h57, r58, h59, h⟩ := h
                  refine rg (sx 132 (t_move (o_t 4 rfl) rfl rfl) hL fun a s e_ hL=>?_)
                  refine sx 133 (t_eqi (o_t 132 rfl) (o_i (k := .i64) (by decide)) rfl rfl) hL fun a s e_ hL=>sx 134 (t_move (o_t 133 rfl) rfl rfl) hL fun a s e_ hL=>sx 135 (t_g1 rfl rfl rfl (fun hc_ => t_move (o_t 0 rfl) rfl rfl)) hL fun a s e_ hL=>sx 136 (t_g1 rfl rfl rfl (fun hc_ => t_move (o_t 3 rfl) rfl rfl)) hL fun a s e_ hL=>sx 137 (t_g1 rfl rfl rfl (fun hc_ => t_add (o_w hc_ 136 rfl) (o_i (k := .i64) (by decide)) (h57 hc_) rfl rfl)) hL fun a s e_ hL=>sx 138 (t_g1 rfl rfl rfl (fun hc_ => t_call (ref03_in_ok (h59 hc_)) (xs := [.tmp 135, .tmp 137, .const (.int .i64 128), .const (.int .i64 143)]) (.cons (o_w hc_ 135 rfl) (.cons (o_w hc_ 137 rfl) (.cons (o_i (k := .i64) (by decide)) (.cons (o_i (k := .i64) (by decide)) .nil)))) rfl rfl)) hL fun a s e_ hL=>sx 139 (t_and (o_t 134 rfl) (fun hc2_ => (o_w hc2_ 138 rfl)) rfl rfl) hL fun a s e_ hL=>sx 140 (t_move (o_t 139 rfl) rfl rfl) hL fun a s e_ hL=>sx 141 (t_g1 rfl rfl rfl (fun hc_ => t_move (o_t 6 rfl) rfl rfl)) hL fun a s e_ hL=>?_
                  refine sx 142 (t_and (o_t 140 rfl) (fun hc2_ => (o_w hc2_ 141 rfl)) rfl rfl) hL fun a s e_ hL=>sx 143 (t_move (o_t 142 rfl) rfl rfl) hL fun a s e_ hL=>sx 144 (t_g1 rfl rfl rfl (fun hc_ => t_move (o_t 7 rfl) rfl rfl)) hL fun a s e_ hL=>sx 145 (t_and (o_t 143 rfl) (fun hc2_ => (o_w hc2_ 144 rfl)) rfl rfl) hL fun a s e_ hL=>sx 131 (t_assign (o_t 145 rfl) rfl rfl) hL fun a s e_ hL=>en' (hK56 _ _ ?_)
                  refine cnd hL rfl (fun hb_ => ?_) (fun hb_ => ?_)
                  · replace h := h.1 hb_
                    obtain ⟨h60, h⟩ := h
                    refine rg (sx 146 (t_move (o_t 3 rfl) rfl rfl) hL fun a s e_ hL=>?_)
                    refine sx 147 (t_add (o_t 146 rfl) (o_i (k := .i64) (by decide)) h60 rfl rfl) hL fun a s e_ hL=>sx 3 (t_assign (o_t 147 rfl) rfl rfl) hL fun a s e_ hL=>en' ?_
                    exact hKL9 k8 a s (Nat.lt_succ_self _) ⟨(i6 + 4), hL.keep (.cons (t := 0) rfl nE (.cons (t := 3) rfl nE .nil)), h⟩
                  · replace h := h.2 hb_
                    refine wp_seq_k fun K61 hK61=>rg (sx 2 (t_assign o_b rfl rfl) hL fun a s e_ hL=>?_)
                    refine en' (hK61 _ _ ?_)
                    subst h
                    exact wp_ret (retq rfl hL rfl)
  · replace h := h.2 hb_
    refine wp_exit ?_
    exact J4 a s (hL.keep .nil) h
end Go.Proofs.YtdidjelkkanenaaDoor.V
namespace Go.Proofs.YtdidjelkkanenaaDoor.V
open Go
set_option linter.unusedVariables false
def ref04_moved.j1 (r_ : (List SNode)) (out5 : (List SNode)) : Prop := r_ = out5
def ref04_moved.j2 (L1_ : (List SNode) → Int → Prop) (out9 : (List SNode)) (i11 : Int) (n30 : SNode) : Prop := (out9.length + [n30].length ≤ 2147483648) ∧ (InR .i64 (i11 + 1)) ∧ L1_ (out9 ++ [n30]) (i11 + 1)
def ref04_moved.j3 (L1_ : (List SNode) → Int → Prop) (by_ : Int) (out9 : (List SNode)) (i11 : Int) (n25 : SNode) : Prop := ((((n25.1 == 4) || (n25.1 == 5))) = true → (InR .i64 (n25.2.2.1 + by_)) ∧ (ref04_moved.j2 (L1_) out9 i11) (n25.1, n25.2.1, n25.2.2.1 + by_, n25.2.2.2.1, n25.2.2.2.2.1, n25.2.2.2.2.2.1, n25.2.2.2.2.2.2)) ∧ ((((n25.1 == 4) || (n25.1 == 5))) = false → (ref04_moved.j2 (L1_) out9 i11) n25)
def ref04_moved.l1 (l_ : (List SNode)) (by_ : Int) (X1 : (List SNode) → Prop) : Nat → (List SNode) → Int → Prop
  | 0, _, _ => False
  | k_0 + 1, out9, i11 => ((decide (i11 < (l_.length : Int))) = true → ∃ e19 : SNode, at? l_ i11 = some e19 ∧ ((decide (4 ≤ e19.1)) = true → (InR .i64 (e19.2.1 + by_)) ∧ (ref04_moved.j3 (ref04_moved.l1 l_ by_ X1 k_0) by_ out9 i11) (e19.1, e19.2.1 + by_, e19.2.2.1, e19.2.2.2.1, e19.2.2.2.2.1, e19.2.2.2.2.2.1, e19.2.2.2.2.2.2)) ∧ ((decide (4 ≤ e19.1)) = false → (ref04_moved.j3 (ref04_moved.l1 l_ by_ X1 k_0) by_ out9 i11) e19)) ∧ ((decide (i11 < (l_.length : Int))) = false → X1 out9)
def ref04_moved (l_ : (List SNode)) (by_ : Int) (r_ : (List SNode)) : Prop := ∃ k12, ref04_moved.l1 l_ by_ (ref04_moved.j1 r_) k12 ([] : (List SNode)) 0
def ref04_Wrap (kind_ : Int) (lo_ : Int) (hi_ : Int) (a_ : SDesc) (r_ : SDesc) : Prop := ∃ r6 : (List SNode), ref04_moved a_ 0 r6 ∧ (InR .i64 ((a_.length : Int) - 1)) ∧ (r6.length + [(kind_, (a_.length : Int) - 1, 0, lo_, hi_, (0#256), ([] : Str))].length ≤ 2147483648) ∧ r_ = r6 ++ [(kind_, (a_.length : Int) - 1, 0, lo_, hi_, (0#256), ([] : Str))]
def ref04_Pair (kind_ : Int) (a_ : SDesc) (b_ : SDesc) (r_ : SDesc) : Prop := ∃ r6 : (List SNode), ref04_moved a_ 0 r6 ∧ ∃ r8 : (List SNode), ref04_moved b_ (a_.length : Int) r8 ∧ (r6.length + r8.length ≤ 2147483648) ∧ (InR .i64 ((a_.length : Int) - 1)) ∧ (InR .i64 ((a_.length : Int) + (b_.length : Int))) ∧ (InR .i64 (((a_.length : Int) + (b_.length : Int)) - 1)) ∧ ((r6 ++ r8).length + [(kind_, (a_.length : Int) - 1, ((a_.length : Int) + (b_.length : Int)) - 1, 0, 0, (0#256), ([] : Str))].length ≤ 2147483648) ∧ r_ = (r6 ++ r8) ++ [(kind_, (a_.length : Int) - 1, ((a_.length : Int) + (b_.length : Int)) - 1, 0, 0, (0#256), ([] : Str))]
def ref04_Few.j1 (d_ : SDesc) (r_ : Bool) (n5 : Int) : Prop := ∃ b8 : Bool, b8 = ((decide ((d_.length : Int) ≤ 100)) && (decide (n5 ≤ 2000))) ∧ r_ = b8
def ref04_Few.l1 (d_ : SDesc) (X1 : Int → Prop) : Nat → Int → Int → Prop
  | 0, _, _ => False
  | k_0 + 1, n10, i11 => ∃ b17 : Bool, b17 = ((decide (i11 < (d_.length : Int))) && (decide (i11 < 200))) ∧ ((b17) = true → ∃ e20 : SNode, at? d_ i11 = some e20 ∧ (InR .i64 (n10 + (e20.2.2.2.2.2.2.length : Int))) ∧ (InR .i64 (i11 + 1)) ∧ ref04_Few.l1 d_ X1 k_0 (n10 + (e20.2.2.2.2.2.2.length : Int)) (i11 + 1)) ∧ ((b17) = false → X1 n10)
def ref04_Few (d_ : SDesc) (r_ : Bool) : Prop := ∃ k12, ref04_Few.l1 d_ (ref04_Few.j1 d_ r_) k12 0 0
def ref04_text.j1 (s_ : Str) (r_ : Bool) : Prop := ∃ r6 : Bool, (((decide (0 < (s_.length : Int))) = true) → ref03_Utf8 s_ r6) ∧ r_ = ((decide (0 < (s_.length : Int))) && r6)
def ref04_text.l1 (s_ : Str) (r_ : Bool) (X1 : Prop) : Nat → Int → Prop
  | 0, _ => False
  | k_0 + 1, i8 => ((decide (i8 < (s_.length : Int))) = true → ∃ c16 : Int, byte? s_ i8 = some c16 ∧ (((c16 == 34)) = true → r_ = false) ∧ (((c16 == 34)) = false → (InR .i64 (i8 + 1)) ∧ ref04_text.l1 s_ r_ X1 k_0 (i8 + 1))) ∧ ((decide (i8 < (s_.length : Int))) = false → X1)
def ref04_text (s_ : Str) (r_ : Bool) : Prop := ∃ k9, ref04_text.l1 s_ r_ (ref04_text.j1 s_ r_) k9 0
def ref04_First.j1 (n_ : (List SNode) → Int → Int → Prop) (l_ : (List SNode)) (i_ : Int) (r_ : Int) (e6 : SNode) (want48 : SNode) : Prop := (InR .i64 (i_ - 1)) ∧ ∃ r52 : Int, n_ l_ (i_ - 1) r52 ∧ (((e6 != want48)) = true → r_ = (-1)) ∧ (((e6 != want48)) = false → r_ = r52)
def ref04_First.j2 (n_ : (List SNode) → Int → Int → Prop) (l_ : (List SNode)) (i_ : Int) (r_ : Int) (e6 : SNode) (v66 : Bool) : Prop := ((v66) = true → (InR .i64 (i_ - 1)) ∧ (InR .i64 (i_ - 1)) ∧ ∃ r73 : Int, n_ l_ (i_ - 1) r73 ∧ ((decide (r73 < 0)) = true → r_ = (-1)) ∧ ((decide (r73 < 0)) = false → (InR .i64 (r73 - 1)) ∧ (InR .i64 (r73 - 1)) ∧ ∃ r81 : Int, n_ l_ (r73 - 1) r81 ∧ ∃ b85 : Bool, b85 = (e6 != (e6.1, r73 - 1, i_ - 1, 0, 0, (0#256), ([] : Str))) ∧ ((b85) = true → r_ = (-1)) ∧ ((b85) = false → r_ = r81))) ∧ ((v66) = false → r_ = (-1))
def ref04_First.j3 (n_ : (List SNode) → Int → Int → Prop) (l_ : (List SNode)) (i_ : Int) (r_ : Int) (e6 : SNode) (v41 : Bool) : Prop := ((v41) = true → (InR .i64 (i_ - 1)) ∧ (((e6.1 == 7)) = true → ∃ b61 : Bool, b61 = ((decide (e6.2.2.2.1 < 0)) || (decide (e6.2.2.2.2.1 < e6.2.2.2.1))) ∧ (((b61 || (decide (255 < e6.2.2.2.2.1)))) = true → r_ = (-1)) ∧ (((b61 || (decide (255 < e6.2.2.2.2.1)))) = false → (ref04_First.j1 (n_) l_ i_ r_ e6) (e6.1, i_ - 1, 0, e6.2.2.2.1, e6.2.2.2.2.1, (0#256), ([] : Str)))) ∧ (((e6.1 == 7)) = false → (ref04_First.j1 (n_) l_ i_ r_ e6) (e6.1, i_ - 1, 0, 0, 0, (0#256), ([] : Str)))) ∧ ((v41) = false → (((e6.1 == 4)) = true → (ref04_First.j2 (n_) l_ i_ r_ e6) (e6.1 == 4)) ∧ (((e6.1 == 4)) = false → (ref04_First.j2 (n_) l_ i_ r_ e6) (e6.1 == 5)))
def ref04_First.n : Nat → (List SNode) → Int → Int → Prop
  | 0, _, _, _ => False
  | k_ + 1, l_, i_, r_ => ((decide (i_ < 0)) = true → r_ = (-1)) ∧ ((decide (i_ < 0)) = false → ∃ e6 : SNode, at? l_ i_ = some e6 ∧ (((e6.1 == 1)) = true → (((e6 != (e6.1, 0, 0, 0, 0, (0#256), ([] : Str)))) = true → r_ = (-1)) ∧ (((e6 != (e6.1, 0, 0, 0, 0, (0#256), ([] : Str)))) = false → r_ = i_)) ∧ (((e6.1 == 1)) = false → (((e6.1 == 2)) = true → ∃ b23 : Bool, b23 = (e6 != (e6.1, 0, 0, 0, 0, e6.2.2.2.2.2.1, ([] : Str))) ∧ ((b23) = true → r_ = (-1)) ∧ ((b23) = false → r_ = i_)) ∧ (((e6.1 == 2)) = false → (((e6.1 == 3)) = true → ∃ r30 : Bool, ref04_text e6.2.2.2.2.2.2 r30 ∧ (((!r30)) = true → r_ = (-1)) ∧ (((!r30)) = false → ∃ b35 : Bool, b35 = (e6 != (e6.1, 0, 0, 0, 0, (0#256), e6.2.2.2.2.2.2)) ∧ ((b35) = true → r_ = (-1)) ∧ ((b35) = false → r_ = i_))) ∧ (((e6.1 == 3)) = false → (((e6.1 == 6)) = true → (ref04_First.j3 (ref04_First.n k_) l_ i_ r_ e6) (e6.1 == 6)) ∧ (((e6.1 == 6)) = false → (((e6.1 == 7)) = true → (ref04_First.j3 (ref04_First.n k_) l_ i_ r_ e6) (e6.1 == 7)) ∧ (((e6.1 == 7)) = false → (((e6.1 == 8)) = true → (ref04_First.j3 (ref04_First.n k_) l_ i_ r_ e6) (e6.1 == 8)) ∧ (((e6.1 == 8)) = false → (ref04_First.j3 (ref04_First.n k_) l_ i_ r_ e6) (e6.1 == 9))))))))
def ref04_First (l_ : (List SNode)) (i_ : Int) (r_ : Int) : Prop := ∃ k_, ref04_First.n k_ l_ i_ r_
def ref04_Form (d_ : SDesc) (r_ : Bool) : Prop := (((decide (0 < (d_.length : Int))) = true) → InR .i64 ((d_.length : Int) - 1)) ∧ ∃ r4 : Int, (((decide (0 < (d_.length : Int))) = true) → ref04_First d_ ((d_.length : Int) - 1) r4) ∧ r_ = ((decide (0 < (d_.length : Int))) && (r4 == 0))
end Go.Proofs.YtdidjelkkanenaaDoor.V
namespace Go.Proofs.YtdidjelkkanenaaDoor.V
open Go
set_option linter.unusedVariables false
set_option maxRecDepth 100000
theorem ref04_moved_ok {l_ : (List SNode)} {by_ : Int} {r_ : (List SNode)} (h : ref04_moved l_ by_ r_) : Fn Tryd.prog 54 [(Pd.rep (En.slice En.SNode) l_), (Pd.rep (En.int .i64) by_)] (Ro En.SNode 48 r_) := by
  unfold ref04_moved at h
  refine fn_of Tryd.func54 rfl Tryd.ntmps54 (by rfl) (by simp) fun s0 a hL => ?_
  refine wp_seq_k fun K1 hK1=>rg (sx 4 (t_assign (o_nil (E := En.SNode) (N := s0.w.heap.size) (te := 48)) rfl rfl) hL fun a s e_ hL=>?_)
  refine en' (hK1 _ _ ?_)
  refine wp_seq_k fun K2 hK2=>rg (sx 5 (t_assign (o_nil (E := En.SNode) (N := s0.w.heap.size) (te := 48)) rfl rfl) hL fun a s e_ hL=>?_)
  refine en' (hK2 _ _ ?_)
  refine wp_seq_k fun K3 hK3=>wp_seq_k fun K4 hK4=>rg (sx 6 (t_assign (o_i (k := .i64) (by decide)) rfl rfl) hL fun a s e_ hL=>?_)
  refine en' (hK4 _ _ ?_)
  refine wp_block ?_
  have J7 : ∀ (out5 : (List SNode)) (og6 : Option Nat) (a : Act) (s : St), Has N0 44 s0 a s [(5, (Pd.row En.SNode s0.w.heap.size 48 og6 out5))] → ((ref04_moved.j1 r_) out5) → K3 a s.w := by
    intro out5 og6 a s hL h
    unfold ref04_moved.j1 at h
    show K3 a s.w
    refine hK3 _ _ (wp_seq_k fun K8 hK8=>?_)
    refine rg (sx 43 (t_move (o_t 5 rfl) rfl rfl) hL fun a s e_ hL=>?_)
    refine sx 4 (t_assign (o_t 43 rfl) rfl rfl) hL fun a s e_ hL=>en' (hK8 _ _ ?_)
    subst h
    exact wp_ret (reto rfl hL rfl)
  obtain ⟨k12, h⟩ := h
  refine lpg (fun k13 a s => ∃ (out9 : (List SNode)) (i11 : Int) (og10 : Option Nat), Has N0 44 s0 a s [(0, (Pd.rep (En.slice En.SNode) l_)), (1, (Pd.rep (En.int .i64) by_)), (5, (Pd.row En.SNode s0.w.heap.size 48 og10 out9)), (6, (Pd.rep (En.int .i64) i11))] ∧ ref04_moved.l1 l_ by_ (ref04_moved.j1 r_) k13 out9 i11) k12 ⟨([] : (List SNode)), 0, none, hL.keep (.cons (t := 0) rfl nE (.cons (t := 1) rfl nE (.cons (t := 5) rfl (fun _ _ h_ => h_) (.cons (t := 6) rfl nE .nil)))), h⟩ ?_
  rintro k13 a s ⟨out9, i11, og10, hL, h⟩ KL14 hKL14
  cases k13 with
  | zero => exact h.elim
  | succ k13 =>
  unfold ref04_moved.l1 at h
  refine wp_seq_k fun K15 hK15=>wp_seq_k fun K16 hK16=>rg (sx 8 (t_move (o_t 6 rfl) rfl rfl) hL fun a s e_ hL=>?_)
  refine sx 9 (t_move (o_t 0 rfl) rfl rfl) hL fun a s e_ hL=>sx 10 (t_len (o_t 9 rfl) Tryd.underlying22 rfl rfl) hL fun a s e_ hL=>sx 11 (t_lss (o_t 8 rfl) (o_t 10 rfl) rfl rfl) hL fun a s e_ hL=>en' (hK16 _ _ ?_)
  refine cnd hL rfl (fun hb_ => ?_) (fun hb_ => ?_)
  · replace h := h.1 hb_
    refine wp_skip ?_
    show K15 a s.w
    refine hK15 _ _ (wp_seq_k fun K17 hK17=>?_)
    refine wp_block (wp_seq_k fun K18 hK18=>?_)
    obtain ⟨e19, h20, h⟩ := h
    refine rg (sx 14 (t_move (o_t 0 rfl) rfl rfl) hL fun a s e_ hL=>?_)
    refine sx 15 (t_move (o_t 6 rfl) rfl rfl) hL fun a s e_ hL=>sx 16 (t_idx (o_t 14 rfl) (o_t 15 rfl) h20 Tryd.underlying22 ty48 rfl rfl) hL fun a s e_ hL=>sx 17 (t_load ty48 (o_t 16 rfl) rfl rfl) hL fun a s e_ hL=>?_
    have lt_d22 := hL.rlt 5 rfl
    refine st_alloc En.SNode (z := (0, 0, 0, 0, 0, (0#256), ([] : Str))) 7 hL tyz48 rfl rfl rfl rfl fun a s g21 hg_ hL => ?_
    have d22 : Dis (some g21) og10 := Dis.newg hg_ lt_d22
    refine st_stb (L' := [(0, (Pd.rep (En.slice En.SNode) l_)), (1, (Pd.rep (En.int .i64) by_)), (5, (Pd.row En.SNode s0.w.heap.size 48 og10 out9)), (6, (Pd.rep (En.int .i64) i11))]) 7 hL rfl (o_t 17 rfl) ty48 rfl rfl rfl (.cons (t := 0) rfl nE (.cons (t := 1) rfl nE (.cons (t := 5) rfl (Dis.ow (Dis.symm d22)) (.cons (t := 6) rfl nE .nil)))) fun s hL => ?_
    refine en' (hK18 _ _ ?_)
    refine wp_seq_k fun K23 hK23=>wp_seq_k fun K24 hK24=>rg (sx 18 (t_fab (off := 0) (o_t 7 rfl) Tryd.underlying48 rfl (prt_fst (prt_all _ _)) rfl ty3 rfl rfl) hL fun a s e_ hL=>?_)
    refine sx 19 (t_loado ty3 (o_t 18 rfl) rfl rfl) hL fun a s e_ hL=>sx 20 (t_geq (o_t 19 rfl) (o_i (k := .i64) (by decide)) rfl rfl) hL fun a s e_ hL=>en' (hK24 _ _ ?_)
    have J26 : ∀ (n25 : SNode) (a : Act) (s : St), Has N0 44 s0 a s [(0, (Pd.rep (En.slice En.SNode) l_)), (1, (Pd.rep (En.int .i64) by_)), (5, (Pd.row En.SNode s0.w.heap.size 48 og10 out9)), (6, (Pd.rep (En.int .i64) i11)), (7, (Pd.box En.SNode s0.w.heap.size g21 n25))] → Dis og10 (some g21) → ((ref04_moved.j3 (ref04_moved.l1 l_ by_ (ref04_moved.j1 r_) k13) by_ out9 i11) n25) → K23 a s.w := by
      intro n25 a s hL d27 h
      unfold ref04_moved.j3 at h
      show K23 a s.w
      refine hK23 _ _ (wp_seq_k fun K28 hK28=>?_)
      refine wp_seq_k fun K29 hK29=>rg (sx 26 (t_fab (off := 0) (o_t 7 rfl) Tryd.underlying48 rfl (prt_fst (prt_all _ _)) rfl ty3 rfl rfl) hL fun a s e_ hL=>?_)
      refine sx 27 (t_loado ty3 (o_t 26 rfl) rfl rfl) hL fun a s e_ hL=>sx 28 (t_eqi (o_t 27 rfl) (o_i (k := .i64) (by decide)) rfl rfl) hL fun a s e_ hL=>sx 29 (t_move (o_t 28 rfl) rfl rfl) hL fun a s e_ hL=>sx 30 (t_g1 rfl rfl rfl (fun hc_ => t_fab (off := 0) (o_t 7 rfl) Tryd.underlying48 rfl (prt_fst (prt_all _ _)) rfl ty3 rfl rfl)) hL fun a s e_ hL=>sx 31 (t_g1 rfl rfl rfl (fun hc_ => t_loado ty3 (o_w hc_ 30 rfl) rfl rfl)) hL fun a s e_ hL=>sx 32 (t_g1 rfl rfl rfl (fun hc_ => t_eqi (o_w hc_ 31 rfl) (o_i (k := .i64) (by decide)) rfl rfl)) hL fun a s e_ hL=>sx 33 (t_or (o_t 29 rfl) (fun hc2_ => (o_w hc2_ 32 rfl)) rfl rfl) hL fun a s e_ hL=>en' (hK29 _ _ ?_)
      have J31 : ∀ (n30 : SNode) (a : Act) (s : St), Has N0 44 s0 a s [(0, (Pd.rep (En.slice En.SNode) l_)), (1, (Pd.rep (En.int .i64) by_)), (5, (Pd.row En.SNode s0.w.heap.size 48 og10 out9)), (6, (Pd.rep (En.int .i64) i11)), (7, (Pd.box En.SNode s0.w.heap.size g21 n30))] → Dis og10 (some g21) → ((ref04_moved.j2 (ref04_moved.l1 l_ by_ (ref04_moved.j1 r_) k13) out9 i11) n30) → K28 a s.w := by
        intro n30 a s hL d32 h
        unfold ref04_moved.j2 at h
        show K28 a s.w
        refine hK28 _ _ ?_
        obtain ⟨h33, h⟩ := h
        refine rg (sx 39 (t_move (o_t 5 rfl) rfl rfl) hL fun a s e_ hL=>?_)
        refine sx 40 (t_loadb ty48 (o_t 7 rfl) rfl rfl) hL fun a s e_ hL=>sx 41 (t_lit (xs := [.tmp 40]) (.cons (o_t 40 rfl) .nil) Tryd.underlying22 ty48 rfl rfl (by decide) rfl rfl) hL fun a s e_ hL=>st_app (L' := [(0, (Pd.rep (En.slice En.SNode) l_)), (1, (Pd.rep (En.int .i64) by_)), (6, (Pd.rep (En.int .i64) i11))]) 42 hL (o_t 39 rfl) (o_t 41 rfl) Tryd.underlying22 ty48 h33 rfl rfl rfl rfl (.cons (t := 0) rfl nE (.cons (t := 1) rfl nE (.cons (t := 6) rfl nE .nil))) fun a s og34 hg_ hL => ?_
        refine sx 5 (t_assign (o_t 42 rfl) rfl rfl) hL fun a s e_ hL=>en' (hK17 _ _ ?_)
        obtain ⟨h35, h⟩ := h
        refine rg (sx 12 (t_move (o_t 6 rfl) rfl rfl) hL fun a s e_ hL=>?_)
        refine sx 13 (t_add (o_t 12 rfl) (o_i (k := .i64) (by decide)) h35 rfl rfl) hL fun a s e_ hL=>sx 6 (t_assign (o_t 13 rfl) rfl rfl) hL fun a s e_ hL=>en' ?_
        exact hKL14 k13 a s (Nat.lt_succ_self _) ⟨(out9 ++ [n30]), (i11 + 1), og34, hL.keep (.cons (t := 0) rfl nE (.cons (t := 1) rfl nE (.cons (t := 5) rfl (fun _ _ h_ => h_) (.cons (t := 6) rfl nE .nil)))), h⟩
      refine cnd hL rfl (fun hb_ => ?_) (fun hb_ => ?_)
      · replace h := h.1 hb_
        obtain ⟨h36, h⟩ := h
        refine rg (sx 34 (t_fab (off := 2) (o_t 7 rfl) Tryd.underlying48 rfl (prt_snd (prt_snd (prt_fst (prt_all _ _)) rfl) rfl) rfl ty3 rfl rfl) hL fun a s e_ hL=>?_)
        refine sx 35 (t_loado ty3 (o_t 34 rfl) rfl rfl) hL fun a s e_ hL=>sx 36 (t_move (o_t 1 rfl) rfl rfl) hL fun a s e_ hL=>sx 37 (t_add (o_t 35 rfl) (o_t 36 rfl) h36 rfl rfl) hL fun a s e_ hL=>sx 38 (t_fab (off := 2) (o_t 7 rfl) Tryd.underlying48 rfl (prt_snd (prt_snd (prt_fst (prt_all _ _)) rfl) rfl) rfl ty3 rfl rfl) hL fun a s e_ hL=>st_stob (L' := [(0, (Pd.rep (En.slice En.SNode) l_)), (1, (Pd.rep (En.int .i64) by_)), (5, (Pd.row En.SNode s0.w.heap.size 48 og10 out9)), (6, (Pd.rep (En.int .i64) i11))]) 7 hL rfl (o_t 38 rfl) (o_t 37 rfl) (sub_snd (sub_snd (sub_fst (sub_all _ _ _)) rfl) rfl) ty3 rfl rfl rfl (.cons (t := 0) rfl nE (.cons (t := 1) rfl nE (.cons (t := 5) rfl (Dis.ow d27) (.cons (t := 6) rfl nE .nil)))) fun s hL => ?_
        refine en' ?_
        exact J31 (n25.1, n25.2.1, n25.2.2.1 + by_, n25.2.2.2.1, n25.2.2.2.2.1, n25.2.2.2.2.2.1, n25.2.2.2.2.2.2) a s (hL.keep (.cons (t := 0) rfl nE (.cons (t := 1) rfl nE (.cons (t := 5) rfl (fun _ _ h_ => h_) (.cons (t := 6) rfl nE (.cons (t := 7) rfl (fun _ _ h_ => h_) .nil)))))) d27 h
      · replace h := h.2 hb_
        refine wp_skip ?_
        exact J31 n25 a s (hL.keep (.cons (t := 0) rfl nE (.cons (t := 1) rfl nE (.cons (t := 5) rfl (fun _ _ h_ => h_) (.cons (t := 6) rfl nE (.cons (t := 7) rfl (fun _ _ h_ => h_) .nil)))))) d27 h
    refine cnd hL rfl (fun hb_ => ?_) (fun hb_ => ?_)
    · replace h := h.1 hb_
      obtain ⟨h37, h⟩ := h
      refine rg (sx 21 (t_fab (off := 1) (o_t 7 rfl) Tryd.underlying48 rfl (prt_snd (prt_fst (prt_all _ _)) rfl) rfl ty3 rfl rfl) hL fun a s e_ hL=>?_)
      refine sx 22 (t_loado ty3 (o_t 21 rfl) rfl rfl) hL fun a s e_ hL=>sx 23 (t_move (o_t 1 rfl) rfl rfl) hL fun a s e_ hL=>sx 24 (t_add (o_t 22 rfl) (o_t 23 rfl) h37 rfl rfl) hL fun a s e_ hL=>sx 25 (t_fab (off := 1) (o_t 7 rfl) Tryd.underlying48 rfl (prt_snd (prt_fst (prt_all _ _)) rfl) rfl ty3 rfl rfl) hL fun a s e_ hL=>st_stob (L' := [(0, (Pd.rep (En.slice En.SNode) l_)), (1, (Pd.rep (En.int .i64) by_)), (5, (Pd.row En.SNode s0.w.heap.size 48 og10 out9)), (6, (Pd.rep (En.int .i64) i11))]) 7 hL rfl (o_t 25 rfl) (o_t 24 rfl) (sub_snd (sub_fst (sub_all _ _ _)) rfl) ty3 rfl rfl rfl (.cons (t := 0) rfl nE (.cons (t := 1) rfl nE (.cons (t := 5) rfl (Dis.ow (Dis.symm d22)) (.cons (t := 6) rfl nE .nil)))) fun s hL => ?_
      refine en' ?_
      exact J26 (e19.1, e19.2.1 + by_, e19.2.2.1, e19.2.2.2.1, e19.2.2.2.2.1, e19.2.2.2.2.2.1, e19.2.2.2.2.2.2) a s (hL.keep (.cons (t := 0) rfl nE (.cons (t := 1) rfl nE (.cons (t := 5) rfl (fun _ _ h_ => h_) (.cons (t := 6) rfl nE (.cons (t := 7) rfl (fun _ _ h_ => h_) .nil)))))) (Dis.symm d22) h
    · replace h := h.2 hb_
      refine wp_skip ?_
      exact J26 e19 a s (hL.keep (.cons (t := 0) rfl nE (.cons (t := 1) rfl nE (.cons (t := 5) rfl (fun _ _ h_ => h_) (.cons (t := 6) rfl nE (.cons (t := 7) rfl (fun _ _ h_ => h_) .nil)))))) (Dis.symm d22) h
  · replace h := h.2 hb_
    refine wp_exit ?_
    exact J7 out9 og10 a s (hL.keep (.cons (t := 5) rfl (fun _ _ h_ => h_) .nil)) h
theorem ref04_Wrap_ok {kind_ : Int} {lo_ : Int} {hi_ : Int} {a_ : SDesc} {r_ : SDesc} (h : ref04_Wrap kind_ lo_ hi_ a_ r_) : Fn Tryd.prog 30 [(Pd.rep (En.int .i64) kind_), (Pd.rep (En.int .i64) lo_), (Pd.rep (En.int .i64) hi_), (Pd.rep En.SDesc a_)] (Rq (Pd.rep En.SDesc r_)) := by
  unfold ref04_Wrap at h
  refine fn_of Tryd.func30 rfl Tryd.ntmps30 (by rfl) (by simp) fun s0 a hL => ?_
  refine wp_seq_k fun K1 hK1=>rg (sx 7 (t_box (o_t 3 rfl) rfl rfl) hL fun a s e_ hL=>?_)
  refine st_alloc En.SDesc (z := []) 8 hL tyz24 rfl rfl rfl rfl fun a s g2 hg_ hL => ?_
  refine en' (hK1 _ _ ?_)
  refine wp_seq_k fun K3 hK3=>?_
  obtain ⟨r6, h7, h8, h11, h⟩ := h
  obtain ⟨K4, hK4, nK4, hL⟩ := hL.mark 999983
  have lt5 : ∀ k, (some g2) = some k → k < K4 := by rw [hK4]; exact hL.blt 8 rfl
  refine rda follows 12 [(Pd.ptr (En.slice En.SNode) a_), (Pd.rep (En.slice En.SNode) a_), (Pd.erow En.SNode s0.w.heap.size K4 48 r6), (Pd.rep (En.int .i64) kind_), (Pd.ptr (En.slice En.SNode) a_), (Pd.rep (En.slice En.SNode) a_), (Pd.rep (En.int .i64) (a_.length : Int)), (Pd.rep (En.int .i64) ((a_.length : Int) - 1)), (Pd.rep (En.int .i64) lo_), (Pd.rep (En.int .i64) hi_), (Pd.rep En.SNode (kind_, (a_.length : Int) - 1, 0, lo_, hi_, (0#256), ([] : Str))), (Pd.rep (En.slice En.SNode) [(kind_, (a_.length : Int) - 1, 0, lo_, hi_, (0#256), ([] : Str))])] hL (by kernel_rfl) rfl rfl ?_ ?_
  · refine AllT.cons (t_fa (off := 0) (o_t 7 rfl) Tryd.underlying24 rfl (prt_solo (prt_all _ _)) rfl ty22 rfl rfl) ?_
    refine AllT.cons (t_load ty22 (o_t 9 rfl) rfl rfl) (AllT.cons (t_callox (K := K4) (m := 999983) rfl nK4 (ref04_moved_ok h7) (xs := [.tmp 10, .const (.int .i64 0)]) (.cons (o_t 10 rfl) (.cons (o_i (k := .i64) (by decide)) .nil)) rfl rfl) ?_)
    refine AllT.cons (t_move (o_t 0 rfl) rfl rfl) (AllT.cons (t_fa (off := 0) (o_t 7 rfl) Tryd.underlying24 rfl (prt_solo (prt_all _ _)) rfl ty22 rfl rfl) ?_)
    refine AllT.cons (t_load ty22 (o_t 13 rfl) rfl rfl) (AllT.cons (t_len (o_t 14 rfl) Tryd.underlying22 rfl rfl) ?_)
    refine AllT.cons (t_sub (o_t 15 rfl) (o_i (k := .i64) (by decide)) h8 rfl rfl) (AllT.cons (t_move (o_t 1 rfl) rfl rfl) ?_)
    refine AllT.cons (t_move (o_t 2 rfl) rfl rfl) (AllT.cons (t_build (x := (kind_, (a_.length : Int) - 1, 0, lo_, hi_, (0#256), ([] : Str))) (ps := [(0, .tmp 12), (1, .tmp 16), (3, .tmp 17), (4, .tmp 18)]) tyz48 rfl stt48 (.cons (i := 0) (o_t 12 rfl) rfl (sub_fst (sub_all _ _ _)) (.cons (i := 1) (o_t 16 rfl) rfl (sub_snd (sub_fst (sub_all _ _ _)) rfl) (.cons (i := 3) (o_t 17 rfl) rfl (sub_snd (sub_snd (sub_snd (sub_fst (sub_all _ _ _)) rfl) rfl) rfl) (.cons (i := 4) (o_t 18 rfl) rfl (sub_snd (sub_snd (sub_snd (sub_snd (sub_fst (sub_all _ _ _)) rfl) rfl) rfl) rfl) .nil)))) rfl rfl) ?_)
    refine AllT.cons (t_lit (xs := [.tmp 19]) (.cons (o_t 19 rfl) .nil) Tryd.underlying22 ty48 rfl rfl (by decide) rfl rfl) ?_
    exact AllT.nil
  intro a s e_ hL
  obtain ⟨og9, hg_, hL⟩ := hL.openr 11 rfl
  have d10 : Dis og9 (some g2) := Dis.new hg_ lt5
  have lt_og12_0 := hL.blt 8 rfl
  refine st_app (L' := [(8, (Pd.box En.SDesc s0.w.heap.size g2 []))]) 21 hL (o_t 11 rfl) (o_t 20 rfl) Tryd.underlying22 ty48 h11 rfl rfl rfl rfl (.cons (t := 8) rfl (Dis.bx (Dis.symm d10)) .nil) fun a s og12 hg_ hL => ?_
  have d13 : Dis og12 (some g2) := Dis.app hg_ d10 lt_og12_0
  obtain ⟨s15, h14, hL⟩ := hL.freeze (L' := [(8, (Pd.box En.SDesc s0.w.heap.size g2 []))]) 21 rfl (.cons (t := 8) rfl (Dis.bx (Dis.symm d13)) .nil)
  rw [← h14]
  clear h14
  generalize s15 = s at *
  refine sx 22 (t_build (x := r6 ++ [(kind_, (a_.length : Int) - 1, 0, lo_, hi_, (0#256), ([] : Str))]) (ps := [(0, .tmp 21)]) tyz24 rfl stt24 (.cons (i := 0) (o_t 21 rfl) rfl (sub_solo (sub_all _ _ _)) .nil) rfl rfl) hL fun a s e_ hL=>st_stb (L' := []) 8 hL rfl (o_t 22 rfl) ty24 rfl rfl rfl .nil fun s hL => ?_
  refine en' (hK3 _ _ ?_)
  subst h
  exact wp_ret (retb rfl ty24 hL rfl)
theorem ref04_Pair_ok {kind_ : Int} {a_ : SDesc} {b_ : SDesc} {r_ : SDesc} (h : ref04_Pair kind_ a_ b_ r_) : Fn Tryd.prog 29 [(Pd.rep (En.int .i64) kind_), (Pd.rep En.SDesc a_), (Pd.rep En.SDesc b_)] (Rq (Pd.rep En.SDesc r_)) := by
  unfold ref04_Pair at h
  refine fn_of Tryd.func29 rfl Tryd.ntmps29 (by rfl) (by simp) fun s0 a hL => ?_
  refine wp_seq_k fun K1 hK1=>rg (sx 4 (t_box (o_t 1 rfl) rfl rfl) hL fun a s e_ hL=>?_)
  refine sx 5 (t_box (o_t 2 rfl) rfl rfl) hL fun a s e_ hL=>st_alloc En.SDesc (z := []) 6 hL tyz24 rfl rfl rfl rfl fun a s g2 hg_ hL => ?_
  refine en' (hK1 _ _ ?_)
  refine wp_seq_k fun K3 hK3=>?_
  obtain ⟨r6, h7, r8, h9, h12, h⟩ := h
  obtain ⟨K4, hK4, nK4, hL⟩ := hL.mark 999983
  have lt5 : ∀ k, (some g2) = some k → k < K4 := by rw [hK4]; exact hL.blt 6 rfl
  refine rda follows 9 [(Pd.ptr (En.slice En.SNode) a_), (Pd.rep (En.slice En.SNode) a_), (Pd.erow En.SNode s0.w.heap.size K4 48 r6), (Pd.ptr (En.slice En.SNode) b_), (Pd.rep (En.slice En.SNode) b_), (Pd.ptr (En.slice En.SNode) a_), (Pd.rep (En.slice En.SNode) a_), (Pd.rep (En.int .i64) (a_.length : Int)), (Pd.rep (En.slice En.SNode) r8)] hL (by kernel_rfl) rfl rfl ?_ ?_
  · refine AllT.cons (t_fa (off := 0) (o_t 4 rfl) Tryd.underlying24 rfl (prt_solo (prt_all _ _)) rfl ty22 rfl rfl) ?_
    refine AllT.cons (t_load ty22 (o_t 8 rfl) rfl rfl) (AllT.cons (t_callox (K := K4) (m := 999983) rfl nK4 (ref04_moved_ok h7) (xs := [.tmp 9, .const (.int .i64 0)]) (.cons (o_t 9 rfl) (.cons (o_i (k := .i64) (by decide)) .nil)) rfl rfl) ?_)
    refine AllT.cons (t_fa (off := 0) (o_t 5 rfl) Tryd.underlying24 rfl (prt_solo (prt_all _ _)) rfl ty22 rfl rfl) (AllT.cons (t_load ty22 (o_t 11 rfl) rfl rfl) ?_)
    refine AllT.cons (t_fa (off := 0) (o_t 4 rfl) Tryd.underlying24 rfl (prt_solo (prt_all _ _)) rfl ty22 rfl rfl) (AllT.cons (t_load ty22 (o_t 13 rfl) rfl rfl) ?_)
    refine AllT.cons (t_len (o_t 14 rfl) Tryd.underlying22 rfl rfl) (AllT.cons (t_call ((ref04_moved_ok h9).frz) (xs := [.tmp 12, .tmp 15]) (.cons (o_t 12 rfl) (.cons (o_t 15 rfl) .nil)) rfl rfl) ?_)
    exact AllT.nil
  intro a s e_ hL
  obtain ⟨og10, hg_, hL⟩ := hL.openr 10 rfl
  have d11 : Dis og10 (some g2) := Dis.new hg_ lt5
  have lt_og13_0 := hL.blt 6 rfl
  refine st_app (L' := [(0, (Pd.rep (En.int .i64) kind_)), (4, (Pd.ptr En.SDesc a_)), (5, (Pd.ptr En.SDesc b_)), (6, (Pd.box En.SDesc s0.w.heap.size g2 []))]) 17 hL (o_t 10 rfl) (o_t 16 rfl) Tryd.underlying22 ty48 h12 rfl rfl rfl rfl (.cons (t := 0) rfl nE (.cons (t := 4) rfl nE (.cons (t := 5) rfl nE (.cons (t := 6) rfl (Dis.bx (Dis.symm d11)) .nil)))) fun a s og13 hg_ hL => ?_
  have d14 : Dis og13 (some g2) := Dis.app hg_ d11 lt_og13_0
  refine sx 7 (t_assign (o_t 17 rfl) rfl rfl) hL fun a s e_ hL=>en' (hK3 _ _ ?_)
  refine wp_seq_k fun K15 hK15=>?_
  obtain ⟨h16, h17, h18, h19, h⟩ := h
  refine rg (sx 18 (t_move (o_t 7 rfl) rfl rfl) hL fun a s e_ hL=>?_)
  refine sx 19 (t_move (o_t 0 rfl) rfl rfl) hL fun a s e_ hL=>sx 20 (t_fa (off := 0) (o_t 4 rfl) Tryd.underlying24 rfl (prt_solo (prt_all _ _)) rfl ty22 rfl rfl) hL fun a s e_ hL=>sx 21 (t_load ty22 (o_t 20 rfl) rfl rfl) hL fun a s e_ hL=>sx 22 (t_len (o_t 21 rfl) Tryd.underlying22 rfl rfl) hL fun a s e_ hL=>sx 23 (t_sub (o_t 22 rfl) (o_i (k := .i64) (by decide)) h16 rfl rfl) hL fun a s e_ hL=>sx 24 (t_fa (off := 0) (o_t 4 rfl) Tryd.underlying24 rfl (prt_solo (prt_all _ _)) rfl ty22 rfl rfl) hL fun a s e_ hL=>sx 25 (t_load ty22 (o_t 24 rfl) rfl rfl) hL fun a s e_ hL=>sx 26 (t_len (o_t 25 rfl) Tryd.underlying22 rfl rfl) hL fun a s e_ hL=>sx 27 (t_fa (off := 0) (o_t 5 rfl) Tryd.underlying24 rfl (prt_solo (prt_all _ _)) rfl ty22 rfl rfl) hL fun a s e_ hL=>?_
  refine sx 28 (t_load ty22 (o_t 27 rfl) rfl rfl) hL fun a s e_ hL=>sx 29 (t_len (o_t 28 rfl) Tryd.underlying22 rfl rfl) hL fun a s e_ hL=>sx 30 (t_add (o_t 26 rfl) (o_t 29 rfl) h17 rfl rfl) hL fun a s e_ hL=>sx 31 (t_sub (o_t 30 rfl) (o_i (k := .i64) (by decide)) h18 rfl rfl) hL fun a s e_ hL=>sx 32 (t_build (x := (kind_, (a_.length : Int) - 1, ((a_.length : Int) + (b_.length : Int)) - 1, 0, 0, (0#256), ([] : Str))) (ps := [(0, .tmp 19), (1, .tmp 23), (2, .tmp 31)]) tyz48 rfl stt48 (.cons (i := 0) (o_t 19 rfl) rfl (sub_fst (sub_all _ _ _)) (.cons (i := 1) (o_t 23 rfl) rfl (sub_snd (sub_fst (sub_all _ _ _)) rfl) (.cons (i := 2) (o_t 31 rfl) rfl (sub_snd (sub_snd (sub_fst (sub_all _ _ _)) rfl) rfl) .nil))) rfl rfl) hL fun a s e_ hL=>sx 33 (t_lit (xs := [.tmp 32]) (.cons (o_t 32 rfl) .nil) Tryd.underlying22 ty48 rfl rfl (by decide) rfl rfl) hL fun a s e_ hL=>?_
  have lt_og20_0 := hL.blt 6 rfl
  refine st_app (L' := [(6, (Pd.box En.SDesc s0.w.heap.size g2 []))]) 34 hL (o_t 18 rfl) (o_t 33 rfl) Tryd.underlying22 ty48 h19 rfl rfl rfl rfl (.cons (t := 6) rfl (Dis.bx (Dis.symm d14)) .nil) fun a s og20 hg_ hL => ?_
  have d21 : Dis og20 (some g2) := Dis.app hg_ d14 lt_og20_0
  obtain ⟨s23, h22, hL⟩ := hL.freeze (L' := [(6, (Pd.box En.SDesc s0.w.heap.size g2 []))]) 34 rfl (.cons (t := 6) rfl (Dis.bx (Dis.symm d21)) .nil)
  rw [← h22]
  clear h22
  generalize s23 = s at *
  refine sx 35 (t_build (x := (r6 ++ r8) ++ [(kind_, (a_.length : Int) - 1, ((a_.length : Int) + (b_.length : Int)) - 1, 0, 0, (0#256), ([] : Str))]) (ps := [(0, .tmp 34)]) tyz24 rfl stt24 (.cons (i := 0) (o_t 34 rfl) rfl (sub_solo (sub_all _ _ _)) .nil) rfl rfl) hL fun a s e_ hL=>st_stb (L' := []) 6 hL rfl (o_t 35 rfl) ty24 rfl rfl rfl .nil fun s hL => ?_
  refine en' (hK15 _ _ ?_)
  subst h
  exact wp_ret (retb rfl ty24 hL rfl)
theorem ref04_Few_ok {d_ : SDesc} {r_ : Bool} (h : ref04_Few d_ r_) : Fn Tryd.prog 13 [(Pd.rep En.SDesc d_)] (Rq (Pd.rep En.bool r_)) := by
  unfold ref04_Few at h
  refine fn_of Tryd.func13 rfl Tryd.ntmps13 (by rfl) (by simp) fun s0 a hL => ?_
  refine wp_seq_k fun K1 hK1=>rg (sx 1 (t_box (o_t 0 rfl) rfl rfl) hL fun a s e_ hL=>?_)
  refine sx 2 (t_assign o_b rfl rfl) hL fun a s e_ hL=>en' (hK1 _ _ ?_)
  refine wp_seq_k fun K2 hK2=>rg (sx 3 (t_assign (o_i (k := .i64) (by decide)) rfl rfl) hL fun a s e_ hL=>?_)
  refine en' (hK2 _ _ ?_)
  refine wp_seq_k fun K3 hK3=>wp_seq_k fun K4 hK4=>rg (sx 4 (t_assign (o_i (k := .i64) (by decide)) rfl rfl) hL fun a s e_ hL=>?_)
  refine en' (hK4 _ _ ?_)
  refine wp_block ?_
  have J6 : ∀ (n5 : Int) (a : Act) (s : St), Has N0 33 s0 a s [(1, (Pd.ptr En.SDesc d_)), (3, (Pd.rep (En.int .i64) n5))] → ((ref04_Few.j1 d_ r_) n5) → K3 a s.w := by
    intro n5 a s hL h
    unfold ref04_Few.j1 at h
    show K3 a s.w
    refine hK3 _ _ (wp_seq_k fun K7 hK7=>?_)
    obtain ⟨b8, h9, h⟩ := h
    refine rg (sx 25 (t_fa (off := 0) (o_t 1 rfl) Tryd.underlying24 rfl (prt_solo (prt_all _ _)) rfl ty22 rfl rfl) hL fun a s e_ hL=>?_)
    refine sx 26 (t_load ty22 (o_t 25 rfl) rfl rfl) hL fun a s e_ hL=>sx 27 (t_len (o_t 26 rfl) Tryd.underlying22 rfl rfl) hL fun a s e_ hL=>sx 28 (t_leq (o_t 27 rfl) (o_i (k := .i64) (by decide)) rfl rfl) hL fun a s e_ hL=>sx 29 (t_move (o_t 28 rfl) rfl rfl) hL fun a s e_ hL=>sx 30 (t_g1 rfl rfl rfl (fun hc_ => t_move (o_t 3 rfl) rfl rfl)) hL fun a s e_ hL=>sx 31 (t_g1 rfl rfl rfl (fun hc_ => t_leq (o_w hc_ 30 rfl) (o_i (k := .i64) (by decide)) rfl rfl)) hL fun a s e_ hL=>sx 32 (h9 ▸ (t_and (o_t 29 rfl) (fun hc2_ => (o_w hc2_ 31 rfl)) rfl rfl)) hL fun a s e_ hL=>sx 2 (t_assign (o_t 32 rfl) rfl rfl) hL fun a s e_ hL=>en' (hK7 _ _ ?_)
    subst h
    exact wp_ret (retq rfl hL rfl)
  obtain ⟨k12, h⟩ := h
  refine lpg (fun k13 a s => ∃ (n10 : Int) (i11 : Int), Has N0 33 s0 a s [(1, (Pd.ptr En.SDesc d_)), (3, (Pd.rep (En.int .i64) n10)), (4, (Pd.rep (En.int .i64) i11))] ∧ ref04_Few.l1 d_ (ref04_Few.j1 d_ r_) k13 n10 i11) k12 ⟨0, 0, hL.keep (.cons (t := 1) rfl nE (.cons (t := 3) rfl nE (.cons (t := 4) rfl nE .nil))), h⟩ ?_
  rintro k13 a s ⟨n10, i11, hL, h⟩ KL14 hKL14
  cases k13 with
  | zero => exact h.elim
  | succ k13 =>
  unfold ref04_Few.l1 at h
  refine wp_seq_k fun K15 hK15=>wp_seq_k fun K16 hK16=>?_
  obtain ⟨b17, h18, h⟩ := h
  refine rg (sx 5 (t_move (o_t 4 rfl) rfl rfl) hL fun a s e_ hL=>?_)
  refine sx 6 (t_fa (off := 0) (o_t 1 rfl) Tryd.underlying24 rfl (prt_solo (prt_all _ _)) rfl ty22 rfl rfl) hL fun a s e_ hL=>sx 7 (t_load ty22 (o_t 6 rfl) rfl rfl) hL fun a s e_ hL=>sx 8 (t_len (o_t 7 rfl) Tryd.underlying22 rfl rfl) hL fun a s e_ hL=>sx 9 (t_lss (o_t 5 rfl) (o_t 8 rfl) rfl rfl) hL fun a s e_ hL=>sx 10 (t_move (o_t 9 rfl) rfl rfl) hL fun a s e_ hL=>sx 11 (t_g1 rfl rfl rfl (fun hc_ => t_move (o_t 4 rfl) rfl rfl)) hL fun a s e_ hL=>sx 12 (t_g1 rfl rfl rfl (fun hc_ => t_lss (o_w hc_ 11 rfl) (o_i (k := .i64) (by decide)) rfl rfl)) hL fun a s e_ hL=>sx 13 (h18 ▸ (t_and (o_t 10 rfl) (fun hc2_ => (o_w hc2_ 12 rfl)) rfl rfl)) hL fun a s e_ hL=>en' (hK16 _ _ ?_)
  refine cnd hL rfl (fun hb_ => ?_) (fun hb_ => ?_)
  · replace h := h.1 hb_
    refine wp_skip ?_
    show K15 a s.w
    refine hK15 _ _ (wp_seq_k fun K19 hK19=>?_)
    refine wp_block ?_
    obtain ⟨e20, h21, h22, h⟩ := h
    refine rg (sx 16 (t_move (o_t 3 rfl) rfl rfl) hL fun a s e_ hL=>?_)
    refine sx 17 (t_fa (off := 0) (o_t 1 rfl) Tryd.underlying24 rfl (prt_solo (prt_all _ _)) rfl ty22 rfl rfl) hL fun a s e_ hL=>sx 18 (t_load ty22 (o_t 17 rfl) rfl rfl) hL fun a s e_ hL=>sx 19 (t_move (o_t 4 rfl) rfl rfl) hL fun a s e_ hL=>sx 20 (t_idx (o_t 18 rfl) (o_t 19 rfl) h21 Tryd.underlying22 ty48 rfl rfl) hL fun a s e_ hL=>sx 21 (t_fa (off := 9) (o_t 20 rfl) Tryd.underlying48 rfl (prt_snd (prt_snd (prt_snd (prt_snd (prt_snd (prt_snd (prt_all _ _) rfl) rfl) rfl) rfl) rfl) rfl) rfl ty9 rfl rfl) hL fun a s e_ hL=>sx 22 (t_load ty9 (o_t 21 rfl) rfl rfl) hL fun a s e_ hL=>sx 23 (t_slen (o_t 22 rfl) Tryd.underlying9 rfl rfl) hL fun a s e_ hL=>sx 24 (t_add (o_t 16 rfl) (o_t 23 rfl) h22 rfl rfl) hL fun a s e_ hL=>sx 3 (t_assign (o_t 24 rfl) rfl rfl) hL fun a s e_ hL=>?_
    refine en' (hK19 _ _ ?_)
    obtain ⟨h23, h⟩ := h
    refine rg (sx 14 (t_move (o_t 4 rfl) rfl rfl) hL fun a s e_ hL=>?_)
    refine sx 15 (t_add (o_t 14 rfl) (o_i (k := .i64) (by decide)) h23 rfl rfl) hL fun a s e_ hL=>sx 4 (t_assign (o_t 15 rfl) rfl rfl) hL fun a s e_ hL=>en' ?_
    exact hKL14 k13 a s (Nat.lt_succ_self _) ⟨(n10 + (e20.2.2.2.2.2.2.length : Int)), (i11 + 1), hL.keep (.cons (t := 1) rfl nE (.cons (t := 3) rfl nE (.cons (t := 4) rfl nE .nil))), h⟩
  · replace h := h.2 hb_
    refine wp_exit ?_
    exact J6 n10 a s (hL.keep (.cons (t := 1) rfl nE (.cons (t := 3) rfl nE .nil))) h
theorem ref04_text_ok {s_ : Str} {r_ : Bool} (h : ref04_text s_ r_) : Fn Tryd.prog 82 [(Pd.rep En.str s_)] (Rq (Pd.rep En.bool r_)) := by
  unfold ref04_text at h
  refine fn_of Tryd.func82 rfl Tryd.ntmps82 (by rfl) (by simp) fun s0 a hL => ?_
  refine wp_seq_k fun K1 hK1=>rg (sx 2 (t_assign o_b rfl rfl) hL fun a s e_ hL=>?_)
  refine en' (hK1 _ _ ?_)
  refine wp_seq_k fun K2 hK2=>wp_seq_k fun K3 hK3=>rg (sx 3 (t_assign (o_i (k := .i64) (by decide)) rfl rfl) hL fun a s e_ hL=>?_)
  refine en' (hK3 _ _ ?_)
  refine wp_block ?_
  have J4 : ∀ (a : Act) (s : St), Has N0 21 s0 a s [(0, (Pd.rep En.str s_))] → ((ref04_text.j1 s_ r_)) → K2 a s.w := by
    intro a s hL h
    unfold ref04_text.j1 at h
    show K2 a s.w
    refine hK2 _ _ (wp_seq_k fun K5 hK5=>?_)
    obtain ⟨r6, h7, h⟩ := h
    refine rg (sx 14 (t_move (o_t 0 rfl) rfl rfl) hL fun a s e_ hL=>?_)
    refine sx 15 (t_slen (o_t 14 rfl) Tryd.underlying9 rfl rfl) hL fun a s e_ hL=>sx 16 (t_gtr (o_t 15 rfl) (o_i (k := .i64) (by decide)) rfl rfl) hL fun a s e_ hL=>sx 17 (t_move (o_t 16 rfl) rfl rfl) hL fun a s e_ hL=>sx 18 (t_g1 rfl rfl rfl (fun hc_ => t_move (o_t 0 rfl) rfl rfl)) hL fun a s e_ hL=>sx 19 (t_g1 rfl rfl rfl (fun hc_ => t_call (ref03_Utf8_ok (h7 hc_)) (xs := [.tmp 18]) (.cons (o_w hc_ 18 rfl) .nil) rfl rfl)) hL fun a s e_ hL=>sx 20 (t_and (o_t 17 rfl) (fun hc2_ => (o_w hc2_ 19 rfl)) rfl rfl) hL fun a s e_ hL=>sx 2 (t_assign (o_t 20 rfl) rfl rfl) hL fun a s e_ hL=>en' (hK5 _ _ ?_)
    subst h
    exact wp_ret (retq rfl hL rfl)
  obtain ⟨k9, h⟩ := h
  refine lpg (fun k10 a s => ∃ (i8 : Int), Has N0 21 s0 a s [(0, (Pd.rep En.str s_)), (3, (Pd.rep (En.int .i64) i8))] ∧ ref04_text.l1 s_ r_ (ref04_text.j1 s_ r_) k10 i8) k9 ⟨0, hL.keep (.cons (t := 0) rfl nE (.cons (t := 3) rfl nE .nil)), h⟩ ?_
  rintro k10 a s ⟨i8, hL, h⟩ KL11 hKL11
  cases k10 with
  | zero => exact h.elim
  | succ k10 =>
  unfold ref04_text.l1 at h
  refine wp_seq_k fun K12 hK12=>wp_seq_k fun K13 hK13=>rg (sx 4 (t_move (o_t 3 rfl) rfl rfl) hL fun a s e_ hL=>?_)
  refine sx 5 (t_move (o_t 0 rfl) rfl rfl) hL fun a s e_ hL=>sx 6 (t_slen (o_t 5 rfl) Tryd.underlying9 rfl rfl) hL fun a s e_ hL=>sx 7 (t_lss (o_t 4 rfl) (o_t 6 rfl) rfl rfl) hL fun a s e_ hL=>en' (hK13 _ _ ?_)
  refine cnd hL rfl (fun hb_ => ?_) (fun hb_ => ?_)
  · replace h := h.1 hb_
    refine wp_skip ?_
    show K12 a s.w
    refine hK12 _ _ (wp_seq_k fun K14 hK14=>?_)
    refine wp_block (wp_seq_k fun K15 hK15=>?_)
    obtain ⟨c16, h17, h⟩ := h
    refine rg (sx 10 (t_move (o_t 0 rfl) rfl rfl) hL fun a s e_ hL=>?_)
    refine sx 11 (t_move (o_t 3 rfl) rfl rfl) hL fun a s e_ hL=>sx 12 (t_sidx (o_t 10 rfl) (o_t 11 rfl) h17 Tryd.underlying9 rfl rfl) hL fun a s e_ hL=>sx 13 (t_eqi (o_t 12 rfl) (o_i (k := .u8) (by decide)) rfl rfl) hL fun a s e_ hL=>en' (hK15 _ _ ?_)
    refine cnd hL rfl (fun hb_ => ?_) (fun hb_ => ?_)
    · replace h := h.1 hb_
      refine wp_seq_k fun K18 hK18=>rg (sx 2 (t_assign o_b rfl rfl) hL fun a s e_ hL=>?_)
      refine en' (hK18 _ _ ?_)
      subst h
      exact wp_ret (retq rfl hL rfl)
    · replace h := h.2 hb_
      refine wp_skip ?_
      show K14 a s.w
      refine hK14 _ _ ?_
      obtain ⟨h19, h⟩ := h
      refine rg (sx 8 (t_move (o_t 3 rfl) rfl rfl) hL fun a s e_ hL=>?_)
      refine sx 9 (t_add (o_t 8 rfl) (o_i (k := .i64) (by decide)) h19 rfl rfl) hL fun a s e_ hL=>sx 3 (t_assign (o_t 9 rfl) rfl rfl) hL fun a s e_ hL=>en' ?_
      exact hKL11 k10 a s (Nat.lt_succ_self _) ⟨(i8 + 1), hL.keep (.cons (t := 0) rfl nE (.cons (t := 3) rfl nE .nil)), h⟩
  · replace h := h.2 hb_
    refine wp_exit ?_
    exact J4 a s (hL.keep (.cons (t := 0) rfl nE .nil)) h
theorem ref04_First.n_ok (k_ : Nat) : ∀ {l_ : (List SNode)} {i_ : Int} {r_ : Int} (h : ref04_First.n k_ l_ i_ r_), Fn Tryd.prog 63 [(Pd.rep (En.slice En.SNode) l_), (Pd.rep (En.int .i64) i_)] (Rq (Pd.rep (En.int .i64) r_)) := by
  induction k_ with
  | zero => intro l_ i_ r_ h; exact h.elim
  | succ k_ ih_ =>
  intro l_ i_ r_ h
  unfold ref04_First.n at h
  refine fn_of Tryd.func63 rfl Tryd.ntmps63 (by rfl) (by simp) fun s0 a hL => ?_
  refine wp_seq_k fun K1 hK1=>rg (sx 4 (t_assign (o_i (k := .i64) (by decide)) rfl rfl) hL fun a s e_ hL=>?_)
  refine en' (hK1 _ _ ?_)
  refine wp_seq_k fun K2 hK2=>wp_seq_k fun K3 hK3=>rg (sx 9 (t_move (o_t 1 rfl) rfl rfl) hL fun a s e_ hL=>?_)
  refine sx 10 (t_lss (o_t 9 rfl) (o_i (k := .i64) (by decide)) rfl rfl) hL fun a s e_ hL=>en' (hK3 _ _ ?_)
  refine cnd hL rfl (fun hb_ => ?_) (fun hb_ => ?_)
  · replace h := h.1 hb_
    refine wp_seq_k fun K4 hK4=>rg (sx 4 (t_assign (o_i (k := .i64) (by decide)) rfl rfl) hL fun a s e_ hL=>?_)
    refine en' (hK4 _ _ ?_)
    subst h
    exact wp_ret (retq rfl hL rfl)
  · replace h := h.2 hb_
    refine wp_skip ?_
    show K2 a s.w
    refine hK2 _ _ (wp_seq_k fun K5 hK5=>?_)
    obtain ⟨e6, h7, h⟩ := h
    refine rg (sx 11 (t_move (o_t 0 rfl) rfl rfl) hL fun a s e_ hL=>?_)
    refine sx 12 (t_move (o_t 1 rfl) rfl rfl) hL fun a s e_ hL=>sx 13 (t_idx (o_t 11 rfl) (o_t 12 rfl) h7 Tryd.underlying22 ty48 rfl rfl) hL fun a s e_ hL=>sx 14 (t_load ty48 (o_t 13 rfl) rfl rfl) hL fun a s e_ hL=>st_alloc En.SNode (z := (0, 0, 0, 0, 0, (0#256), ([] : Str))) 5 hL tyz48 rfl rfl rfl rfl fun a s g8 hg_ hL => ?_
    refine st_stb (L' := [(0, (Pd.rep (En.slice En.SNode) l_)), (1, (Pd.rep (En.int .i64) i_))]) 5 hL rfl (o_t 14 rfl) ty48 rfl rfl rfl (.cons (t := 0) rfl nE (.cons (t := 1) rfl nE .nil)) fun s hL => ?_
    refine en' (hK5 _ _ ?_)
    refine wp_seq_k fun K9 hK9=>rg (sx 15 (t_fab (off := 0) (o_t 5 rfl) Tryd.underlying48 rfl (prt_fst (prt_all _ _)) rfl ty3 rfl rfl) hL fun a s e_ hL=>?_)
    refine sx 16 (t_loado ty3 (o_t 15 rfl) rfl rfl) hL fun a s e_ hL=>sx 17 (t_build (x := (e6.1, 0, 0, 0, 0, (0#256), ([] : Str))) (ps := [(0, .tmp 16)]) tyz48 rfl stt48 (.cons (i := 0) (o_t 16 rfl) rfl (sub_fst (sub_all _ _ _)) .nil) rfl rfl) hL fun a s e_ hL=>?_
    have lt_d11 := hL.blt 5 rfl
    refine st_alloc En.SNode (z := (0, 0, 0, 0, 0, (0#256), ([] : Str))) 6 hL tyz48 rfl rfl rfl rfl fun a s g10 hg_ hL => ?_
    have d11 : Dis (some g10) (some g8) := Dis.newg hg_ lt_d11
    refine st_stb (L' := [(0, (Pd.rep (En.slice En.SNode) l_)), (1, (Pd.rep (En.int .i64) i_)), (5, (Pd.box En.SNode s0.w.heap.size g8 e6))]) 6 hL rfl (o_t 17 rfl) ty48 rfl rfl rfl (.cons (t := 0) rfl nE (.cons (t := 1) rfl nE (.cons (t := 5) rfl (Dis.bx (Dis.symm d11)) .nil))) fun s hL => ?_
    refine en' (hK9 _ _ ?_)
    refine wp_seq_k fun K12 hK12=>rg (sx 18 (t_move (o_t 1 rfl) rfl rfl) hL fun a s e_ hL=>?_)
    refine sx 7 (t_assign (o_t 18 rfl) rfl rfl) hL fun a s e_ hL=>en' (hK12 _ _ ?_)
    refine wp_seq_k fun K13 hK13=>wp_seq_k fun K14 hK14=>rg (sx 19 (t_fab (off := 0) (o_t 5 rfl) Tryd.underlying48 rfl (prt_fst (prt_all _ _)) rfl ty3 rfl rfl) hL fun a s e_ hL=>?_)
    refine sx 20 (t_loado ty3 (o_t 19 rfl) rfl rfl) hL fun a s e_ hL=>en' (hK14 _ _ ?_)
    refine wp_block (wp_seq_k fun K15 hK15=>?_)
    refine rg (sx 22 (t_eqi (o_t 20 rfl) (o_i (k := .i64) (by decide)) rfl rfl) hL fun a s e_ hL=>?_)
    refine sx 21 (t_assign (o_t 22 rfl) rfl rfl) hL fun a s e_ hL=>en' (hK15 _ _ ?_)
    refine cnd hL rfl (fun hb_ => ?_) (fun hb_ => ?_)
    · replace h := h.1 hb_
      refine wp_skip ?_
      show K13 a s.w
      refine hK13 _ _ (wp_seq_k fun K16 hK16=>?_)
      refine wp_seq_k fun K17 hK17=>rg (sx 92 (t_loadb ty48 (o_t 5 rfl) rfl rfl) hL fun a s e_ hL=>?_)
      refine sx 93 (t_loadb ty48 (o_t 6 rfl) rfl rfl) hL fun a s e_ hL=>sx 94 (t_nev eq48 (o_t 92 rfl) (o_t 93 rfl) rfl rfl) hL fun a s e_ hL=>en' (hK17 _ _ ?_)
      refine cnd hL rfl (fun hb_ => ?_) (fun hb_ => ?_)
      · replace h := h.1 hb_
        refine wp_seq_k fun K18 hK18=>rg (sx 4 (t_assign (o_i (k := .i64) (by decide)) rfl rfl) hL fun a s e_ hL=>?_)
        refine en' (hK18 _ _ ?_)
        subst h
        exact wp_ret (retq rfl hL rfl)
      · replace h := h.2 hb_
        refine wp_skip ?_
        show K16 a s.w
        refine hK16 _ _ (wp_seq_k fun K19 hK19=>?_)
        refine rg (sx 95 (t_move (o_t 7 rfl) rfl rfl) hL fun a s e_ hL=>?_)
        refine sx 4 (t_assign (o_t 95 rfl) rfl rfl) hL fun a s e_ hL=>en' (hK19 _ _ ?_)
        subst h
        exact wp_ret (retq rfl hL rfl)
    · replace h := h.2 hb_
      refine wp_seq_k fun K20 hK20=>rg (sx 24 (t_eqi (o_t 20 rfl) (o_i (k := .i64) (by decide)) rfl rfl) hL fun a s e_ hL=>?_)
      refine sx 23 (t_assign (o_t 24 rfl) rfl rfl) hL fun a s e_ hL=>en' (hK20 _ _ ?_)
      refine cnd hL rfl (fun hb_ => ?_) (fun hb_ => ?_)
      · replace h := h.1 hb_
        refine rg (sx 25 (t_fab (off := 5) (o_t 5 rfl) Tryd.underlying48 rfl (prt_snd (prt_snd (prt_snd (prt_snd (prt_snd (prt_fst (prt_all _ _)) rfl) rfl) rfl) rfl) rfl) rfl ty46 rfl rfl) hL fun a s e_ hL=>?_)
        refine sx 26 (t_loado ty46 (o_t 25 rfl) rfl rfl) hL fun a s e_ hL=>sx 27 (t_fab (off := 5) (o_t 6 rfl) Tryd.underlying48 rfl (prt_snd (prt_snd (prt_snd (prt_snd (prt_snd (prt_fst (prt_all _ _)) rfl) rfl) rfl) rfl) rfl) rfl ty46 rfl rfl) hL fun a s e_ hL=>st_stob (L' := [(5, (Pd.box En.SNode s0.w.heap.size g8 e6)), (7, (Pd.rep (En.int .i64) i_))]) 6 hL rfl (o_t 27 rfl) (o_t 26 rfl) (sub_snd (sub_snd (sub_snd (sub_snd (sub_snd (sub_fst (sub_all _ _ _)) rfl) rfl) rfl) rfl) rfl) ty46 rfl rfl rfl (.cons (t := 5) rfl (Dis.bx (Dis.symm d11)) (.cons (t := 7) rfl nE .nil)) fun s hL => ?_
        refine en' (hK13 _ _ ?_)
        refine wp_seq_k fun K21 hK21=>wp_seq_k fun K22 hK22=>?_
        obtain ⟨b23, h24, h⟩ := h
        refine rg (sx 92 (t_loadb ty48 (o_t 5 rfl) rfl rfl) hL fun a s e_ hL=>?_)
        refine sx 93 (t_loadb ty48 (o_t 6 rfl) rfl rfl) hL fun a s e_ hL=>sx 94 (h24 ▸ (t_nev eq48 (o_t 92 rfl) (o_t 93 rfl) rfl rfl)) hL fun a s e_ hL=>en' (hK22 _ _ ?_)
        refine cnd hL rfl (fun hb_ => ?_) (fun hb_ => ?_)
        · replace h := h.1 hb_
          refine wp_seq_k fun K25 hK25=>rg (sx 4 (t_assign (o_i (k := .i64) (by decide)) rfl rfl) hL fun a s e_ hL=>?_)
          refine en' (hK25 _ _ ?_)
          subst h
          exact wp_ret (retq rfl hL rfl)
        · replace h := h.2 hb_
          refine wp_skip ?_
          show K21 a s.w
          refine hK21 _ _ (wp_seq_k fun K26 hK26=>?_)
          refine rg (sx 95 (t_move (o_t 7 rfl) rfl rfl) hL fun a s e_ hL=>?_)
          refine sx 4 (t_assign (o_t 95 rfl) rfl rfl) hL fun a s e_ hL=>en' (hK26 _ _ ?_)
          subst h
          exact wp_ret (retq rfl hL rfl)
      · replace h := h.2 hb_
        refine wp_seq_k fun K27 hK27=>rg (sx 29 (t_eqi (o_t 20 rfl) (o_i (k := .i64) (by decide)) rfl rfl) hL fun a s e_ hL=>?_)
        refine sx 28 (t_assign (o_t 29 rfl) rfl rfl) hL fun a s e_ hL=>en' (hK27 _ _ ?_)
        refine cnd hL rfl (fun hb_ => ?_) (fun hb_ => ?_)
        · replace h := h.1 hb_
          refine wp_seq_k fun K28 hK28=>rg (sx 30 (t_fab (off := 9) (o_t 5 rfl) Tryd.underlying48 rfl (prt_snd (prt_snd (prt_snd (prt_snd (prt_snd (prt_snd (prt_all _ _) rfl) rfl) rfl) rfl) rfl) rfl) rfl ty9 rfl rfl) hL fun a s e_ hL=>?_)
          refine sx 31 (t_loado ty9 (o_t 30 rfl) rfl rfl) hL fun a s e_ hL=>sx 32 (t_fab (off := 9) (o_t 6 rfl) Tryd.underlying48 rfl (prt_snd (prt_snd (prt_snd (prt_snd (prt_snd (prt_snd (prt_all _ _) rfl) rfl) rfl) rfl) rfl) rfl) rfl ty9 rfl rfl) hL fun a s e_ hL=>st_stob (L' := [(5, (Pd.box En.SNode s0.w.heap.size g8 e6)), (7, (Pd.rep (En.int .i64) i_))]) 6 hL rfl (o_t 32 rfl) (o_t 31 rfl) (sub_snd (sub_snd (sub_snd (sub_snd (sub_snd (sub_snd (sub_all _ _ _) rfl) rfl) rfl) rfl) rfl) rfl) ty9 rfl rfl rfl (.cons (t := 5) rfl (Dis.bx (Dis.symm d11)) (.cons (t := 7) rfl nE .nil)) fun s hL => ?_
          refine en' (hK28 _ _ ?_)
          refine wp_seq_k fun K29 hK29=>?_
          obtain ⟨r30, h31, h⟩ := h
          refine rg (sx 33 (t_fab (off := 9) (o_t 5 rfl) Tryd.underlying48 rfl (prt_snd (prt_snd (prt_snd (prt_snd (prt_snd (prt_snd (prt_all _ _) rfl) rfl) rfl) rfl) rfl) rfl) rfl ty9 rfl rfl) hL fun a s e_ hL=>?_)
          refine sx 34 (t_loado ty9 (o_t 33 rfl) rfl rfl) hL fun a s e_ hL=>sx 35 (t_call (ref04_text_ok h31) (xs := [.tmp 34]) (.cons (o_t 34 rfl) .nil) rfl rfl) hL fun a s e_ hL=>sx 36 (t_not (o_t 35 rfl) rfl rfl) hL fun a s e_ hL=>en' (hK29 _ _ ?_)
          refine cnd hL rfl (fun hb_ => ?_) (fun hb_ => ?_)
          · replace h := h.1 hb_
            refine wp_seq_k fun K32 hK32=>rg (sx 4 (t_assign (o_i (k := .i64) (by decide)) rfl rfl) hL fun a s e_ hL=>?_)
            refine en' (hK32 _ _ ?_)
            subst h
            exact wp_ret (retq rfl hL rfl)
          · replace h := h.2 hb_
            refine wp_skip ?_
            show K13 a s.w
            refine hK13 _ _ (wp_seq_k fun K33 hK33=>?_)
            refine wp_seq_k fun K34 hK34=>?_
            obtain ⟨b35, h36, h⟩ := h
            refine rg (sx 92 (t_loadb ty48 (o_t 5 rfl) rfl rfl) hL fun a s e_ hL=>?_)
            refine sx 93 (t_loadb ty48 (o_t 6 rfl) rfl rfl) hL fun a s e_ hL=>sx 94 (h36 ▸ (t_nev eq48 (o_t 92 rfl) (o_t 93 rfl) rfl rfl)) hL fun a s e_ hL=>en' (hK34 _ _ ?_)
            refine cnd hL rfl (fun hb_ => ?_) (fun hb_ => ?_)
            · replace h := h.1 hb_
              refine wp_seq_k fun K37 hK37=>rg (sx 4 (t_assign (o_i (k := .i64) (by decide)) rfl rfl) hL fun a s e_ hL=>?_)
              refine en' (hK37 _ _ ?_)
              subst h
              exact wp_ret (retq rfl hL rfl)
            · replace h := h.2 hb_
              refine wp_skip ?_
              show K33 a s.w
              refine hK33 _ _ (wp_seq_k fun K38 hK38=>?_)
              refine rg (sx 95 (t_move (o_t 7 rfl) rfl rfl) hL fun a s e_ hL=>?_)
              refine sx 4 (t_assign (o_t 95 rfl) rfl rfl) hL fun a s e_ hL=>en' (hK38 _ _ ?_)
              subst h
              exact wp_ret (retq rfl hL rfl)
        · replace h := h.2 hb_
          refine wp_seq_k fun K39 hK39=>wp_seq_k fun K40 hK40=>rg (sx 38 (t_eqi (o_t 20 rfl) (o_i (k := .i64) (by decide)) rfl rfl) hL fun a s e_ hL=>?_)
          refine sx 37 (t_assign (o_t 38 rfl) rfl rfl) hL fun a s e_ hL=>en' (hK40 _ _ ?_)
          have J42 : ∀ (v41 : Bool) (a : Act) (s : St), Has N0 96 s0 a s [(0, (Pd.rep (En.slice En.SNode) l_)), (1, (Pd.rep (En.int .i64) i_)), (5, (Pd.box En.SNode s0.w.heap.size g8 e6)), (6, (Pd.box En.SNode s0.w.heap.size g10 (e6.1, 0, 0, 0, 0, (0#256), ([] : Str)))), (20, (Pd.rep (En.int .i64) e6.1)), (37, (Pd.rep En.bool v41))] → Dis (some g8) (some g10) → ((ref04_First.j3 (ref04_First.n k_) l_ i_ r_ e6) v41) → K39 a s.w := by
            intro v41 a s hL d43 h
            unfold ref04_First.j3 at h
            show K39 a s.w
            refine hK39 _ _ (cnd hL rfl (fun hb_ => ?_) (fun hb_ => ?_))
            · replace h := h.1 hb_
              refine wp_seq_k fun K44 hK44=>?_
              obtain ⟨h45, h⟩ := h
              refine rg (sx 42 (t_move (o_t 1 rfl) rfl rfl) hL fun a s e_ hL=>?_)
              refine sx 43 (t_sub (o_t 42 rfl) (o_i (k := .i64) (by decide)) h45 rfl rfl) hL fun a s e_ hL=>sx 44 (t_fab (off := 1) (o_t 6 rfl) Tryd.underlying48 rfl (prt_snd (prt_fst (prt_all _ _)) rfl) rfl ty3 rfl rfl) hL fun a s e_ hL=>st_stob (L' := [(0, (Pd.rep (En.slice En.SNode) l_)), (1, (Pd.rep (En.int .i64) i_)), (5, (Pd.box En.SNode s0.w.heap.size g8 e6))]) 6 hL rfl (o_t 44 rfl) (o_t 43 rfl) (sub_snd (sub_fst (sub_all _ _ _)) rfl) ty3 rfl rfl rfl (.cons (t := 0) rfl nE (.cons (t := 1) rfl nE (.cons (t := 5) rfl (Dis.bx d43) .nil))) fun s hL => ?_
              refine en' (hK44 _ _ ?_)
              refine wp_seq_k fun K46 hK46=>wp_seq_k fun K47 hK47=>rg (sx 45 (t_fab (off := 0) (o_t 5 rfl) Tryd.underlying48 rfl (prt_fst (prt_all _ _)) rfl ty3 rfl rfl) hL fun a s e_ hL=>?_)
              refine sx 46 (t_loado ty3 (o_t 45 rfl) rfl rfl) hL fun a s e_ hL=>sx 47 (t_eqi (o_t 46 rfl) (o_i (k := .i64) (by decide)) rfl rfl) hL fun a s e_ hL=>en' (hK47 _ _ ?_)
              have J49 : ∀ (want48 : SNode) (a : Act) (s : St), Has N0 96 s0 a s [(0, (Pd.rep (En.slice En.SNode) l_)), (1, (Pd.rep (En.int .i64) i_)), (5, (Pd.box En.SNode s0.w.heap.size g8 e6)), (6, (Pd.box En.SNode s0.w.heap.size g10 want48))] → Dis (some g8) (some g10) → ((ref04_First.j1 (ref04_First.n k_) l_ i_ r_ e6) want48) → K46 a s.w := by
                intro want48 a s hL d50 h
                unfold ref04_First.j1 at h
                show K46 a s.w
                refine hK46 _ _ ?_
                obtain ⟨h51, r52, h53, h⟩ := h
                refine rg (sx 69 (t_move (o_t 0 rfl) rfl rfl) hL fun a s e_ hL=>?_)
                refine sx 70 (t_move (o_t 1 rfl) rfl rfl) hL fun a s e_ hL=>sx 71 (t_sub (o_t 70 rfl) (o_i (k := .i64) (by decide)) h51 rfl rfl) hL fun a s e_ hL=>sx 72 (t_call (ih_ h53) (xs := [.tmp 69, .tmp 71]) (.cons (o_t 69 rfl) (.cons (o_t 71 rfl) .nil)) rfl rfl) hL fun a s e_ hL=>sx 7 (t_assign (o_t 72 rfl) rfl rfl) hL fun a s e_ hL=>en' (hK13 _ _ ?_)
                refine wp_seq_k fun K54 hK54=>wp_seq_k fun K55 hK55=>rg (sx 92 (t_loadb ty48 (o_t 5 rfl) rfl rfl) hL fun a s e_ hL=>?_)
                refine sx 93 (t_loadb ty48 (o_t 6 rfl) rfl rfl) hL fun a s e_ hL=>sx 94 (t_nev eq48 (o_t 92 rfl) (o_t 93 rfl) rfl rfl) hL fun a s e_ hL=>en' (hK55 _ _ ?_)
                refine cnd hL rfl (fun hb_ => ?_) (fun hb_ => ?_)
                · replace h := h.1 hb_
                  refine wp_seq_k fun K56 hK56=>rg (sx 4 (t_assign (o_i (k := .i64) (by decide)) rfl rfl) hL fun a s e_ hL=>?_)
                  refine en' (hK56 _ _ ?_)
                  subst h
                  exact wp_ret (retq rfl hL rfl)
                · replace h := h.2 hb_
                  refine wp_skip ?_
                  show K54 a s.w
                  refine hK54 _ _ (wp_seq_k fun K57 hK57=>?_)
                  refine rg (sx 95 (t_move (o_t 7 rfl) rfl rfl) hL fun a s e_ hL=>?_)
                  refine sx 4 (t_assign (o_t 95 rfl) rfl rfl) hL fun a s e_ hL=>en' (hK57 _ _ ?_)
                  subst h
                  exact wp_ret (retq rfl hL rfl)
              refine cnd hL rfl (fun hb_ => ?_) (fun hb_ => ?_)
              · replace h := h.1 hb_
                refine wp_seq_k fun K58 hK58=>rg (sx 48 (t_fab (off := 3) (o_t 5 rfl) Tryd.underlying48 rfl (prt_snd (prt_snd (prt_snd (prt_fst (prt_all _ _)) rfl) rfl) rfl) rfl ty3 rfl rfl) hL fun a s e_ hL=>?_)
                refine sx 49 (t_loado ty3 (o_t 48 rfl) rfl rfl) hL fun a s e_ hL=>sx 50 (t_fab (off := 3) (o_t 6 rfl) Tryd.underlying48 rfl (prt_snd (prt_snd (prt_snd (prt_fst (prt_all _ _)) rfl) rfl) rfl) rfl ty3 rfl rfl) hL fun a s e_ hL=>st_stob (L' := [(0, (Pd.rep (En.slice En.SNode) l_)), (1, (Pd.rep (En.int .i64) i_)), (5, (Pd.box En.SNode s0.w.heap.size g8 e6))]) 6 hL rfl (o_t 50 rfl) (o_t 49 rfl) (sub_snd (sub_snd (sub_snd (sub_fst (sub_all _ _ _)) rfl) rfl) rfl) ty3 rfl rfl rfl (.cons (t := 0) rfl nE (.cons (t := 1) rfl nE (.cons (t := 5) rfl (Dis.bx d43) .nil))) fun s hL => ?_
                refine en' (hK58 _ _ ?_)
                refine wp_seq_k fun K59 hK59=>rg (sx 51 (t_fab (off := 4) (o_t 5 rfl) Tryd.underlying48 rfl (prt_snd (prt_snd (prt_snd (prt_snd (prt_fst (prt_all _ _)) rfl) rfl) rfl) rfl) rfl ty3 rfl rfl) hL fun a s e_ hL=>?_)
                refine sx 52 (t_loado ty3 (o_t 51 rfl) rfl rfl) hL fun a s e_ hL=>sx 53 (t_fab (off := 4) (o_t 6 rfl) Tryd.underlying48 rfl (prt_snd (prt_snd (prt_snd (prt_snd (prt_fst (prt_all _ _)) rfl) rfl) rfl) rfl) rfl ty3 rfl rfl) hL fun a s e_ hL=>st_stob (L' := [(0, (Pd.rep (En.slice En.SNode) l_)), (1, (Pd.rep (En.int .i64) i_)), (5, (Pd.box En.SNode s0.w.heap.size g8 e6))]) 6 hL rfl (o_t 53 rfl) (o_t 52 rfl) (sub_snd (sub_snd (sub_snd (sub_snd (sub_fst (sub_all _ _ _)) rfl) rfl) rfl) rfl) ty3 rfl rfl rfl (.cons (t := 0) rfl nE (.cons (t := 1) rfl nE (.cons (t := 5) rfl (Dis.bx d43) .nil))) fun s hL => ?_
                refine en' (hK59 _ _ ?_)
                refine wp_seq_k fun K60 hK60=>?_
                obtain ⟨b61, h62, h⟩ := h
                refine rg (sx 54 (t_fab (off := 3) (o_t 5 rfl) Tryd.underlying48 rfl (prt_snd (prt_snd (prt_snd (prt_fst (prt_all _ _)) rfl) rfl) rfl) rfl ty3 rfl rfl) hL fun a s e_ hL=>?_)
                refine sx 55 (t_loado ty3 (o_t 54 rfl) rfl rfl) hL fun a s e_ hL=>sx 56 (t_lss (o_t 55 rfl) (o_i (k := .i64) (by decide)) rfl rfl) hL fun a s e_ hL=>sx 57 (t_move (o_t 56 rfl) rfl rfl) hL fun a s e_ hL=>sx 58 (t_g1 rfl rfl rfl (fun hc_ => t_fab (off := 3) (o_t 5 rfl) Tryd.underlying48 rfl (prt_snd (prt_snd (prt_snd (prt_fst (prt_all _ _)) rfl) rfl) rfl) rfl ty3 rfl rfl)) hL fun a s e_ hL=>sx 59 (t_g1 rfl rfl rfl (fun hc_ => t_loado ty3 (o_w hc_ 58 rfl) rfl rfl)) hL fun a s e_ hL=>sx 60 (t_g1 rfl rfl rfl (fun hc_ => t_fab (off := 4) (o_t 5 rfl) Tryd.underlying48 rfl (prt_snd (prt_snd (prt_snd (prt_snd (prt_fst (prt_all _ _)) rfl) rfl) rfl) rfl) rfl ty3 rfl rfl)) hL fun a s e_ hL=>sx 61 (t_g1 rfl rfl rfl (fun hc_ => t_loado ty3 (o_w hc_ 60 rfl) rfl rfl)) hL fun a s e_ hL=>sx 62 (t_g1 rfl rfl rfl (fun hc_ => t_gtr (o_w hc_ 59 rfl) (o_w hc_ 61 rfl) rfl rfl)) hL fun a s e_ hL=>sx 63 (h62 ▸ (t_or (o_t 57 rfl) (fun hc2_ => (o_w hc2_ 62 rfl)) rfl rfl)) hL fun a s e_ hL=>?_
                refine sx 64 (t_move (o_t 63 rfl) rfl rfl) hL fun a s e_ hL=>sx 65 (t_g1 rfl rfl rfl (fun hc_ => t_fab (off := 4) (o_t 5 rfl) Tryd.underlying48 rfl (prt_snd (prt_snd (prt_snd (prt_snd (prt_fst (prt_all _ _)) rfl) rfl) rfl) rfl) rfl ty3 rfl rfl)) hL fun a s e_ hL=>sx 66 (t_g1 rfl rfl rfl (fun hc_ => t_loado ty3 (o_w hc_ 65 rfl) rfl rfl)) hL fun a s e_ hL=>sx 67 (t_g1 rfl rfl rfl (fun hc_ => t_gtr (o_w hc_ 66 rfl) (o_i (k := .i64) (by decide)) rfl rfl)) hL fun a s e_ hL=>sx 68 (t_or (o_t 64 rfl) (fun hc2_ => (o_w hc2_ 67 rfl)) rfl rfl) hL fun a s e_ hL=>en' (hK60 _ _ ?_)
                refine cnd hL rfl (fun hb_ => ?_) (fun hb_ => ?_)
                · replace h := h.1 hb_
                  refine wp_seq_k fun K63 hK63=>rg (sx 4 (t_assign (o_i (k := .i64) (by decide)) rfl rfl) hL fun a s e_ hL=>?_)
                  refine en' (hK63 _ _ ?_)
                  subst h
                  exact wp_ret (retq rfl hL rfl)
                · replace h := h.2 hb_
                  refine wp_skip ?_
                  exact J49 (e6.1, i_ - 1, 0, e6.2.2.2.1, e6.2.2.2.2.1, (0#256), ([] : Str)) a s (hL.keep (.cons (t := 0) rfl nE (.cons (t := 1) rfl nE (.cons (t := 5) rfl (fun _ _ h_ => h_) (.cons (t := 6) rfl (fun _ _ h_ => h_) .nil))))) d43 h
              · replace h := h.2 hb_
                refine wp_skip ?_
                exact J49 (e6.1, i_ - 1, 0, 0, 0, (0#256), ([] : Str)) a s (hL.keep (.cons (t := 0) rfl nE (.cons (t := 1) rfl nE (.cons (t := 5) rfl (fun _ _ h_ => h_) (.cons (t := 6) rfl (fun _ _ h_ => h_) .nil))))) d43 h
            · replace h := h.2 hb_
              refine wp_seq_k fun K64 hK64=>wp_seq_k fun K65 hK65=>rg (sx 74 (t_eqi (o_t 20 rfl) (o_i (k := .i64) (by decide)) rfl rfl) hL fun a s e_ hL=>?_)
              refine sx 73 (t_assign (o_t 74 rfl) rfl rfl) hL fun a s e_ hL=>en' (hK65 _ _ ?_)
              have J67 : ∀ (v66 : Bool) (a : Act) (s : St), Has N0 96 s0 a s [(0, (Pd.rep (En.slice En.SNode) l_)), (1, (Pd.rep (En.int .i64) i_)), (5, (Pd.box En.SNode s0.w.heap.size g8 e6)), (6, (Pd.box En.SNode s0.w.heap.size g10 (e6.1, 0, 0, 0, 0, (0#256), ([] : Str)))), (73, (Pd.rep En.bool v66))] → Dis (some g8) (some g10) → ((ref04_First.j2 (ref04_First.n k_) l_ i_ r_ e6) v66) → K64 a s.w := by
                intro v66 a s hL d68 h
                unfold ref04_First.j2 at h
                show K64 a s.w
                refine hK64 _ _ (cnd hL rfl (fun hb_ => ?_) (fun hb_ => ?_))
                · replace h := h.1 hb_
                  refine wp_seq_k fun K69 hK69=>?_
                  obtain ⟨h70, h⟩ := h
                  refine rg (sx 76 (t_move (o_t 1 rfl) rfl rfl) hL fun a s e_ hL=>?_)
                  refine sx 77 (t_sub (o_t 76 rfl) (o_i (k := .i64) (by decide)) h70 rfl rfl) hL fun a s e_ hL=>sx 78 (t_fab (off := 2) (o_t 6 rfl) Tryd.underlying48 rfl (prt_snd (prt_snd (prt_fst (prt_all _ _)) rfl) rfl) rfl ty3 rfl rfl) hL fun a s e_ hL=>st_stob (L' := [(0, (Pd.rep (En.slice En.SNode) l_)), (1, (Pd.rep (En.int .i64) i_)), (5, (Pd.box En.SNode s0.w.heap.size g8 e6))]) 6 hL rfl (o_t 78 rfl) (o_t 77 rfl) (sub_snd (sub_snd (sub_fst (sub_all _ _ _)) rfl) rfl) ty3 rfl rfl rfl (.cons (t := 0) rfl nE (.cons (t := 1) rfl nE (.cons (t := 5) rfl (Dis.bx d68) .nil))) fun s hL => ?_
                  refine en' (hK69 _ _ ?_)
                  refine wp_seq_k fun K71 hK71=>?_
                  obtain ⟨h72, r73, h74, h⟩ := h
                  refine rg (sx 79 (t_move (o_t 0 rfl) rfl rfl) hL fun a s e_ hL=>?_)
                  refine sx 80 (t_move (o_t 1 rfl) rfl rfl) hL fun a s e_ hL=>sx 81 (t_sub (o_t 80 rfl) (o_i (k := .i64) (by decide)) h72 rfl rfl) hL fun a s e_ hL=>sx 82 (t_call (ih_ h74) (xs := [.tmp 79, .tmp 81]) (.cons (o_t 79 rfl) (.cons (o_t 81 rfl) .nil)) rfl rfl) hL fun a s e_ hL=>sx 8 (t_assign (o_t 82 rfl) rfl rfl) hL fun a s e_ hL=>en' (hK71 _ _ ?_)
                  refine wp_seq_k fun K75 hK75=>wp_seq_k fun K76 hK76=>rg (sx 83 (t_move (o_t 8 rfl) rfl rfl) hL fun a s e_ hL=>?_)
                  refine sx 84 (t_lss (o_t 83 rfl) (o_i (k := .i64) (by decide)) rfl rfl) hL fun a s e_ hL=>en' (hK76 _ _ ?_)
                  refine cnd hL rfl (fun hb_ => ?_) (fun hb_ => ?_)
                  · replace h := h.1 hb_
                    refine wp_seq_k fun K77 hK77=>rg (sx 4 (t_assign (o_i (k := .i64) (by decide)) rfl rfl) hL fun a s e_ hL=>?_)
                    refine en' (hK77 _ _ ?_)
                    subst h
                    exact wp_ret (retq rfl hL rfl)
                  · replace h := h.2 hb_
                    refine wp_skip ?_
                    show K75 a s.w
                    refine hK75 _ _ (wp_seq_k fun K78 hK78=>?_)
                    obtain ⟨h79, h⟩ := h
                    refine rg (sx 85 (t_move (o_t 8 rfl) rfl rfl) hL fun a s e_ hL=>?_)
                    refine sx 86 (t_sub (o_t 85 rfl) (o_i (k := .i64) (by decide)) h79 rfl rfl) hL fun a s e_ hL=>sx 87 (t_fab (off := 1) (o_t 6 rfl) Tryd.underlying48 rfl (prt_snd (prt_fst (prt_all _ _)) rfl) rfl ty3 rfl rfl) hL fun a s e_ hL=>st_stob (L' := [(0, (Pd.rep (En.slice En.SNode) l_)), (5, (Pd.box En.SNode s0.w.heap.size g8 e6)), (8, (Pd.rep (En.int .i64) r73))]) 6 hL rfl (o_t 87 rfl) (o_t 86 rfl) (sub_snd (sub_fst (sub_all _ _ _)) rfl) ty3 rfl rfl rfl (.cons (t := 0) rfl nE (.cons (t := 5) rfl (Dis.bx d68) (.cons (t := 8) rfl nE .nil))) fun s hL => ?_
                    refine en' (hK78 _ _ ?_)
                    obtain ⟨h80, r81, h82, h⟩ := h
                    refine rg (sx 88 (t_move (o_t 0 rfl) rfl rfl) hL fun a s e_ hL=>?_)
                    refine sx 89 (t_move (o_t 8 rfl) rfl rfl) hL fun a s e_ hL=>sx 90 (t_sub (o_t 89 rfl) (o_i (k := .i64) (by decide)) h80 rfl rfl) hL fun a s e_ hL=>sx 91 (t_call (ih_ h82) (xs := [.tmp 88, .tmp 90]) (.cons (o_t 88 rfl) (.cons (o_t 90 rfl) .nil)) rfl rfl) hL fun a s e_ hL=>sx 7 (t_assign (o_t 91 rfl) rfl rfl) hL fun a s e_ hL=>en' (hK13 _ _ ?_)
                    refine wp_seq_k fun K83 hK83=>wp_seq_k fun K84 hK84=>?_
                    obtain ⟨b85, h86, h⟩ := h
                    refine rg (sx 92 (t_loadb ty48 (o_t 5 rfl) rfl rfl) hL fun a s e_ hL=>?_)
                    refine sx 93 (t_loadb ty48 (o_t 6 rfl) rfl rfl) hL fun a s e_ hL=>sx 94 (h86 ▸ (t_nev eq48 (o_t 92 rfl) (o_t 93 rfl) rfl rfl)) hL fun a s e_ hL=>en' (hK84 _ _ ?_)
                    refine cnd hL rfl (fun hb_ => ?_) (fun hb_ => ?_)
                    · replace h := h.1 hb_
                      refine wp_seq_k fun K87 hK87=>rg (sx 4 (t_assign (o_i (k := .i64) (by decide)) rfl rfl) hL fun a s e_ hL=>?_)
                      refine en' (hK87 _ _ ?_)
                      subst h
                      exact wp_ret (retq rfl hL rfl)
                    · replace h := h.2 hb_
                      refine wp_skip ?_
                      show K83 a s.w
                      refine hK83 _ _ (wp_seq_k fun K88 hK88=>?_)
                      refine rg (sx 95 (t_move (o_t 7 rfl) rfl rfl) hL fun a s e_ hL=>?_)
                      refine sx 4 (t_assign (o_t 95 rfl) rfl rfl) hL fun a s e_ hL=>en' (hK88 _ _ ?_)
                      subst h
                      exact wp_ret (retq rfl hL rfl)
                · replace h := h.2 hb_
                  refine wp_seq_k fun K89 hK89=>rg (sx 4 (t_assign (o_i (k := .i64) (by decide)) rfl rfl) hL fun a s e_ hL=>?_)
                  refine en' (hK89 _ _ ?_)
                  subst h
                  exact wp_ret (retq rfl hL rfl)
              refine cnd hL rfl (fun hb_ => ?_) (fun hb_ => ?_)
              · replace h := h.1 hb_
                refine wp_skip ?_
                exact J67 (e6.1 == 4) a s (hL.keep (.cons (t := 0) rfl nE (.cons (t := 1) rfl nE (.cons (t := 5) rfl (fun _ _ h_ => h_) (.cons (t := 6) rfl (fun _ _ h_ => h_) (.cons (t := 73) rfl nE .nil)))))) d43 h
              · replace h := h.2 hb_
                refine rg (sx 75 (t_eqi (o_t 20 rfl) (o_i (k := .i64) (by decide)) rfl rfl) hL fun a s e_ hL=>?_)
                refine sx 73 (t_assign (o_t 75 rfl) rfl rfl) hL fun a s e_ hL=>en' ?_
                exact J67 (e6.1 == 5) a s (hL.keep (.cons (t := 0) rfl nE (.cons (t := 1) rfl nE (.cons (t := 5) rfl (fun _ _ h_ => h_) (.cons (t := 6) rfl (fun _ _ h_ => h_) (.cons (t := 73) rfl nE .nil)))))) d43 h
          refine cnd hL rfl (fun hb_ => ?_) (fun hb_ => ?_)
          · replace h := h.1 hb_
            refine wp_skip ?_
            exact J42 (e6.1 == 6) a s (hL.keep (.cons (t := 0) rfl nE (.cons (t := 1) rfl nE (.cons (t := 5) rfl (fun _ _ h_ => h_) (.cons (t := 6) rfl (fun _ _ h_ => h_) (.cons (t := 20) rfl nE (.cons (t := 37) rfl nE .nil))))))) (Dis.symm d11) h
          · replace h := h.2 hb_
            refine wp_seq_k fun K90 hK90=>rg (sx 39 (t_eqi (o_t 20 rfl) (o_i (k := .i64) (by decide)) rfl rfl) hL fun a s e_ hL=>?_)
            refine sx 37 (t_assign (o_t 39 rfl) rfl rfl) hL fun a s e_ hL=>en' (hK90 _ _ ?_)
            refine cnd hL rfl (fun hb_ => ?_) (fun hb_ => ?_)
            · replace h := h.1 hb_
              refine wp_skip ?_
              exact J42 (e6.1 == 7) a s (hL.keep (.cons (t := 0) rfl nE (.cons (t := 1) rfl nE (.cons (t := 5) rfl (fun _ _ h_ => h_) (.cons (t := 6) rfl (fun _ _ h_ => h_) (.cons (t := 20) rfl nE (.cons (t := 37) rfl nE .nil))))))) (Dis.symm d11) h
            · replace h := h.2 hb_
              refine wp_seq_k fun K91 hK91=>rg (sx 40 (t_eqi (o_t 20 rfl) (o_i (k := .i64) (by decide)) rfl rfl) hL fun a s e_ hL=>?_)
              refine sx 37 (t_assign (o_t 40 rfl) rfl rfl) hL fun a s e_ hL=>en' (hK91 _ _ ?_)
              refine cnd hL rfl (fun hb_ => ?_) (fun hb_ => ?_)
              · replace h := h.1 hb_
                refine wp_skip ?_
                exact J42 (e6.1 == 8) a s (hL.keep (.cons (t := 0) rfl nE (.cons (t := 1) rfl nE (.cons (t := 5) rfl (fun _ _ h_ => h_) (.cons (t := 6) rfl (fun _ _ h_ => h_) (.cons (t := 20) rfl nE (.cons (t := 37) rfl nE .nil))))))) (Dis.symm d11) h
              · replace h := h.2 hb_
                refine rg (sx 41 (t_eqi (o_t 20 rfl) (o_i (k := .i64) (by decide)) rfl rfl) hL fun a s e_ hL=>?_)
                refine sx 37 (t_assign (o_t 41 rfl) rfl rfl) hL fun a s e_ hL=>en' ?_
                exact J42 (e6.1 == 9) a s (hL.keep (.cons (t := 0) rfl nE (.cons (t := 1) rfl nE (.cons (t := 5) rfl (fun _ _ h_ => h_) (.cons (t := 6) rfl (fun _ _ h_ => h_) (.cons (t := 20) rfl nE (.cons (t := 37) rfl nE .nil))))))) (Dis.symm d11) h
theorem ref04_First_ok {l_ : (List SNode)} {i_ : Int} {r_ : Int} (h : ref04_First l_ i_ r_) : Fn Tryd.prog 63 [(Pd.rep (En.slice En.SNode) l_), (Pd.rep (En.int .i64) i_)] (Rq (Pd.rep (En.int .i64) r_)) := by
  obtain ⟨k_, h⟩ := h
  exact ref04_First.n_ok k_ h
theorem ref04_Form_ok {d_ : SDesc} {r_ : Bool} (h : ref04_Form d_ r_) : Fn Tryd.prog 42 [(Pd.rep En.SDesc d_)] (Rq (Pd.rep En.bool r_)) := by
  unfold ref04_Form at h
  refine fn_of Tryd.func42 rfl Tryd.ntmps42 (by rfl) (by simp) fun s0 a hL => ?_
  refine wp_seq_k fun K1 hK1=>rg (sx 1 (t_box (o_t 0 rfl) rfl rfl) hL fun a s e_ hL=>?_)
  refine sx 2 (t_assign o_b rfl rfl) hL fun a s e_ hL=>en' (hK1 _ _ ?_)
  refine wp_seq_k fun K2 hK2=>?_
  obtain ⟨h3, r4, h5, h⟩ := h
  refine rg (sx 3 (t_fa (off := 0) (o_t 1 rfl) Tryd.underlying24 rfl (prt_solo (prt_all _ _)) rfl ty22 rfl rfl) hL fun a s e_ hL=>?_)
  refine sx 4 (t_load ty22 (o_t 3 rfl) rfl rfl) hL fun a s e_ hL=>sx 5 (t_len (o_t 4 rfl) Tryd.underlying22 rfl rfl) hL fun a s e_ hL=>sx 6 (t_gtr (o_t 5 rfl) (o_i (k := .i64) (by decide)) rfl rfl) hL fun a s e_ hL=>sx 7 (t_move (o_t 6 rfl) rfl rfl) hL fun a s e_ hL=>sx 8 (t_g1 rfl rfl rfl (fun hc_ => t_fa (off := 0) (o_t 1 rfl) Tryd.underlying24 rfl (prt_solo (prt_all _ _)) rfl ty22 rfl rfl)) hL fun a s e_ hL=>sx 9 (t_g1 rfl rfl rfl (fun hc_ => t_load ty22 (o_w hc_ 8 rfl) rfl rfl)) hL fun a s e_ hL=>sx 10 (t_g1 rfl rfl rfl (fun hc_ => t_fa (off := 0) (o_t 1 rfl) Tryd.underlying24 rfl (prt_solo (prt_all _ _)) rfl ty22 rfl rfl)) hL fun a s e_ hL=>sx 11 (t_g1 rfl rfl rfl (fun hc_ => t_load ty22 (o_w hc_ 10 rfl) rfl rfl)) hL fun a s e_ hL=>sx 12 (t_g1 rfl rfl rfl (fun hc_ => t_len (o_w hc_ 11 rfl) Tryd.underlying22 rfl rfl)) hL fun a s e_ hL=>?_
  refine sx 13 (t_g1 rfl rfl rfl (fun hc_ => t_sub (o_w hc_ 12 rfl) (o_i (k := .i64) (by decide)) (h3 hc_) rfl rfl)) hL fun a s e_ hL=>sx 14 (t_g1 rfl rfl rfl (fun hc_ => t_call (ref04_First_ok (h5 hc_)) (xs := [.tmp 9, .tmp 13]) (.cons (o_w hc_ 9 rfl) (.cons (o_w hc_ 13 rfl) .nil)) rfl rfl)) hL fun a s e_ hL=>sx 15 (t_g1 rfl rfl rfl (fun hc_ => t_eqi (o_w hc_ 14 rfl) (o_i (k := .i64) (by decide)) rfl rfl)) hL fun a s e_ hL=>sx 16 (t_and (o_t 7 rfl) (fun hc2_ => (o_w hc2_ 15 rfl)) rfl rfl) hL fun a s e_ hL=>sx 2 (t_assign (o_t 16 rfl) rfl rfl) hL fun a s e_ hL=>en' (hK2 _ _ ?_)
  subst h
  exact wp_ret (retq rfl hL rfl)
end Go.Proofs.YtdidjelkkanenaaDoor.V
namespace Go.Proofs.YtdidjelkkanenaaDoor.V
open Go
set_option linter.unusedVariables false
def ref08_Ways.j1 (i_ : Int) (r_ : Int) (l5 : (List Int)) : Prop := ∃ e9 : Int, at? l5 i_ = some e9 ∧ r_ = e9
def ref08_Ways.j2 (L1_ : (List Int) → Int → Prop) (l11 : (List Int)) (k13 : Int) (w29 : Int) : Prop := (l11.length + [(min 2 w29)].length ≤ 2147483648) ∧ (InR .i64 (k13 + 1)) ∧ L1_ (l11 ++ [(min 2 w29)]) (k13 + 1)
def ref08_Ways.j3 (L2_ : Int → Int → Prop) (w53 : Int) (t54 : Int) (p65 : Int) : Prop := (InR .i64 (w53 + p65)) ∧ (InR .i64 (t54 + 1)) ∧ L2_ (min 2 (w53 + p65)) (t54 + 1)
def ref08_Ways.l3 (l11 : (List Int)) (e21 : SNode) (t54 : Int) (X3 : Int → Prop) : Nat → Int → Int → Prop
  | 0, _, _ => False
  | k_0 + 1, p70, m71 => ((decide (m71 < t54)) = true → ∃ e79 : Int, at? l11 e21.2.1 = some e79 ∧ (InR .i64 (p70 * e79)) ∧ (InR .i64 (m71 + 1)) ∧ ref08_Ways.l3 l11 e21 t54 X3 k_0 (min 2 (p70 * e79)) (m71 + 1)) ∧ ((decide (m71 < t54)) = false → X3 p70)
def ref08_Ways.l2 (l11 : (List Int)) (e21 : SNode) (X2 : Int → Prop) : Nat → Int → Int → Prop
  | 0, _, _ => False
  | k_0 + 1, w53, t54 => ((decide (t54 ≤ e21.2.2.2.2.1)) = true → ∃ k72, ref08_Ways.l3 l11 e21 t54 (ref08_Ways.j3 (ref08_Ways.l2 l11 e21 X2 k_0) w53 t54) k72 1 0) ∧ ((decide (t54 ≤ e21.2.2.2.2.1)) = false → X2 w53)
def ref08_Ways.l1 (d_ : SDesc) (i_ : Int) (X1 : (List Int) → Prop) : Nat → (List Int) → Int → Prop
  | 0, _, _ => False
  | k_0 + 1, l11, k13 => ((decide (k13 ≤ i_)) = true → ∃ e21 : SNode, at? d_ k13 = some e21 ∧ (((e21.1 == 1)) = true → (ref08_Ways.j2 (ref08_Ways.l1 d_ i_ X1 k_0) l11 k13) 1) ∧ (((e21.1 == 1)) = false → (((e21.1 == 4)) = true → ∃ e35 : Int, at? l11 e21.2.1 = some e35 ∧ ∃ e37 : Int, at? l11 e21.2.2.1 = some e37 ∧ (InR .i64 (e35 * e37)) ∧ (ref08_Ways.j2 (ref08_Ways.l1 d_ i_ X1 k_0) l11 k13) (e35 * e37)) ∧ (((e21.1 == 4)) = false → (((e21.1 == 5)) = true → ∃ e41 : Int, at? l11 e21.2.1 = some e41 ∧ ∃ e43 : Int, at? l11 e21.2.2.1 = some e43 ∧ (InR .i64 (e41 + e43)) ∧ (ref08_Ways.j2 (ref08_Ways.l1 d_ i_ X1 k_0) l11 k13) (e41 + e43)) ∧ (((e21.1 == 5)) = false → (((e21.1 == 6)) = true → ∃ e49 : Int, at? l11 e21.2.1 = some e49 ∧ ((decide (0 < e49)) = true → (ref08_Ways.j2 (ref08_Ways.l1 d_ i_ X1 k_0) l11 k13) 2) ∧ ((decide (0 < e49)) = false → (ref08_Ways.j2 (ref08_Ways.l1 d_ i_ X1 k_0) l11 k13) 1)) ∧ (((e21.1 == 6)) = false → (((e21.1 == 7)) = true → ∃ k55, ref08_Ways.l2 l11 e21 (ref08_Ways.j2 (ref08_Ways.l1 d_ i_ X1 k_0) l11 k13) k55 0 e21.2.2.2.1) ∧ (((e21.1 == 7)) = false → (ref08_Ways.j2 (ref08_Ways.l1 d_ i_ X1 k_0) l11 k13) 0)))))) ∧ ((decide (k13 ≤ i_)) = false → X1 l11)
def ref08_Ways (d_ : SDesc) (i_ : Int) (r_ : Int) : Prop := ∃ k14, ref08_Ways.l1 d_ i_ (ref08_Ways.j1 i_ r_) k14 ([] : (List Int)) 0
def ref08_First.j1 (r_ : (Int × Bool)) : Prop := r_ = (0, false)
def ref08_First.l1 (d_ : SDesc) (r_ : (Int × Bool)) (X1 : Prop) : Nat → Int → Prop
  | 0, _ => False
  | k_0 + 1, i6 => ((decide (i6 < (d_.length : Int))) = true → ∃ e14 : SNode, at? d_ i6 = some e14 ∧ ∃ e17 : SNode, (((((e14.1 == 6) || (e14.1 == 7))) = true) → at? d_ i6 = some e17) ∧ ∃ r19 : Int, (((((e14.1 == 6) || (e14.1 == 7))) = true) → ref08_Ways d_ e17.2.1 r19) ∧ (((((e14.1 == 6) || (e14.1 == 7)) && (r19 != 0))) = true → r_ = (i6, true)) ∧ (((((e14.1 == 6) || (e14.1 == 7)) && (r19 != 0))) = false → (InR .i64 (i6 + 1)) ∧ ref08_First.l1 d_ r_ X1 k_0 (i6 + 1))) ∧ ((decide (i6 < (d_.length : Int))) = false → X1)
def ref08_First (d_ : SDesc) (r_ : (Int × Bool)) : Prop := ∃ k7, ref08_First.l1 d_ r_ (ref08_First.j1 r_) k7 0
def ref08_Right (d_ : SDesc) (r_ : Bool) : Prop := ∃ r4 : Bool, ref04_Form d_ r4 ∧ (((!r4)) = true → r_ = false) ∧ (((!r4)) = false → ∃ r8 : (Int × Bool), ref08_First d_ r8 ∧ r_ = (!r8.2))
end Go.Proofs.YtdidjelkkanenaaDoor.V
namespace Go.Proofs.YtdidjelkkanenaaDoor.V
open Go
set_option linter.unusedVariables false
set_option maxRecDepth 100000
theorem ref08_Ways_ok {d_ : SDesc} {i_ : Int} {r_ : Int} (h : ref08_Ways d_ i_ r_) : Fn Tryd.prog 27 [(Pd.rep En.SDesc d_), (Pd.rep (En.int .i64) i_)] (Rq (Pd.rep (En.int .i64) r_)) := by
  unfold ref08_Ways at h
  refine fn_of Tryd.func27 rfl Tryd.ntmps27 (by rfl) (by simp) fun s0 a hL => ?_
  refine wp_seq_k fun K1 hK1=>rg (sx 2 (t_box (o_t 0 rfl) rfl rfl) hL fun a s e_ hL=>?_)
  refine sx 4 (t_assign (o_i (k := .i64) (by decide)) rfl rfl) hL fun a s e_ hL=>en' (hK1 _ _ ?_)
  refine wp_seq_k fun K2 hK2=>rg (sx 5 (t_assign (o_nil (E := (En.int .i64)) (N := s0.w.heap.size) (te := 3)) rfl rfl) hL fun a s e_ hL=>?_)
  refine en' (hK2 _ _ ?_)
  refine wp_seq_k fun K3 hK3=>wp_seq_k fun K4 hK4=>rg (sx 6 (t_assign (o_i (k := .i64) (by decide)) rfl rfl) hL fun a s e_ hL=>?_)
  refine en' (hK4 _ _ ?_)
  refine wp_block ?_
  have J7 : ∀ (l5 : (List Int)) (og6 : Option Nat) (a : Act) (s : St), Has N0 96 s0 a s [(1, (Pd.rep (En.int .i64) i_)), (5, (Pd.row (En.int .i64) s0.w.heap.size 3 og6 l5))] → ((ref08_Ways.j1 i_ r_) l5) → K3 a s.w := by
    intro l5 og6 a s hL h
    unfold ref08_Ways.j1 at h
    show K3 a s.w
    refine hK3 _ _ (wp_seq_k fun K8 hK8=>?_)
    obtain ⟨e9, h10, h⟩ := h
    refine rg (sx 92 (t_move (o_t 5 rfl) rfl rfl) hL fun a s e_ hL=>?_)
    refine sx 93 (t_move (o_t 1 rfl) rfl rfl) hL fun a s e_ hL=>sx 94 (t_idxo (o_t 92 rfl) (o_t 93 rfl) h10 Tryd.underlying82 ty3 rfl rfl) hL fun a s e_ hL=>sx 95 (t_loado ty3 (o_t 94 rfl) rfl rfl) hL fun a s e_ hL=>sx 4 (t_assign (o_t 95 rfl) rfl rfl) hL fun a s e_ hL=>en' (hK8 _ _ ?_)
    subst h
    exact wp_ret (retq rfl hL rfl)
  obtain ⟨k14, h⟩ := h
  refine lpg (fun k15 a s => ∃ (l11 : (List Int)) (k13 : Int) (og12 : Option Nat), Has N0 96 s0 a s [(1, (Pd.rep (En.int .i64) i_)), (2, (Pd.ptr En.SDesc d_)), (5, (Pd.row (En.int .i64) s0.w.heap.size 3 og12 l11)), (6, (Pd.rep (En.int .i64) k13))] ∧ ref08_Ways.l1 d_ i_ (ref08_Ways.j1 i_ r_) k15 l11 k13) k14 ⟨([] : (List Int)), 0, none, hL.keep (.cons (t := 1) rfl nE (.cons (t := 2) rfl nE (.cons (t := 5) rfl (fun _ _ h_ => h_) (.cons (t := 6) rfl nE .nil)))), h⟩ ?_
  rintro k15 a s ⟨l11, k13, og12, hL, h⟩ KL16 hKL16
  cases k15 with
  | zero => exact h.elim
  | succ k15 =>
  unfold ref08_Ways.l1 at h
  refine wp_seq_k fun K17 hK17=>wp_seq_k fun K18 hK18=>rg (sx 12 (t_move (o_t 6 rfl) rfl rfl) hL fun a s e_ hL=>?_)
  refine sx 13 (t_move (o_t 1 rfl) rfl rfl) hL fun a s e_ hL=>sx 14 (t_leq (o_t 12 rfl) (o_t 13 rfl) rfl rfl) hL fun a s e_ hL=>en' (hK18 _ _ ?_)
  refine cnd hL rfl (fun hb_ => ?_) (fun hb_ => ?_)
  · replace h := h.1 hb_
    refine wp_skip ?_
    show K17 a s.w
    refine hK17 _ _ (wp_seq_k fun K19 hK19=>?_)
    refine wp_block (wp_seq_k fun K20 hK20=>?_)
    obtain ⟨e21, h22, h⟩ := h
    refine rg (sx 17 (t_fa (off := 0) (o_t 2 rfl) Tryd.underlying24 rfl (prt_solo (prt_all _ _)) rfl ty22 rfl rfl) hL fun a s e_ hL=>?_)
    refine sx 18 (t_load ty22 (o_t 17 rfl) rfl rfl) hL fun a s e_ hL=>sx 19 (t_move (o_t 6 rfl) rfl rfl) hL fun a s e_ hL=>sx 20 (t_idx (o_t 18 rfl) (o_t 19 rfl) h22 Tryd.underlying22 ty48 rfl rfl) hL fun a s e_ hL=>sx 21 (t_load ty48 (o_t 20 rfl) rfl rfl) hL fun a s e_ hL=>?_
    have lt_d24 := hL.rlt 5 rfl
    refine st_alloc En.SNode (z := (0, 0, 0, 0, 0, (0#256), ([] : Str))) 7 hL tyz48 rfl rfl rfl rfl fun a s g23 hg_ hL => ?_
    have d24 : Dis (some g23) og12 := Dis.newg hg_ lt_d24
    refine st_stb (L' := [(1, (Pd.rep (En.int .i64) i_)), (2, (Pd.ptr En.SDesc d_)), (5, (Pd.row (En.int .i64) s0.w.heap.size 3 og12 l11)), (6, (Pd.rep (En.int .i64) k13))]) 7 hL rfl (o_t 21 rfl) ty48 rfl rfl rfl (.cons (t := 1) rfl nE (.cons (t := 2) rfl nE (.cons (t := 5) rfl (Dis.ow (Dis.symm d24)) (.cons (t := 6) rfl nE .nil)))) fun s hL => ?_
    refine en' (hK20 _ _ ?_)
    refine wp_seq_k fun K25 hK25=>rg (sx 8 (t_assign (o_i (k := .i64) (by decide)) rfl rfl) hL fun a s e_ hL=>?_)
    refine en' (hK25 _ _ ?_)
    refine wp_seq_k fun K26 hK26=>wp_seq_k fun K27 hK27=>rg (sx 22 (t_fab (off := 0) (o_t 7 rfl) Tryd.underlying48 rfl (prt_fst (prt_all _ _)) rfl ty3 rfl rfl) hL fun a s e_ hL=>?_)
    refine sx 23 (t_loado ty3 (o_t 22 rfl) rfl rfl) hL fun a s e_ hL=>en' (hK27 _ _ ?_)
    refine wp_block (wp_seq_k fun K28 hK28=>?_)
    refine rg (sx 25 (t_eqi (o_t 23 rfl) (o_i (k := .i64) (by decide)) rfl rfl) hL fun a s e_ hL=>?_)
    refine sx 24 (t_assign (o_t 25 rfl) rfl rfl) hL fun a s e_ hL=>en' (hK28 _ _ ?_)
    have J30 : ∀ (w29 : Int) (a : Act) (s : St), Has N0 96 s0 a s [(1, (Pd.rep (En.int .i64) i_)), (2, (Pd.ptr En.SDesc d_)), (5, (Pd.row (En.int .i64) s0.w.heap.size 3 og12 l11)), (6, (Pd.rep (En.int .i64) k13)), (8, (Pd.rep (En.int .i64) w29))] → ((ref08_Ways.j2 (ref08_Ways.l1 d_ i_ (ref08_Ways.j1 i_ r_) k15) l11 k13) w29) → K26 a s.w := by
      intro w29 a s hL h
      unfold ref08_Ways.j2 at h
      show K26 a s.w
      refine hK26 _ _ ?_
      obtain ⟨h31, h⟩ := h
      refine rg (sx 87 (t_move (o_t 5 rfl) rfl rfl) hL fun a s e_ hL=>?_)
      refine sx 88 (t_move (o_t 8 rfl) rfl rfl) hL fun a s e_ hL=>sx 89 (t_min (o_i (k := .i64) (by decide)) (o_t 88 rfl) rfl rfl) hL fun a s e_ hL=>sx 90 (t_lit (xs := [.tmp 89]) (.cons (o_t 89 rfl) .nil) Tryd.underlying82 ty3 rfl rfl (by decide) rfl rfl) hL fun a s e_ hL=>st_app (L' := [(1, (Pd.rep (En.int .i64) i_)), (2, (Pd.ptr En.SDesc d_)), (6, (Pd.rep (En.int .i64) k13))]) 91 hL (o_t 87 rfl) (o_t 90 rfl) Tryd.underlying82 ty3 h31 rfl rfl rfl rfl (.cons (t := 1) rfl nE (.cons (t := 2) rfl nE (.cons (t := 6) rfl nE .nil))) fun a s og32 hg_ hL => ?_
      refine sx 5 (t_assign (o_t 91 rfl) rfl rfl) hL fun a s e_ hL=>en' (hK19 _ _ ?_)
      obtain ⟨h33, h⟩ := h
      refine rg (sx 15 (t_move (o_t 6 rfl) rfl rfl) hL fun a s e_ hL=>?_)
      refine sx 16 (t_add (o_t 15 rfl) (o_i (k := .i64) (by decide)) h33 rfl rfl) hL fun a s e_ hL=>sx 6 (t_assign (o_t 16 rfl) rfl rfl) hL fun a s e_ hL=>en' ?_
      exact hKL16 k15 a s (Nat.lt_succ_self _) ⟨(l11 ++ [(min 2 w29)]), (k13 + 1), og32, hL.keep (.cons (t := 1) rfl nE (.cons (t := 2) rfl nE (.cons (t := 5) rfl (fun _ _ h_ => h_) (.cons (t := 6) rfl nE .nil)))), h⟩
    refine cnd hL rfl (fun hb_ => ?_) (fun hb_ => ?_)
    · replace h := h.1 hb_
      refine rg (sx 8 (t_assign (o_i (k := .i64) (by decide)) rfl rfl) hL fun a s e_ hL=>?_)
      refine en' ?_
      exact J30 1 a s (hL.keep (.cons (t := 1) rfl nE (.cons (t := 2) rfl nE (.cons (t := 5) rfl (fun _ _ h_ => h_) (.cons (t := 6) rfl nE (.cons (t := 8) rfl nE .nil)))))) h
    · replace h := h.2 hb_
      refine wp_seq_k fun K34 hK34=>rg (sx 27 (t_eqi (o_t 23 rfl) (o_i (k := .i64) (by decide)) rfl rfl) hL fun a s e_ hL=>?_)
      refine sx 26 (t_assign (o_t 27 rfl) rfl rfl) hL fun a s e_ hL=>en' (hK34 _ _ ?_)
      refine cnd hL rfl (fun hb_ => ?_) (fun hb_ => ?_)
      · replace h := h.1 hb_
        obtain ⟨e35, h36, e37, h38, h39, h⟩ := h
        refine rda follows 11 [(Pd.row (En.int .i64) s0.w.heap.size 3 og12 l11), (Pd.optr (En.int .i64) s0.w.heap.size (some g23) (1) e21.2.1), (Pd.rep (En.int .i64) e21.2.1), (Pd.optr (En.int .i64) s0.w.heap.size og12 ((e21.2.1 : Int).toNat * (En.int .i64).sz) e35), (Pd.rep (En.int .i64) e35), (Pd.row (En.int .i64) s0.w.heap.size 3 og12 l11), (Pd.optr (En.int .i64) s0.w.heap.size (some g23) (2) e21.2.2.1), (Pd.rep (En.int .i64) e21.2.2.1), (Pd.optr (En.int .i64) s0.w.heap.size og12 ((e21.2.2.1 : Int).toNat * (En.int .i64).sz) e37), (Pd.rep (En.int .i64) e37), (Pd.rep (En.int .i64) (e35 * e37))] hL (by kernel_rfl) rfl rfl ?_ ?_
        · refine AllT.cons (t_move (o_t 5 rfl) rfl rfl) ?_
          refine AllT.cons (t_fab (off := 1) (o_t 7 rfl) Tryd.underlying48 rfl (prt_snd (prt_fst (prt_all _ _)) rfl) rfl ty3 rfl rfl) (AllT.cons (t_loado ty3 (o_t 29 rfl) rfl rfl) ?_)
          refine AllT.cons (t_idxo (o_t 28 rfl) (o_t 30 rfl) h36 Tryd.underlying82 ty3 rfl rfl) (AllT.cons (t_loado ty3 (o_t 31 rfl) rfl rfl) ?_)
          refine AllT.cons (t_move (o_t 5 rfl) rfl rfl) (AllT.cons (t_fab (off := 2) (o_t 7 rfl) Tryd.underlying48 rfl (prt_snd (prt_snd (prt_fst (prt_all _ _)) rfl) rfl) rfl ty3 rfl rfl) ?_)
          refine AllT.cons (t_loado ty3 (o_t 34 rfl) rfl rfl) (AllT.cons (t_idxo (o_t 33 rfl) (o_t 35 rfl) h38 Tryd.underlying82 ty3 rfl rfl) ?_)
          refine AllT.cons (t_loado ty3 (o_t 36 rfl) rfl rfl) (AllT.cons (t_mul (o_t 32 rfl) (o_t 37 rfl) h39 rfl rfl) ?_)
          exact AllT.nil
        intro a s e_ hL
        refine sx 8 (t_assign (o_t 38 rfl) rfl rfl) hL fun a s e_ hL=>en' ?_
        exact J30 (e35 * e37) a s (hL.keep (.cons (t := 1) rfl nE (.cons (t := 2) rfl nE (.cons (t := 5) rfl (fun _ _ h_ => h_) (.cons (t := 6) rfl nE (.cons (t := 8) rfl nE .nil)))))) h
      · replace h := h.2 hb_
        refine wp_seq_k fun K40 hK40=>rg (sx 40 (t_eqi (o_t 23 rfl) (o_i (k := .i64) (by decide)) rfl rfl) hL fun a s e_ hL=>?_)
        refine sx 39 (t_assign (o_t 40 rfl) rfl rfl) hL fun a s e_ hL=>en' (hK40 _ _ ?_)
        refine cnd hL rfl (fun hb_ => ?_) (fun hb_ => ?_)
        · replace h := h.1 hb_
          obtain ⟨e41, h42, e43, h44, h45, h⟩ := h
          refine rda follows 11 [(Pd.row (En.int .i64) s0.w.heap.size 3 og12 l11), (Pd.optr (En.int .i64) s0.w.heap.size (some g23) (1) e21.2.1), (Pd.rep (En.int .i64) e21.2.1), (Pd.optr (En.int .i64) s0.w.heap.size og12 ((e21.2.1 : Int).toNat * (En.int .i64).sz) e41), (Pd.rep (En.int .i64) e41), (Pd.row (En.int .i64) s0.w.heap.size 3 og12 l11), (Pd.optr (En.int .i64) s0.w.heap.size (some g23) (2) e21.2.2.1), (Pd.rep (En.int .i64) e21.2.2.1), (Pd.optr (En.int .i64) s0.w.heap.size og12 ((e21.2.2.1 : Int).toNat * (En.int .i64).sz) e43), (Pd.rep (En.int .i64) e43), (Pd.rep (En.int .i64) (e41 + e43))] hL (by kernel_rfl) rfl rfl ?_ ?_
          · refine AllT.cons (t_move (o_t 5 rfl) rfl rfl) ?_
            refine AllT.cons (t_fab (off := 1) (o_t 7 rfl) Tryd.underlying48 rfl (prt_snd (prt_fst (prt_all _ _)) rfl) rfl ty3 rfl rfl) (AllT.cons (t_loado ty3 (o_t 42 rfl) rfl rfl) ?_)
            refine AllT.cons (t_idxo (o_t 41 rfl) (o_t 43 rfl) h42 Tryd.underlying82 ty3 rfl rfl) (AllT.cons (t_loado ty3 (o_t 44 rfl) rfl rfl) ?_)
            refine AllT.cons (t_move (o_t 5 rfl) rfl rfl) (AllT.cons (t_fab (off := 2) (o_t 7 rfl) Tryd.underlying48 rfl (prt_snd (prt_snd (prt_fst (prt_all _ _)) rfl) rfl) rfl ty3 rfl rfl) ?_)
            refine AllT.cons (t_loado ty3 (o_t 47 rfl) rfl rfl) (AllT.cons (t_idxo (o_t 46 rfl) (o_t 48 rfl) h44 Tryd.underlying82 ty3 rfl rfl) ?_)
            refine AllT.cons (t_loado ty3 (o_t 49 rfl) rfl rfl) (AllT.cons (t_add (o_t 45 rfl) (o_t 50 rfl) h45 rfl rfl) ?_)
            exact AllT.nil
          intro a s e_ hL
          refine sx 8 (t_assign (o_t 51 rfl) rfl rfl) hL fun a s e_ hL=>en' ?_
          exact J30 (e41 + e43) a s (hL.keep (.cons (t := 1) rfl nE (.cons (t := 2) rfl nE (.cons (t := 5) rfl (fun _ _ h_ => h_) (.cons (t := 6) rfl nE (.cons (t := 8) rfl nE .nil)))))) h
        · replace h := h.2 hb_
          refine wp_seq_k fun K46 hK46=>rg (sx 53 (t_eqi (o_t 23 rfl) (o_i (k := .i64) (by decide)) rfl rfl) hL fun a s e_ hL=>?_)
          refine sx 52 (t_assign (o_t 53 rfl) rfl rfl) hL fun a s e_ hL=>en' (hK46 _ _ ?_)
          refine cnd hL rfl (fun hb_ => ?_) (fun hb_ => ?_)
          · replace h := h.1 hb_
            refine wp_seq_k fun K47 hK47=>rg (sx 8 (t_assign (o_i (k := .i64) (by decide)) rfl rfl) hL fun a s e_ hL=>?_)
            refine en' (hK47 _ _ ?_)
            refine wp_seq_k fun K48 hK48=>?_
            obtain ⟨e49, h50, h⟩ := h
            refine rg (sx 54 (t_move (o_t 5 rfl) rfl rfl) hL fun a s e_ hL=>?_)
            refine sx 55 (t_fab (off := 1) (o_t 7 rfl) Tryd.underlying48 rfl (prt_snd (prt_fst (prt_all _ _)) rfl) rfl ty3 rfl rfl) hL fun a s e_ hL=>sx 56 (t_loado ty3 (o_t 55 rfl) rfl rfl) hL fun a s e_ hL=>sx 57 (t_idxo (o_t 54 rfl) (o_t 56 rfl) h50 Tryd.underlying82 ty3 rfl rfl) hL fun a s e_ hL=>sx 58 (t_loado ty3 (o_t 57 rfl) rfl rfl) hL fun a s e_ hL=>sx 59 (t_gtr (o_t 58 rfl) (o_i (k := .i64) (by decide)) rfl rfl) hL fun a s e_ hL=>en' (hK48 _ _ ?_)
            refine cnd hL rfl (fun hb_ => ?_) (fun hb_ => ?_)
            · replace h := h.1 hb_
              refine rg (sx 8 (t_assign (o_i (k := .i64) (by decide)) rfl rfl) hL fun a s e_ hL=>?_)
              refine en' ?_
              exact J30 2 a s (hL.keep (.cons (t := 1) rfl nE (.cons (t := 2) rfl nE (.cons (t := 5) rfl (fun _ _ h_ => h_) (.cons (t := 6) rfl nE (.cons (t := 8) rfl nE .nil)))))) h
            · replace h := h.2 hb_
              refine wp_skip ?_
              exact J30 1 a s (hL.keep (.cons (t := 1) rfl nE (.cons (t := 2) rfl nE (.cons (t := 5) rfl (fun _ _ h_ => h_) (.cons (t := 6) rfl nE (.cons (t := 8) rfl nE .nil)))))) h
          · replace h := h.2 hb_
            refine wp_seq_k fun K51 hK51=>rg (sx 61 (t_eqi (o_t 23 rfl) (o_i (k := .i64) (by decide)) rfl rfl) hL fun a s e_ hL=>?_)
            refine sx 60 (t_assign (o_t 61 rfl) rfl rfl) hL fun a s e_ hL=>en' (hK51 _ _ ?_)
            refine cnd hL rfl (fun hb_ => ?_) (fun hb_ => ?_)
            · replace h := h.1 hb_
              refine wp_seq_k fun K52 hK52=>rg (sx 62 (t_fab (off := 3) (o_t 7 rfl) Tryd.underlying48 rfl (prt_snd (prt_snd (prt_snd (prt_fst (prt_all _ _)) rfl) rfl) rfl) rfl ty3 rfl rfl) hL fun a s e_ hL=>?_)
              refine sx 63 (t_loado ty3 (o_t 62 rfl) rfl rfl) hL fun a s e_ hL=>sx 9 (t_assign (o_t 63 rfl) rfl rfl) hL fun a s e_ hL=>en' (hK52 _ _ ?_)
              refine wp_block ?_
              obtain ⟨k55, h⟩ := h
              refine lpg (fun k56 a s => ∃ (w53 : Int) (t54 : Int), Has N0 96 s0 a s [(1, (Pd.rep (En.int .i64) i_)), (2, (Pd.ptr En.SDesc d_)), (5, (Pd.row (En.int .i64) s0.w.heap.size 3 og12 l11)), (6, (Pd.rep (En.int .i64) k13)), (7, (Pd.box En.SNode s0.w.heap.size g23 e21)), (8, (Pd.rep (En.int .i64) w53)), (9, (Pd.rep (En.int .i64) t54))] ∧ Dis og12 (some g23) ∧ ref08_Ways.l2 l11 e21 (ref08_Ways.j2 (ref08_Ways.l1 d_ i_ (ref08_Ways.j1 i_ r_) k15) l11 k13) k56 w53 t54) k55 ⟨0, e21.2.2.2.1, hL.keep (.cons (t := 1) rfl nE (.cons (t := 2) rfl nE (.cons (t := 5) rfl (fun _ _ h_ => h_) (.cons (t := 6) rfl nE (.cons (t := 7) rfl (fun _ _ h_ => h_) (.cons (t := 8) rfl nE (.cons (t := 9) rfl nE .nil))))))), (Dis.symm d24), h⟩ ?_
              rintro k56 a s ⟨w53, t54, hL, d58, h⟩ KL57 hKL57
              cases k56 with
              | zero => exact h.elim
              | succ k56 =>
              unfold ref08_Ways.l2 at h
              refine wp_seq_k fun K59 hK59=>wp_seq_k fun K60 hK60=>rg (sx 64 (t_move (o_t 9 rfl) rfl rfl) hL fun a s e_ hL=>?_)
              refine sx 65 (t_fab (off := 4) (o_t 7 rfl) Tryd.underlying48 rfl (prt_snd (prt_snd (prt_snd (prt_snd (prt_fst (prt_all _ _)) rfl) rfl) rfl) rfl) rfl ty3 rfl rfl) hL fun a s e_ hL=>sx 66 (t_loado ty3 (o_t 65 rfl) rfl rfl) hL fun a s e_ hL=>sx 67 (t_leq (o_t 64 rfl) (o_t 66 rfl) rfl rfl) hL fun a s e_ hL=>en' (hK60 _ _ ?_)
              refine cnd hL rfl (fun hb_ => ?_) (fun hb_ => ?_)
              · replace h := h.1 hb_
                refine wp_skip ?_
                show K59 a s.w
                refine hK59 _ _ (wp_seq_k fun K61 hK61=>?_)
                refine wp_block (wp_seq_k fun K62 hK62=>?_)
                refine rg (sx 10 (t_assign (o_i (k := .i64) (by decide)) rfl rfl) hL fun a s e_ hL=>?_)
                refine en' (hK62 _ _ ?_)
                refine wp_seq_k fun K63 hK63=>wp_seq_k fun K64 hK64=>rg (sx 11 (t_assign (o_i (k := .i64) (by decide)) rfl rfl) hL fun a s e_ hL=>?_)
                refine en' (hK64 _ _ ?_)
                refine wp_block ?_
                have J66 : ∀ (p65 : Int) (a : Act) (s : St), Has N0 96 s0 a s [(1, (Pd.rep (En.int .i64) i_)), (2, (Pd.ptr En.SDesc d_)), (5, (Pd.row (En.int .i64) s0.w.heap.size 3 og12 l11)), (6, (Pd.rep (En.int .i64) k13)), (7, (Pd.box En.SNode s0.w.heap.size g23 e21)), (8, (Pd.rep (En.int .i64) w53)), (9, (Pd.rep (En.int .i64) t54)), (10, (Pd.rep (En.int .i64) p65))] → Dis og12 (some g23) → ((ref08_Ways.j3 (ref08_Ways.l2 l11 e21 (ref08_Ways.j2 (ref08_Ways.l1 d_ i_ (ref08_Ways.j1 i_ r_) k15) l11 k13) k56) w53 t54) p65) → K63 a s.w := by
                  intro p65 a s hL d67 h
                  unfold ref08_Ways.j3 at h
                  show K63 a s.w
                  refine hK63 _ _ ?_
                  obtain ⟨h68, h⟩ := h
                  refine rg (sx 83 (t_move (o_t 8 rfl) rfl rfl) hL fun a s e_ hL=>?_)
                  refine sx 84 (t_move (o_t 10 rfl) rfl rfl) hL fun a s e_ hL=>sx 85 (t_add (o_t 83 rfl) (o_t 84 rfl) h68 rfl rfl) hL fun a s e_ hL=>sx 86 (t_min (o_i (k := .i64) (by decide)) (o_t 85 rfl) rfl rfl) hL fun a s e_ hL=>sx 8 (t_assign (o_t 86 rfl) rfl rfl) hL fun a s e_ hL=>en' (hK61 _ _ ?_)
                  obtain ⟨h69, h⟩ := h
                  refine rg (sx 68 (t_move (o_t 9 rfl) rfl rfl) hL fun a s e_ hL=>?_)
                  refine sx 69 (t_add (o_t 68 rfl) (o_i (k := .i64) (by decide)) h69 rfl rfl) hL fun a s e_ hL=>sx 9 (t_assign (o_t 69 rfl) rfl rfl) hL fun a s e_ hL=>en' ?_
                  exact hKL57 k56 a s (Nat.lt_succ_self _) ⟨(min 2 (w53 + p65)), (t54 + 1), hL.keep (.cons (t := 1) rfl nE (.cons (t := 2) rfl nE (.cons (t := 5) rfl (fun _ _ h_ => h_) (.cons (t := 6) rfl nE (.cons (t := 7) rfl (fun _ _ h_ => h_) (.cons (t := 8) rfl nE (.cons (t := 9) rfl nE .nil))))))), d67, h⟩
                obtain ⟨k72, h⟩ := h
                refine lpg (fun k73 a s => ∃ (p70 : Int) (m71 : Int), Has N0 96 s0 a s [(1, (Pd.rep (En.int .i64) i_)), (2, (Pd.ptr En.SDesc d_)), (5, (Pd.row (En.int .i64) s0.w.heap.size 3 og12 l11)), (6, (Pd.rep (En.int .i64) k13)), (7, (Pd.box En.SNode s0.w.heap.size g23 e21)), (8, (Pd.rep (En.int .i64) w53)), (9, (Pd.rep (En.int .i64) t54)), (10, (Pd.rep (En.int .i64) p70)), (11, (Pd.rep (En.int .i64) m71))] ∧ Dis og12 (some g23) ∧ ref08_Ways.l3 l11 e21 t54 (ref08_Ways.j3 (ref08_Ways.l2 l11 e21 (ref08_Ways.j2 (ref08_Ways.l1 d_ i_ (ref08_Ways.j1 i_ r_) k15) l11 k13) k56) w53 t54) k73 p70 m71) k72 ⟨1, 0, hL.keep (.cons (t := 1) rfl nE (.cons (t := 2) rfl nE (.cons (t := 5) rfl (fun _ _ h_ => h_) (.cons (t := 6) rfl nE (.cons (t := 7) rfl (fun _ _ h_ => h_) (.cons (t := 8) rfl nE (.cons (t := 9) rfl nE (.cons (t := 10) rfl nE (.cons (t := 11) rfl nE .nil))))))))), d58, h⟩ ?_
                rintro k73 a s ⟨p70, m71, hL, d75, h⟩ KL74 hKL74
                cases k73 with
                | zero => exact h.elim
                | succ k73 =>
                unfold ref08_Ways.l3 at h
                refine wp_seq_k fun K76 hK76=>wp_seq_k fun K77 hK77=>rg (sx 70 (t_move (o_t 11 rfl) rfl rfl) hL fun a s e_ hL=>?_)
                refine sx 71 (t_move (o_t 9 rfl) rfl rfl) hL fun a s e_ hL=>sx 72 (t_lss (o_t 70 rfl) (o_t 71 rfl) rfl rfl) hL fun a s e_ hL=>en' (hK77 _ _ ?_)
                refine cnd hL rfl (fun hb_ => ?_) (fun hb_ => ?_)
                · replace h := h.1 hb_
                  refine wp_skip ?_
                  show K76 a s.w
                  refine hK76 _ _ (wp_seq_k fun K78 hK78=>?_)
                  refine wp_block ?_
                  obtain ⟨e79, h80, h81, h⟩ := h
                  refine rg (sx 75 (t_move (o_t 10 rfl) rfl rfl) hL fun a s e_ hL=>?_)
                  refine sx 76 (t_move (o_t 5 rfl) rfl rfl) hL fun a s e_ hL=>sx 77 (t_fab (off := 1) (o_t 7 rfl) Tryd.underlying48 rfl (prt_snd (prt_fst (prt_all _ _)) rfl) rfl ty3 rfl rfl) hL fun a s e_ hL=>sx 78 (t_loado ty3 (o_t 77 rfl) rfl rfl) hL fun a s e_ hL=>sx 79 (t_idxo (o_t 76 rfl) (o_t 78 rfl) h80 Tryd.underlying82 ty3 rfl rfl) hL fun a s e_ hL=>sx 80 (t_loado ty3 (o_t 79 rfl) rfl rfl) hL fun a s e_ hL=>sx 81 (t_mul (o_t 75 rfl) (o_t 80 rfl) h81 rfl rfl) hL fun a s e_ hL=>sx 82 (t_min (o_i (k := .i64) (by decide)) (o_t 81 rfl) rfl rfl) hL fun a s e_ hL=>sx 10 (t_assign (o_t 82 rfl) rfl rfl) hL fun a s e_ hL=>en' (hK78 _ _ ?_)
                  obtain ⟨h82, h⟩ := h
                  refine rg (sx 73 (t_move (o_t 11 rfl) rfl rfl) hL fun a s e_ hL=>?_)
                  refine sx 74 (t_add (o_t 73 rfl) (o_i (k := .i64) (by decide)) h82 rfl rfl) hL fun a s e_ hL=>sx 11 (t_assign (o_t 74 rfl) rfl rfl) hL fun a s e_ hL=>en' ?_
                  exact hKL74 k73 a s (Nat.lt_succ_self _) ⟨(min 2 (p70 * e79)), (m71 + 1), hL.keep (.cons (t := 1) rfl nE (.cons (t := 2) rfl nE (.cons (t := 5) rfl (fun _ _ h_ => h_) (.cons (t := 6) rfl nE (.cons (t := 7) rfl (fun _ _ h_ => h_) (.cons (t := 8) rfl nE (.cons (t := 9) rfl nE (.cons (t := 10) rfl nE (.cons (t := 11) rfl nE .nil))))))))), d75, h⟩
                · replace h := h.2 hb_
                  refine wp_exit ?_
                  exact J66 p70 a s (hL.keep (.cons (t := 1) rfl nE (.cons (t := 2) rfl nE (.cons (t := 5) rfl (fun _ _ h_ => h_) (.cons (t := 6) rfl nE (.cons (t := 7) rfl (fun _ _ h_ => h_) (.cons (t := 8) rfl nE (.cons (t := 9) rfl nE (.cons (t := 10) rfl nE .nil))))))))) d75 h
              · replace h := h.2 hb_
                refine wp_exit ?_
                exact J30 w53 a s (hL.keep (.cons (t := 1) rfl nE (.cons (t := 2) rfl nE (.cons (t := 5) rfl (fun _ _ h_ => h_) (.cons (t := 6) rfl nE (.cons (t := 8) rfl nE .nil)))))) h
            · replace h := h.2 hb_
              refine wp_skip ?_
              exact J30 0 a s (hL.keep (.cons (t := 1) rfl nE (.cons (t := 2) rfl nE (.cons (t := 5) rfl (fun _ _ h_ => h_) (.cons (t := 6) rfl nE (.cons (t := 8) rfl nE .nil)))))) h
  · replace h := h.2 hb_
    refine wp_exit ?_
    exact J7 l11 og12 a s (hL.keep (.cons (t := 1) rfl nE (.cons (t := 5) rfl (fun _ _ h_ => h_) .nil))) h
theorem ref08_First_ok {d_ : SDesc} {r_ : (Int × Bool)} (h : ref08_First d_ r_) : Fn Tryd.prog 43 [(Pd.rep En.SDesc d_)] (Rq2 (Pd.rep (En.int .i64) r_.1) (Pd.rep En.bool r_.2)) := by
  unfold ref08_First at h
  refine fn_of Tryd.func43 rfl Tryd.ntmps43 (by rfl) (by simp) fun s0 a hL => ?_
  refine wp_seq_k fun K1 hK1=>rg (sx 1 (t_box (o_t 0 rfl) rfl rfl) hL fun a s e_ hL=>?_)
  refine sx 2 (t_assign (o_i (k := .i64) (by decide)) rfl rfl) hL fun a s e_ hL=>sx 3 (t_assign o_b rfl rfl) hL fun a s e_ hL=>en' (hK1 _ _ ?_)
  refine wp_seq_k fun K2 hK2=>wp_seq_k fun K3 hK3=>rg (sx 4 (t_assign (o_i (k := .i64) (by decide)) rfl rfl) hL fun a s e_ hL=>?_)
  refine en' (hK3 _ _ ?_)
  refine wp_block ?_
  have J4 : ∀ (a : Act) (s : St), Has N0 37 s0 a s [] → ((ref08_First.j1 r_)) → K2 a s.w := by
    intro a s hL h
    unfold ref08_First.j1 at h
    show K2 a s.w
    refine hK2 _ _ (wp_seq_k fun K5 hK5=>?_)
    refine rg (sx 2 (t_assign (o_i (k := .i64) (by decide)) rfl rfl) hL fun a s e_ hL=>?_)
    refine sx 3 (t_assign o_b rfl rfl) hL fun a s e_ hL=>en' (hK5 _ _ ?_)
    subst h
    exact wp_ret (ret2 rfl hL rfl rfl)
  obtain ⟨k7, h⟩ := h
  refine lpg (fun k8 a s => ∃ (i6 : Int), Has N0 37 s0 a s [(1, (Pd.ptr En.SDesc d_)), (4, (Pd.rep (En.int .i64) i6))] ∧ ref08_First.l1 d_ r_ (ref08_First.j1 r_) k8 i6) k7 ⟨0, hL.keep (.cons (t := 1) rfl nE (.cons (t := 4) rfl nE .nil)), h⟩ ?_
  rintro k8 a s ⟨i6, hL, h⟩ KL9 hKL9
  cases k8 with
  | zero => exact h.elim
  | succ k8 =>
  unfold ref08_First.l1 at h
  refine wp_seq_k fun K10 hK10=>wp_seq_k fun K11 hK11=>rg (sx 6 (t_move (o_t 4 rfl) rfl rfl) hL fun a s e_ hL=>?_)
  refine sx 7 (t_fa (off := 0) (o_t 1 rfl) Tryd.underlying24 rfl (prt_solo (prt_all _ _)) rfl ty22 rfl rfl) hL fun a s e_ hL=>sx 8 (t_load ty22 (o_t 7 rfl) rfl rfl) hL fun a s e_ hL=>sx 9 (t_len (o_t 8 rfl) Tryd.underlying22 rfl rfl) hL fun a s e_ hL=>sx 10 (t_lss (o_t 6 rfl) (o_t 9 rfl) rfl rfl) hL fun a s e_ hL=>en' (hK11 _ _ ?_)
  refine cnd hL rfl (fun hb_ => ?_) (fun hb_ => ?_)
  · replace h := h.1 hb_
    refine wp_skip ?_
    show K10 a s.w
    refine hK10 _ _ (wp_seq_k fun K12 hK12=>?_)
    refine wp_block (wp_seq_k fun K13 hK13=>?_)
    obtain ⟨e14, h15, h⟩ := h
    refine rg (sx 13 (t_fa (off := 0) (o_t 1 rfl) Tryd.underlying24 rfl (prt_solo (prt_all _ _)) rfl ty22 rfl rfl) hL fun a s e_ hL=>?_)
    refine sx 14 (t_load ty22 (o_t 13 rfl) rfl rfl) hL fun a s e_ hL=>sx 15 (t_move (o_t 4 rfl) rfl rfl) hL fun a s e_ hL=>sx 16 (t_idx (o_t 14 rfl) (o_t 15 rfl) h15 Tryd.underlying22 ty48 rfl rfl) hL fun a s e_ hL=>sx 17 (t_fa (off := 0) (o_t 16 rfl) Tryd.underlying48 rfl (prt_fst (prt_all _ _)) rfl ty3 rfl rfl) hL fun a s e_ hL=>sx 18 (t_load ty3 (o_t 17 rfl) rfl rfl) hL fun a s e_ hL=>sx 5 (t_assign (o_t 18 rfl) rfl rfl) hL fun a s e_ hL=>en' (hK13 _ _ ?_)
    refine wp_seq_k fun K16 hK16=>?_
    obtain ⟨e17, h18, r19, h20, h⟩ := h
    refine rda follows 17 [(Pd.rep (En.int .i64) e14.1), (Pd.rep En.bool (e14.1 == 6)), (Pd.rep En.bool (e14.1 == 6)), (Pd.when (((e14.1 == 6)) = false) (Pd.rep (En.int .i64) e14.1)), (Pd.when (((e14.1 == 6)) = false) (Pd.rep En.bool (e14.1 == 7))), (Pd.rep En.bool ((e14.1 == 6) || (e14.1 == 7))), (Pd.rep En.bool ((e14.1 == 6) || (e14.1 == 7))), (Pd.when ((((e14.1 == 6) || (e14.1 == 7))) = true) (Pd.rep En.SDesc d_)), (Pd.when ((((e14.1 == 6) || (e14.1 == 7))) = true) (Pd.ptr (En.slice En.SNode) d_)), (Pd.when ((((e14.1 == 6) || (e14.1 == 7))) = true) (Pd.rep (En.slice En.SNode) d_)), (Pd.when ((((e14.1 == 6) || (e14.1 == 7))) = true) (Pd.rep (En.int .i64) i6)), (Pd.when ((((e14.1 == 6) || (e14.1 == 7))) = true) (Pd.ptr En.SNode e17)), (Pd.when ((((e14.1 == 6) || (e14.1 == 7))) = true) (Pd.ptr (En.int .i64) e17.2.1)), (Pd.when ((((e14.1 == 6) || (e14.1 == 7))) = true) (Pd.rep (En.int .i64) e17.2.1)), (Pd.when ((((e14.1 == 6) || (e14.1 == 7))) = true) (Pd.rep (En.int .i64) r19)), (Pd.when ((((e14.1 == 6) || (e14.1 == 7))) = true) (Pd.rep En.bool (r19 != 0))), (Pd.rep En.bool (((e14.1 == 6) || (e14.1 == 7)) && (r19 != 0)))] hL (by kernel_rfl) rfl rfl ?_ ?_
    · refine AllT.cons (t_move (o_t 5 rfl) rfl rfl) ?_
      refine AllT.cons (t_eqi (o_t 19 rfl) (o_i (k := .i64) (by decide)) rfl rfl) (AllT.cons (t_move (o_t 20 rfl) rfl rfl) ?_)
      refine AllT.cons (t_g1 rfl rfl rfl (fun hc_ => t_move (o_t 5 rfl) rfl rfl)) (AllT.cons (t_g1 rfl rfl rfl (fun hc_ => t_eqi (o_w hc_ 22 rfl) (o_i (k := .i64) (by decide)) rfl rfl)) ?_)
      refine AllT.cons (t_or (o_t 21 rfl) (fun hc2_ => (o_w hc2_ 23 rfl)) rfl rfl) (AllT.cons (t_move (o_t 24 rfl) rfl rfl) ?_)
      refine AllT.cons (t_g1 rfl rfl rfl (fun hc_ => t_load ty24 (o_t 1 rfl) rfl rfl)) (AllT.cons (t_g1 rfl rfl rfl (fun hc_ => t_fa (off := 0) (o_t 1 rfl) Tryd.underlying24 rfl (prt_solo (prt_all _ _)) rfl ty22 rfl rfl)) ?_)
      refine AllT.cons (t_g1 rfl rfl rfl (fun hc_ => t_load ty22 (o_w hc_ 27 rfl) rfl rfl)) (AllT.cons (t_g1 rfl rfl rfl (fun hc_ => t_move (o_t 4 rfl) rfl rfl)) ?_)
      refine AllT.cons (t_g1 rfl rfl rfl (fun hc_ => t_idx (o_w hc_ 28 rfl) (o_w hc_ 29 rfl) (h18 hc_) Tryd.underlying22 ty48 rfl rfl)) (AllT.cons (t_g1 rfl rfl rfl (fun hc_ => t_fa (off := 1) (o_w hc_ 30 rfl) Tryd.underlying48 rfl (prt_snd (prt_fst (prt_all _ _)) rfl) rfl ty3 rfl rfl)) ?_)
      refine AllT.cons (t_g1 rfl rfl rfl (fun hc_ => t_load ty3 (o_w hc_ 31 rfl) rfl rfl)) (AllT.cons (t_g1 rfl rfl rfl (fun hc_ => t_call (ref08_Ways_ok (h20 hc_)) (xs := [.tmp 26, .tmp 32]) (.cons (o_w hc_ 26 rfl) (.cons (o_w hc_ 32 rfl) .nil)) rfl rfl)) ?_)
      refine AllT.cons (t_g1 rfl rfl rfl (fun hc_ => t_nei (o_w hc_ 33 rfl) (o_i (k := .i64) (by decide)) rfl rfl)) (AllT.cons (t_and (o_t 25 rfl) (fun hc2_ => (o_w hc2_ 34 rfl)) rfl rfl) ?_)
      exact AllT.nil
    intro a s e_ hL
    refine en' (hK16 _ _ ?_)
    refine cnd hL rfl (fun hb_ => ?_) (fun hb_ => ?_)
    · replace h := h.1 hb_
      refine wp_seq_k fun K21 hK21=>rg (sx 36 (t_move (o_t 4 rfl) rfl rfl) hL fun a s e_ hL=>?_)
      refine sx 2 (t_assign (o_t 36 rfl) rfl rfl) hL fun a s e_ hL=>sx 3 (t_assign o_b rfl rfl) hL fun a s e_ hL=>en' (hK21 _ _ ?_)
      subst h
      exact wp_ret (ret2 rfl hL rfl rfl)
    · replace h := h.2 hb_
      refine wp_skip ?_
      show K12 a s.w
      refine hK12 _ _ ?_
      obtain ⟨h22, h⟩ := h
      refine rg (sx 11 (t_move (o_t 4 rfl) rfl rfl) hL fun a s e_ hL=>?_)
      refine sx 12 (t_add (o_t 11 rfl) (o_i (k := .i64) (by decide)) h22 rfl rfl) hL fun a s e_ hL=>sx 4 (t_assign (o_t 12 rfl) rfl rfl) hL fun a s e_ hL=>en' ?_
      exact hKL9 k8 a s (Nat.lt_succ_self _) ⟨(i6 + 1), hL.keep (.cons (t := 1) rfl nE (.cons (t := 4) rfl nE .nil)), h⟩
  · replace h := h.2 hb_
    refine wp_exit ?_
    exact J4 a s (hL.keep .nil) h
theorem ref08_Right_ok {d_ : SDesc} {r_ : Bool} (h : ref08_Right d_ r_) : Fn Tryd.prog 14 [(Pd.rep En.SDesc d_)] (Rq (Pd.rep En.bool r_)) := by
  unfold ref08_Right at h
  refine fn_of Tryd.func14 rfl Tryd.ntmps14 (by rfl) (by simp) fun s0 a hL => ?_
  refine wp_seq_k fun K1 hK1=>rg (sx 1 (t_box (o_t 0 rfl) rfl rfl) hL fun a s e_ hL=>?_)
  refine sx 2 (t_assign o_b rfl rfl) hL fun a s e_ hL=>en' (hK1 _ _ ?_)
  refine wp_seq_k fun K2 hK2=>wp_seq_k fun K3 hK3=>?_
  obtain ⟨r4, h5, h⟩ := h
  refine rg (sx 5 (t_load ty24 (o_t 1 rfl) rfl rfl) hL fun a s e_ hL=>?_)
  refine sx 6 (t_call (ref04_Form_ok h5) (xs := [.tmp 5]) (.cons (o_t 5 rfl) .nil) rfl rfl) hL fun a s e_ hL=>sx 7 (t_not (o_t 6 rfl) rfl rfl) hL fun a s e_ hL=>en' (hK3 _ _ ?_)
  refine cnd hL rfl (fun hb_ => ?_) (fun hb_ => ?_)
  · replace h := h.1 hb_
    refine wp_seq_k fun K6 hK6=>rg (sx 2 (t_assign o_b rfl rfl) hL fun a s e_ hL=>?_)
    refine en' (hK6 _ _ ?_)
    subst h
    exact wp_ret (retq rfl hL rfl)
  · replace h := h.2 hb_
    refine wp_skip ?_
    show K2 a s.w
    refine hK2 _ _ (wp_seq_k fun K7 hK7=>?_)
    obtain ⟨r8, h9, h⟩ := h
    refine rg (sx 9 (t_load ty24 (o_t 1 rfl) rfl rfl) hL fun a s e_ hL=>?_)
    refine sx 10 (t_call ((ref08_First_ok h9).tup) (xs := [.tmp 9]) (.cons (o_t 9 rfl) .nil) rfl rfl) hL fun a s e_ hL=>sx 8 (t_move (o_t 10 rfl) rfl rfl) hL fun a s e_ hL=>sx 11 (t_ext0 (o_t 8 rfl) rfl rfl) hL fun a s e_ hL=>sx 12 (t_ext1 (o_t 8 rfl) rfl rfl) hL fun a s e_ hL=>sx 3 (t_assign (o_t 11 rfl) rfl rfl) hL fun a s e_ hL=>sx 4 (t_assign (o_t 12 rfl) rfl rfl) hL fun a s e_ hL=>en' (hK7 _ _ ?_)
    refine wp_seq_k fun K10 hK10=>rg (sx 13 (t_move (o_t 4 rfl) rfl rfl) hL fun a s e_ hL=>?_)
    refine sx 14 (t_not (o_t 13 rfl) rfl rfl) hL fun a s e_ hL=>sx 2 (t_assign (o_t 14 rfl) rfl rfl) hL fun a s e_ hL=>en' (hK10 _ _ ?_)
    subst h
    exact wp_ret (retq rfl hL rfl)
end Go.Proofs.YtdidjelkkanenaaDoor.V
