/-
  The texts that the law's proof needs, part 2.
-/
import Derived.BigCall
import Derived.DeepKeys3
import Derived.Lib.AppendIntMem
import Derived.Lib.ItoaLen
import Derived.Lib.ItoaNum
import Derived.Shelf.LaysM
import Derived.Shelf.SlLaysF
import Derived.Shelf.SlLaysF0
import Derived.Shelf.Strconv.Itoa3
import Derived.Shelf.Strings.BuilderK
import Derived.WalkKit
import Derived.Test.YtahgmdbioafmbaaGreatDoorSetsOnceP1
namespace Go.Proofs.YtahgmdbioafmbaaGreatDoor.V
open Go Go.MapKept
set_option linter.unusedVariables false
theorem y_from {P : Program} {o : Oper} {L : Lst} {α : Type} {E : En α} {xs : List α} {k : IntKind} {i : Int} {y z : Operand} {t te : TypeId} (hy : Opn L y (Pd.rep (En.slice E) xs)) (hz : Opn L z (Pd.rep (En.int k) i)) (hi : 0 ≤ i ∧ i ≤ (xs.length : Int)) (ht : P.underlying t = some (.slice te)) (hE : Ty P te E)
  (ho : o.op = .slice t y (some z) none none) (hg : o.guard = none) : TY P o L (Pd.rep (En.slice E) (xs.drop i.toNat)):=
 ⟨hg,fun M n s0 ac s hL=>by
  obtain ⟨ad,cap,hv,h1,h2,h3,h4⟩:=rep_slice.1 (hy M n s0 ac s hL)
  have hiv:=(rep_int.1 (hz M n s0 ac s hL)).1
  refine ⟨.slice (if cap = i.toNat then ad else ad.map (·.add (i.toNat * E.sz))) (xs.length - i.toNat) (cap - i.toNat),fun w=>?_,rep_slice.2 ⟨_,_,by rw [List.length_drop],by rw [List.length_drop]; omega,fun hn=>?_,by rw [List.length_drop]; omega,fun hne=>?_⟩⟩
  ·unfold execOp; rw [ho]
   simp only [hv,hiv,Option.map_some,Option.map_none,Instr.sliceAt,Sem.run_bind,run_underlying ht,Result.andThen_ok,Instr.slice,Instr.sliceBounds,Instr.sliceBound,asIntOf,Sem.run_pure]
   rw [if_pos (by omega)]
   simp [run_sizeOfE hE]
  ·split at hn
   ·omega
   ·cases ad with
    | none=>have:=h2 rfl; omega
    | some a=>cases hn
  ·have hlt : i.toNat < xs.length:=by
    rcases Nat.lt_or_ge i.toNat xs.length with h | h
    ·exact h
    ·exact absurd (List.drop_of_length_le h) hne
   obtain ⟨b,off,css,e1,hb,hEl,hc⟩:=h4 (by intro h; rw [h] at hlt; simp at hlt)
   refine ⟨b,off + i.toNat * E.sz,css.drop i.toNat, ?_,hb,els_drop hEl _, ?_⟩
   ·rw [if_neg (by omega),e1]; simp [add_lit]
   ·intro j u hu
    rw [flat_drop hEl.lens _ (by rw [hEl.1]; omega),List.getElem?_drop] at hu
    rw [Nat.add_assoc]; exact hc _ u hu⟩
theorem t_gidxb {P : Program} {ops : Array Oper} {o : Oper} {L : Lst} {g : Nat} {xs : List Bool} {b : Bool} {k : IntKind} {i : Int} {y : Operand} {t te : TypeId} {n : Nat} (hm : (g,xs.map Value.bool) ∈ gtab) (hn : xs.length = n) (hy : Opn L y (Pd.rep (En.int k) i)) (he : at? xs i = some b)
  (ht : P.underlying t = some (.array n te)) (hi : (P.info? te).map (·.size) = some 1) (ho : o.op = .indexAddr t (.global g) y) (hg : o.guard = none) : T P ops o L (Pd.ptr En.bool b):=
 T.pure hg fun M n0 s0 ac s hL=>by
  have hi':=(rep_int.1 (hy M n0 s0 ac s hL)).1
  obtain ⟨hX,tt,fr,hb⟩:=hL.gls.1 _ hm
  simp only at hX hb
  unfold at? at he
  split at he
  case isFalse=>cases he
  rename_i h0
  have hlt : i.toNat < xs.length:=(List.getElem?_eq_some_iff.1 he).1
  obtain ⟨inf,h1,h2⟩ : ∃ i,P.info? te = some i ∧ i.size = 1:=by
   cases h : P.info? te with
   | none=>rw [h] at hi; cases hi
   | some i=>rw [h] at hi; exact ⟨i,rfl,by simpa using hi⟩
  have hsz : ∀ w : World,(sizeOf te).run P w = .ok 1 w:=fun w=>by simp [sizeOf,typeInfo,h1,h2]
  refine ⟨.pointer (some ⟨g,i.toNat,none⟩), ?_,g,i.toNat,[.bool b],rfl,⟨(Array.getElem?_eq_some_iff.1 hb).1,hX⟩, ?_,rfl⟩
  ·unfold execOp; rw [ho]
   have hgv : ac.eval (.global g) = .pointer (some ⟨g,0,none⟩):=rfl
   simp only [hgv,hi',Instr.indexAt,asIntOf,Sem.run_bind,Sem.run_pure,Result.andThen_ok,run_underlying ht,Instr.sureAddr]
   rw [if_pos (by omega)]
   simp [hsz,add_lit]
  ·intro j u hj
   cases j with
   | zero=>
    simp at hj; subst hj
    rw [Nat.add_zero,cell_of_row s.w g _ _ tt fr hb]
    simp [List.getElem?_map,he]
   | succ j=>simp at hj
def En.mref : En (Option Nat) where
 sz:=1
 agg:=false
 R:=fun _ _ cs x=>cs = [.map x]
 sc:=fun _=>rfl
 pos:=Nat.one_pos
 len:=by rintro _ _ _ _ rfl; rfl
 one:=by rintro _ _ _ _ rfl u hu; simp at hu; subst hu; rfl
 mono:=fun _ h=>h
 move:=fun _ h=>h
theorem rep_mref {x : Option Nat} {s : St} {v : Value} : (Pd.rep En.mref x).p s v ↔ v = .map x:=
 ⟨fun ⟨_,hv,hc⟩=>by cases hc; exact hv,fun hv=>⟨[.map x],hv,rfl⟩⟩
section
variable {κ ν : Type} {K : En κ} {kv : κ → Value} {E : En ν}
def Mc (K : En κ) (kv : κ → Value) (E : En ν) (g : Nat) (xs : List (κ × ν)) (s : St) : Prop:=s.X g ∧ ∃ es clock ys,s.w.heap[g]? = some (.map es clock) ∧ MpR K kv E s.w (foot s) es clock ys ∧ ys.Perm xs
theorem Mc.mv {g : Nat} {xs : List (κ × ν)} {T : Nat → Prop} {s s' : St} (h : Mv T s s') (hb : ¬ T g ∧ (s.X g → s'.X g)) (hp : Mc K kv E g xs s) : Mc K kv E g xs s':=by
 obtain ⟨hX,es,clock,ys,hg,hM,hpm⟩:=hp
 refine ⟨hb.2 hX,es,clock,ys, ?_,hM.go h,hpm⟩
 rw [h.blk g (Array.getElem?_eq_some_iff.1 hg).1 hb.1]; exact hg
def Pd.mapc (K : En κ) (kv : κ → Value) (E : En ν) (g : Nat) (xs : List (κ × ν)) : Pd:=⟨fun s _=>Mc K kv E g xs s,fun b=>some g = some b,fun h hb hp=>hp.mv h (hb g rfl)⟩
theorem Has.mapc {M : Nat → Prop} {n : Nat} {s0 : St} {a : Act} {s : St} {L : Lst} {N g : Nat} {xs : List (κ × ν)} (h : Has M n s0 a s L) (t m : Nat) (hl : lk L t = some (Pd.map K kv E N (some g) xs)) : Has M n s0 a s ((t,Pd.rep En.mref (some g)) :: (m,Pd.mapc K kv E g xs) :: L):=by
 obtain ⟨g',e,hv,hN,hX,es,clock,ys,hg,hM,hp⟩:=h.get t hl
 cases e
 exact (h.cons (q:=Pd.mapc K kv E g xs) m ⟨hX,es,clock,ys,hg,hM,hp⟩).cons t (rep_mref.2 hv)
theorem Mc.map {g N : Nat} {xs : List (κ × ν)} {s : St} (h : Mc K kv E g xs s) (hN : N ≤ g) : (Pd.map K kv E N (some g) xs).p s (.map (some g)):=by
 obtain ⟨hX,es,clock,ys,hg,hM,hp⟩:=h
 exact ⟨g,rfl,rfl,hN,hX,es,clock,ys,hg,hM,hp⟩
end
section
variable {κ ν : Type} [DecidableEq κ] {K : En κ} {kv : κ → Value} {E : En ν} {P : Program} {ops : Array Oper} {o : Oper} {L L' : Lst} {t kt et : TypeId} {g : Nat} {Q : Exit → Act → World → Prop} {rest : List Oper} {M : Nat → Prop} {n : Nat} {s0 : St} {a : Act} {s : St}
theorem t_mgetcok {m : Nat} {xs : List (κ × ν)} {k : κ} {z : ν} {x y : Operand} (hm : lk L m = some (Pd.mapc K kv E g xs)) (hx : Opn L x (Pd.rep En.mref (some g))) (hy : Opn L y (Pd.rep K k)) (ht : P.underlying t = some (.map kt et)) (hK : KeyT P kt K kv) (hz : TyV P et E z)
  (ho : o.op = .lookup t x y true) (hg : o.guard = none) : T P ops o L (Pd.tup2 (Pd.rep E (mget xs k z)) (Pd.rep En.bool (mhas xs k))):=
 T.pure hg fun M n s0 a s hL=>by
  obtain ⟨hX,es,clock,ys,hgb,hM,hp⟩:=hL.get m hm
  have hv:=rep_mref.1 (hx M n s0 a s hL)
  obtain ⟨cs,hkv,hkR⟩:=hy M n s0 a s hL
  rw [hK.val hkR] at hkv
  obtain ⟨i,zc,hz1,hz2,hz3⟩:=hz.zero
  have hzr : (zeroValue et).run P s.w = .ok (E.val zc) s.w:=by simp [zeroValue,typeInfo,hz1,hz2]
  rcases hM.look hK k with ⟨h1,h2⟩ | ⟨j,e,v,cs',h1,h2,h3,h4,h5⟩
  ·rw [mhas_perm hp] at h2
   refine ⟨.tuple #[E.val zc,.bool (mhas xs k)], ?_,_,_,rfl,⟨zc,rfl,by rw [mget_no h2]; exact hz3 _ _⟩,rep_bool.2 rfl⟩
   unfold execOp; rw [ho]
   simp only [hv,hkv]
   simp [Instr.lookup,run_underlying ht,Go.MapKept.run_getObj_map hgb,hK.check,h1,hzr,h2,Result.andThen]
  ·rw [mhas_perm hp] at h2
   refine ⟨.tuple #[e.val,.bool (mhas xs k)], ?_,_,_,rfl,⟨cs',h4,by rw [← mget_perm (hM.kn hK) hp,h3]; exact h5⟩,rep_bool.2 rfl⟩
   unfold execOp; rw [ho]
   simp only [hv,hkv]
   simp [Instr.lookup,run_underlying ht,Go.MapKept.run_getObj_map hgb,hK.check,h1,h2,Result.andThen]
theorem st_mputc {m : Nat} {xs : List (κ × ν)} {k : κ} {v1 : ν} {x y z : Operand} (hL : Has M n s0 a s L) (hm : lk L m = some (Pd.mapc K kv E g xs)) (hMg : M g ∨ s0.w.heap.size ≤ g) (hx : Opn L x (Pd.rep En.mref (some g))) (hy : Opn L y (Pd.rep K k)) (hz : Opn L z (Pd.rep E v1))
  (ht : P.underlying t = some (.map kt et)) (hK : KeyT P kt K kv) (ho : o.op = .mapUpdate t x y z ∨ o.op = .insert t x y z) (hg : o.guard = none) (hd : o.dst = none)
  (hk : Kp (fun b=>some g = some b) L L') (kk : ∀ s',Has M n s0 a s' ((m,Pd.mapc K kv E g (mput xs k v1)) :: L') → wpList P ops Q rest a s'.w) : wpList P ops Q (o :: rest) a s.w:=by
 have hxv : (Pd.map K kv E 0 (some g) xs).p s (.map (some g)):=(hL.get m hm : Mc K kv E g xs s).map (Nat.zero_le _)
 have hv:=rep_mref.1 (hx M n s0 a s hL)
 obtain ⟨s',hr,hE,hXX,hp⟩:=run_mput (P:=P) hxv (hy M n s0 a s hL) (hz M n s0 a s hL) ht hK
 refine wpList_plain hg fun K' hK'=>?_
 unfold Oper.wp execOp
 have h2 : wpList P ops Q rest a s'.w:=by
  refine kk s' ((hL.efg hE (fun b hb=>by cases hb; exact hMg) (fun b _ hb=>hXX b hb) hk).cons m ?_)
  obtain ⟨g',e,_,_,hX,es,clock,ys,hg,hM,hp⟩:=hp
  cases e
  exact ⟨hX,es,clock,ys,hg,hM,hp⟩
 rcases ho with ho | ho
 all_goals
  simp only [ho,hv,Sem.run_bind,hr,Result.andThen_ok,Sem.run_pure]
  refine hK' _ _ ?_
  simp only [hd]
  exact h2
end
structure Fc {κ ν ι : Type} (P : Program) (f : FuncId) (K : En κ) (kv : κ → Value) (E : En ν) (g : Nat) (xs : List (κ × ν)) (qs : List Pd) (Q : ι → Prop) (q : ι → Pd) (ys : ι → List (κ × ν)) : Prop where
 call : ∀ (args : Array Value) (w : World),(callFunc f args).run P w = .ok (.enter f args) w
 run : ∀ s vs,Gl s → Mc K kv E g xs s → Vals s qs vs → Calls P f vs.toArray s.w fun e w'=>∃ v s' i,e = .returned v ∧ s'.w = w' ∧ Fr (fun b=>some g = some b) s s' ∧ Q i ∧ (q i).p s' v ∧ Mc K kv E g (ys i) s'
section
variable {κ ν ι : Type} {K : En κ} {kv : κ → Value} {E : En ν} {Qi : ι → Prop} {q : ι → Pd} {ys : ι → List (κ × ν)}
def Rc (K : En κ) (kv : κ → Value) (E : En ν) (g : Nat) (Qi : ι → Prop) (q : ι → Pd) (ys : ι → List (κ × ν)) : St → St → Value → Prop:=fun _ s' v=>∃ i,Qi i ∧ (q i).p s' v ∧ Mc K kv E g (ys i) s'
theorem fc_of {P : Program} {f : FuncId} {fn : Func} {cd : Code} {n g : Nat} {qs : List Pd} {xs : List (κ × ν)} (hf : P.funcs[f]? = some fn) (hb : fn.body = some cd) (hn : fn.ntmps = n) (hm : (fn.name == "runtime.NumGoroutine") = false) (hq : qs.length ≤ n)
  (h : ∀ s0 a,Has (fun b=>some g = some b) n s0 a s0 ((999902,Pd.mapc K kv E g xs) :: num 0 qs) → cd.wp P (bodyPost P fn (Pst (fun b=>some g = some b) (Rc K kv E g Qi q ys) s0)) a s0.w) : Fc P f K kv E g xs qs Qi q ys where
 call:=fun args w=>by
  have hm' : ¬ fn.name = "runtime.NumGoroutine":=by simpa using hm
  simp [callFunc,hf,hm',hb]
 run:=fun s vs hg hgh hv=>by
  have hl:=vals_len hv
  have h0 : Has (fun b=>some g = some b) n s { tmps:=vs.toArray ++ Array.replicate (fn.ntmps - vs.toArray.size) undef,defers:=[] } s (num 0 qs):=by
   refine ⟨?_,rfl,Fr.refl (fun b hb=>by cases hb; exact hgh.1),hg,fun t q ht=>?_⟩
   ·simp [hn,hl]; omega
   ·obtain ⟨v,_,h2,h3⟩:=num_vals hv 0 t q ht
    have : (({ tmps:=vs.toArray ++ Array.replicate (fn.ntmps - vs.toArray.size) undef,defers:=[] } : Act).eval (.tmp t)) = v:=by
     simp only [Nat.sub_zero] at h2
     have hlt : t < vs.length:=(List.getElem?_eq_some_iff.1 h2).1
     simp only [Act.eval]
     rw [Array.getD_eq_getD_getElem?,Array.getElem?_append_left (by simpa using hlt)]
     simp [h2]
    rw [this]; exact h3
  refine (calls_of_wp hf hb (h s _ (h0.cons 999902 hgh))).mono ?_
  rintro e w' ⟨v,s',he,hw,hfr,i,h1,h2,h3⟩
  exact ⟨v,s',i,he,hw,hfr,h1,h2,h3⟩
section
variable {P : Program} {ops : Array Oper} {o : Oper} {L L' : Lst} {Q : Exit → Act → World → Prop} {rest : List Oper} {M : Nat → Prop} {n : Nat} {s0 : St} {a : Act} {s : St} {g : Nat}
theorem retc {fn : Func} {t : Nat} (i : ι) (hQ : Qi i) (hr : fn.results = #[.tmp t]) (hL : Has M n s0 a s L) (hl : lk L t = some (q i)) (hm : lk L 999902 = some (Pd.mapc K kv E g (ys i))) : bodyPost P fn (Pst M (Rc K kv E g Qi q ys) s0) .ret a s.w:=
 ret1 hr hL ⟨i,hQ,hL.get t hl,hL.get 999902 hm⟩
theorem st_callc {f : FuncId} {zs : List Operand} {qs : List Pd} {ats : Array TypeId} {xs : List (κ × ν)} (d m : Nat) (hL : Has M n s0 a s L) (hf : Fc P f K kv E g xs qs Qi q ys) (hm : lk L m = some (Pd.mapc K kv E g xs)) (hMg : M g ∨ s0.w.heap.size ≤ g) (hx : Opns L zs qs)
  (ho : o.op = .call { callee:=.value (.func f),args:=zs.toArray,argTypes:=ats }) (hg : o.guard = none) (hd : o.dst = some d) (hn : Nat.blt d n = true) (hk : Kp (fun b=>some g = some b) L L')
  (k : ∀ a' s' i,Qi i → Has M n s0 a' s' ((d,q i) :: (m,Pd.mapc K kv E g (ys i)) :: L') → wpList P ops Q rest a' s'.w) : wpList P ops Q (o :: rest) a s.w:=by
 have hcall:=hf.call (zs.map a.eval).toArray s.w
 have e : (execOp a.eval o).run P s.w = .ok (.enter f (zs.map a.eval).toArray) s.w:=by
  have e : execOp a.eval o = callFunc f (#[] ++ (zs.toArray).map a.eval ++ #[]):=by unfold execOp; rw [ho]; rfl
  rw [e]; simpa using hcall
 refine wpList_plain hg fun K hK=>?_
 unfold Oper.wp
 rw [e,Oper.upon_enter]
 refine (hf.run s _ hL.gls (hL.get m hm) (hx.vals hL)).mono fun en w' ⟨v,s',i,he,hw,hfr,hQ,hp,hmc⟩=>?_
 subst he; subst hw
 refine hK _ _ ?_
 rw [hd]
 have hE : Ef (fun b=>some g = some b) s s':=⟨hfr.mv,fun b hb _=>hfr.keep b hb⟩
 exact k _ s' i hQ (((hL.efg hE (fun b hb=>by cases hb; exact hMg) (fun b _ hb=>hfr.keep b hb) hk).cons m hmc).put' hn hp)
theorem t_nc {q : Pd} {x : Operand} (hx : Opn L x q) (hp : ∀ s v,q.p s v → ∃ p,v = .pointer (some p)) (ho : o.op = .nilCheck x) (hg : o.guard = none) : T P ops o L q:=
 T.pure hg fun M n s0 a s hL=>by
  have h:=hx M n s0 a s hL
  obtain ⟨p,hv⟩:=hp _ _ h
  refine ⟨a.eval x, ?_,h⟩
  unfold execOp; rw [ho]
  simp [hv]
theorem ptr_some {α : Type} {E : En α} {x : α} : ∀ s v,(Pd.ptr E x).p s v → ∃ p,v = .pointer (some p):=fun s v ⟨b,o,cs,hv,_⟩=>⟨_,hv⟩
end
end
def remL {ν : Type} (es : List MapEntry) (seen : Array Nat) (ys : List ν) : List ν:=((es.zip ys).filter (fun q=>!seen.contains q.1.born)).map (·.2)
theorem rem_perm {ν : Type} (seen : Array Nat) : ∀ (es : List MapEntry) (ys : List ν) (i : Nat) (e : MapEntry) (p : ν),(es.map (·.born)).Nodup → es[i]? = some e → ys[i]? = some p → seen.contains e.born = false → (remL es seen ys).Perm (p :: remL es (seen.push e.born) ys)
 | [],_,i,e,p,_,h,_,_=>by simp at h
 | _ :: _,[],i,e,p,_,_,h,_=>by simp at h
 | e0 :: es,y0 :: ys,i,e,p,hn,he,hp,hs=>by
  rw [List.map_cons,List.nodup_cons] at hn
  have hc : ∀ (b : Nat),(seen.push e.born).contains b = (seen.contains b || b == e.born):=fun b=>by
   rw [Bool.eq_iff_iff]; simp
  cases i with
  | zero=>
   simp at he hp
   subst he; subst hp
   have h1 : remL es (seen.push e0.born) ys = remL es seen ys:=by
    unfold remL
    congr 1
    apply List.filter_congr
    intro q hq
    have : q.1.born ≠ e0.born:=fun h=>hn.1 (by rw [← h]; exact List.mem_map_of_mem (List.of_mem_zip hq).1)
    simp [this]
   unfold remL at h1 ⊢
   simp only [List.zip_cons_cons,List.filter_cons,hs,hc,Bool.not_false,if_true,beq_self_eq_true,Bool.or_true,Bool.not_true]
   simp only [List.map_cons]
   simp only [hc] at h1
   rw [if_neg (by simp),h1]
  | succ i=>
   simp at he hp
   have ih:=rem_perm seen es ys i e p hn.2 he hp hs
   have hne : e0.born ≠ e.born:=fun h=>hn.1 (by rw [h]; exact List.mem_map_of_mem (List.mem_of_getElem? he))
   unfold remL at ih ⊢
   simp only [List.zip_cons_cons,List.filter_cons,hc]
   have hb : (e0.born == e.born) = false:=by simpa using hne
   simp only [hb,Bool.or_false]
   simp only [hc] at ih
   split
   ·simp only [List.map_cons]
    exact (ih.cons _).trans (List.Perm.swap _ _ _)
   ·exact ih
section
variable {κ ν : Type} {K : En κ} {kv : κ → Value} {E : En ν}
def Pd.iter (K : En κ) (kv : κ → Value) (E : En ν) (N g : Nat) (rem : List (κ × ν)) (cur : Option (κ × ν)) : Pd:=
 ⟨fun s v=>v = .pointer (some ⟨g,0,none⟩) ∧ N ≤ g ∧ s.X g ∧ ((∃ a seen b,s.w.heap[g]? = some (.mapIter none a seen b) ∧ rem = [] ∧ cur = none) ∨
   ∃ bm since seen c0 es clock ys,s.w.heap[g]? = some (.mapIter (some bm) since seen c0) ∧ foot s bm ∧ s.w.heap[bm]? = some (.map es clock) ∧ MpR K kv E s.w (foot s) es clock ys ∧ since ≤ c0 ∧ since ≤ clock ∧ (∀ e ∈ es.toList,e.born < since) ∧ (remL es.toList seen ys).Perm rem ∧
    ∀ p,cur = some p → ∃ (i : Nat) (e : MapEntry) (seen' : Array Nat),es.toList[i]? = some e ∧ ys[i]? = some p ∧ seen = seen'.push e.born ∧ c0 = clock),fun b=>some g = some b,
  by
   rintro T s s' v h hb ⟨hv,hN,hX,hr⟩
   refine ⟨hv,hN,(hb g rfl).2 hX, ?_⟩
   rcases hr with ⟨a,seen,b,hg,h1,h2⟩ | ⟨bm,since,seen,c0,es,clock,ys,hg,hf,hbm,hM,h1,h2,h3,h4,h5⟩
   ·refine .inl ⟨a,seen,b, ?_,h1,h2⟩
    rw [h.blk g (Array.getElem?_eq_some_iff.1 hg).1 (hb g rfl).1]; exact hg
   ·refine .inr ⟨bm,since,seen,c0,es,clock,ys, ?_,⟨Nat.lt_of_lt_of_le hf.1 h.size,fun hx=>(h.xx bm hx).elim hf.2 (fun hk=>by have:=hf.1; omega)⟩, ?_,hM.go h,h1,h2,h3,h4,h5⟩
    ·rw [h.blk g (Array.getElem?_eq_some_iff.1 hg).1 (hb g rfl).1]; exact hg
    ·rw [h.blk bm hf.1 (fun ht=>hf.2 (h.tx bm ht))]; exact hbm⟩
def Pd.nx (b : Bool) : Pd:=⟨fun _ v=>∃ l : Array Value,v = .tuple l ∧ l[0]? = some (.bool b),fun _=>False,fun _ _ h=>h⟩
section
variable {P : Program} {ops : Array Oper} {o : Oper} {L L' : Lst} {Q : Exit → Act → World → Prop} {rest : List Oper} {M : Nat → Prop} {n : Nat} {s0 : St} {a : Act} {s : St} {t kt et : TypeId} {g : Nat}
theorem st_range {xs : List (κ × ν)} {x : Operand} (d : Nat) (hL : Has M n s0 a s L) (hx : Opn L x (Pd.rep (En.fmap K kv E) xs)) (ht : P.underlying t = some (.map kt et)) (ho : o.op = .range t x) (hg : o.guard = none) (hd : o.dst = some d) (hn : Nat.blt d n = true)
  (k : ∀ a' s' g,s.w.heap.size ≤ g → Has M n s0 a' s' ((d,Pd.iter K kv E s0.w.heap.size g xs none) :: L) → wpList P ops Q rest a' s'.w) : wpList P ops Q (o :: rest) a s.w:=by
 refine wpList_plain hg fun K' hK'=>?_
 unfold Oper.wp execOp
 rcases rep_fmap.1 (hx M n s0 a s hL) with ⟨hv,rfl⟩ | ⟨bm,es,clock,ys,hv,hf,hgb,hM,hp⟩
 ·have hr:=run_range_nilMap (P:=P) s.w t kt et ht
  simp only [ho,hv,Sem.run_bind,hr,Result.andThen_ok,Sem.run_pure]
  refine hK' _ _ ?_
  simp only [hd]
  refine k _ (s.pushX (.mapIter none 0 #[] 0)) s.w.heap.size (Nat.le_refl _) (hL.put (Ex.pushX s _) hn ⟨rfl,hL.ent.mv.size,.inr rfl,.inl ⟨0,#[],0,heap_alloc_new s.w _,rfl,rfl⟩⟩)
 ·have hr:=run_range_map (P:=P) s.w t kt et bm es clock ht hgb
  simp only [ho,hv,Sem.run_bind,hr,Result.andThen_ok,Sem.run_pure]
  refine hK' _ _ ?_
  simp only [hd]
  have hE:=Ex.pushX s (.mapIter (some bm) clock #[] clock)
  refine k _ (s.pushX (.mapIter (some bm) clock #[] clock)) s.w.heap.size (Nat.le_refl _) (hL.put hE hn ⟨rfl,hL.ent.mv.size,.inr rfl,.inr ⟨bm,clock,#[],clock,es,clock,ys,heap_alloc_new s.w _, ?_, ?_,hM.go hE.mv,Nat.le_refl _,Nat.le_refl _,hM.st.1, ?_,fun p h=>by cases h⟩⟩)
  ·exact ⟨Nat.lt_of_lt_of_le hf.1 hE.mv.size,fun hx=>(hE.mv.xx bm hx).elim hf.2 (fun hk=>by have:=hf.1; omega)⟩
  ·rw [hE.mv.blk bm hf.1 id]; exact hgb
  ·have : remL es.toList #[] ys = ys:=by
    unfold remL
    rw [List.filter_eq_self.2 (by simp)]
    exact List.map_snd_zip (by rw [hM.len]; exact Nat.le_refl _)
   rw [this]; exact hp
theorem Has.ilt {rem : List (κ × ν)} {cur : Option (κ × ν)} {N : Nat} (h : Has M n s0 a s L) (t : Nat) (hl : lk L t = some (Pd.iter K kv E N g rem cur)) : ∀ k,some g = some k → k < s.w.heap.size:=fun k hk=>by cases hk; exact s.lt _ (h.get t hl).2.2.1
theorem st_next {rem : List (κ × ν)} {cur : Option (κ × ν)} {x : Nat} (d : Nat) (hL : Has M n s0 a s L) (hx : lk L x = some (Pd.iter K kv E s0.w.heap.size g rem cur)) (ho : o.op = .next (.tmp x) false) (hg : o.guard = none) (hd : o.dst = some d) (hn : Nat.blt d n = true) (hne : d ≠ x)
  (hk : Kp (fun b=>some g = some b) L L')
  (k0 : ∀ a',rem = [] → Has M n s0 a' s ((d,Pd.nx false) :: L) → wpList P ops Q rest a' s.w)
  (k1 : ∀ a' s' p rem',rem.Perm (p :: rem') → Has M n s0 a' s' ((d,Pd.nx true) :: (x,Pd.iter K kv E s0.w.heap.size g rem' (some p)) :: L') → wpList P ops Q rest a' s'.w) : wpList P ops Q (o :: rest) a s.w:=by
 obtain ⟨hv,hN,hX,hr⟩:=hL.get x hx
 refine wpList_plain hg fun K' hK'=>?_
 unfold Oper.wp execOp
 rcases hr with ⟨aa,seen,bb,hgb,rfl,_⟩ | ⟨bm,since,seen,c0,es,clock,ys,hgb,hf,hbm,hM,h1,h2,h3,h4,h5⟩
 ·have hrun : (Instr.next (.pointer (some ⟨g,0,none⟩)) false o.type).run P s.w = .ok (.tuple #[.bool false]) s.w:=by
   simp only [Instr.next,getObj,Sem.run_bind,Sem.run,hgb,Result.andThen]; rfl
  simp only [ho,hv,Sem.run_bind,hrun,Result.andThen_ok,Sem.run_pure]
  refine hK' _ _ ?_
  simp only [hd]
  exact k0 _ rfl (hL.put' hn ⟨_,rfl,rfl⟩)
 ·have hnd:=hM.st.2.1
  rcases run_next_at (P:=P) s.w o.type g bm since c0 seen es clock hgb hbm h3 h1 with ⟨hz,hrun⟩ | ⟨e,he,w1,hw1,hrun⟩
  ·simp only [ho,hv,Sem.run_bind,hrun,Result.andThen_ok,Sem.run_pure]
   refine hK' _ _ ?_
   simp only [hd]
   refine k0 _ ?_ (hL.put' hn ⟨_,rfl,rfl⟩)
   have hnil : remL es.toList seen ys = []:=by
    unfold remL
    rw [List.map_eq_nil_iff,List.filter_eq_nil_iff]
    intro q hq
    have hq1:=(List.of_mem_zip hq).1
    intro hc
    have : q.1 ∈ (leftOf es seen).toList:=by unfold leftOf; simp; exact ⟨by simpa using hq1,by simpa using hc⟩
    have hlen : (leftOf es seen).toList.length = 0:=by simpa using hz
    rw [List.length_eq_zero_iff] at hlen
    rw [hlen] at this; cases this
   rw [hnil] at h4
   exact List.nil_perm.1 h4
  ·simp only [ho,hv,Sem.run_bind,hrun,Result.andThen_ok,Sem.run_pure]
   refine hK' _ _ ?_
   simp only [hd]
   have he1 : e ∈ es.toList ∧ seen.contains e.born = false:=by unfold leftOf at he; simp at he; exact ⟨by simpa using he.1,by simpa using he.2⟩
   obtain ⟨i,hi⟩:=List.getElem?_of_mem he1.1
   have hil : i < ys.length:=by rw [← hM.len]; exact (List.getElem?_eq_some_iff.1 hi).1
   have hyi : ys[i]? = some ys[i]:=List.getElem?_eq_getElem hil
   have hgl : g < s.w.heap.size:=s.lt g hX
   have hgbm : g ≠ bm:=fun e=>hf.2 (e ▸ hX)
   let w' : World:=Go.ChangeMaps.setBlock w1 g (.mapIter (some bm) since (seen.push e.born) clock)
   have hh : w1.heap = s.w.heap:=by rcases hw1 with rfl | rfl <;> rfl
   have hblk : ∀ b,b ≠ g → w'.heap[b]? = s.w.heap[b]?:=fun b hb=>by
    simp [w',Go.ChangeMaps.setBlock,hh,Array.getElem?_setIfInBounds_ne (Ne.symm hb)]
   have hgg : w'.heap[g]? = some (.mapIter (some bm) since (seen.push e.born) clock):=by
    simp [w',Go.ChangeMaps.setBlock,hh,hgl]
   have hsz : w'.heap.size = s.w.heap.size:=by simp [w',Go.ChangeMaps.setBlock,hh]
   have hdr : DR s.w w':=by
    rcases hw1 with rfl | rfl
    ·exact DR.eq rfl
    ·exact DR.succ rfl
   let s' : St:=⟨w',s.X,fun b hb=>by rw [hsz]; exact s.lt b hb⟩
   have hE : Ef (fun b=>some g = some b) s s':=⟨⟨hdr,by rcases hw1 with rfl | rfl <;> rfl,by rcases hw1 with rfl | rfl <;> rfl,by rcases hw1 with rfl | rfl <;> rfl,by show _ ≤ w'.heap.size; rw [hsz]; exact Nat.le_refl _,fun b _ hnb=>hblk b (fun e=>hnb (by rw [e])),fun b hb=>by cases hb; exact hX,fun b hb=>.inl hb⟩,fun b hb _=>hb⟩
   have hLk : Has M n s0 a s' L':=hL.ef hE (fun b hb=>by cases hb; exact hN) hk
   have hit : (Pd.iter K kv E s0.w.heap.size g (remL es.toList (seen.push e.born) ys) (some ys[i])).p s' (a.eval (.tmp x)):=by
    refine ⟨hv,hN,hX,.inr ⟨bm,since,seen.push e.born,clock,es,clock,ys,hgg,⟨by show bm < w'.heap.size; rw [hsz]; exact hf.1,hf.2⟩, ?_,hM.go hE.mv,h2,h2,h3,.refl _,fun p hp=>?_⟩⟩
    ·show w'.heap[bm]? = _
     rw [hblk bm (Ne.symm hgbm)]; exact hbm
    ·cases hp; exact ⟨i,e,seen,hi,hyi,rfl,rfl⟩
   exact k1 _ s' ys[i] _ (h4.symm.trans (rem_perm seen es.toList ys i e ys[i] hnd hi hyi he1.2)) ((hLk.cons x hit).put' hn ⟨_,rfl,rfl⟩)
theorem t_nx {b : Bool} {x : Operand} (hx : Opn L x (Pd.nx b)) (ho : o.op = .extract x 0) (hg : o.guard = none) : T P ops o L (Pd.rep En.bool b):=
 T.pure hg fun M n s0 a s hL=>by
  obtain ⟨l,hv,h0⟩:=hx M n s0 a s hL
  refine ⟨.bool b, ?_,rep_bool.2 rfl⟩
  unfold execOp; rw [ho]
  simp [hv,Instr.extract,h0]
theorem t_entry {N : Nat} {rem : List (κ × ν)} {p : κ × ν} {x : Operand} (hx : Opn L x (Pd.iter K kv E N g rem (some p))) (hK : KeyT P kt K kv) (ho : o.op = .entry x) (hg : o.guard = none) : T P ops o L (Pd.tup2 (Pd.rep K p.1) (Pd.rep E p.2)):=
 T.pure hg fun M n s0 a s hL=>by
  obtain ⟨hv,hN,hX,hr⟩:=hx M n s0 a s hL
  rcases hr with ⟨aa,seen,bb,hgb,_,hc⟩ | ⟨bm,since,seen,c0,es,clock,ys,hgb,hf,hbm,hM,h1,h2,h3,h4,h5⟩
  ·cases hc
  ·obtain ⟨i,e,seen',hi,hyi,rfl,rfl⟩:=h5 p rfl
   have hnd:=hM.st.2.1
   obtain ⟨hk1,⟨cs,hkR⟩,cs',hv',hR'⟩:=hM.ent i e p hi hyi
   have hrun:=run_entry_at (P:=P) s.w g bm since seen' es c0 e hgb hbm (List.mem_of_getElem? hi) hnd
   refine ⟨.tuple #[e.key,e.val], ?_,_,_,rfl,⟨cs,by rw [hk1,hK.val hkR],hkR⟩,⟨cs',hv',hR'⟩⟩
   unfold execOp; rw [ho]
   simp [hv,hrun,Result.andThen]
end
end
def En.nilv {α : Type} (E : En α) : En (List α) where
 sz:=1
 agg:=false
 R:=fun _ _ cs xs=>cs = [.slice none 0 0] ∧ xs = []
 sc:=fun _=>rfl
 pos:=Nat.one_pos
 len:=by rintro _ _ _ _ ⟨rfl,_⟩; rfl
 one:=by rintro _ _ _ _ ⟨rfl,_⟩ u hu; simp at hu; subst hu; rfl
 mono:=fun _ h=>h
 move:=fun _ h=>h
theorem rep_nilv {α : Type} {E : En α} {xs : List α} {s : St} {v : Value} : (Pd.rep (En.nilv E) xs).p s v ↔ v = .slice none 0 0 ∧ xs = []:=
 ⟨fun ⟨_,hv,hc,hr⟩=>by subst hc; exact ⟨hv,hr⟩,fun ⟨hv,hr⟩=>⟨[.slice none 0 0],hv,rfl,hr⟩⟩
theorem o_nilv {L : Lst} {α : Type} {E : En α} : Opn L (.const (.slice none 0 0)) (Pd.rep (En.nilv E) ([] : List α)):=o_c fun _=>rep_nilv.2 ⟨rfl,rfl⟩
end Go.Proofs.YtahgmdbioafmbaaGreatDoor.V
namespace Go.Proofs.YtahgmdbioafmbaaGreatDoor.V
open Go Go.MapKept
set_option linter.unusedVariables false
def En.fid : En (Option Nat) where
 sz:=1
 agg:=false
 R:=fun _ _ cs x=>cs = [fidV x]
 sc:=fun _=>rfl
 pos:=Nat.one_pos
 len:=by rintro _ _ _ _ rfl; rfl
 one:=by rintro _ _ _ x rfl u hu; simp at hu; subst hu; cases x <;> rfl
 mono:=fun _ h=>h
 move:=fun _ h=>h
theorem rep_fid {x : Option Nat} {s : St} {v : Value} : (Pd.rep En.fid x).p s v ↔ v = fidV x:=
 ⟨fun ⟨_,hv,hc⟩=>by cases hc; exact hv,fun hv=>⟨[fidV x],hv,rfl⟩⟩
abbrev kvI64 : Int → Value:=fun x=>.int .i64 x
theorem key_i64 {P : Program} {kt : TypeId} (hd : P.underlying kt = some (.int .i64)) : KeyT P kt (En.int .i64) kvI64:=
 key_plain hd (fun x=>rfl) (fun ⟨h,_⟩=>by subst h; rfl) (fun {x y} h=>by simpa using h)
section
variable {P : Program} {ops : Array Oper} {o : Oper} {L : Lst}
theorem o_gm {g : Nat} {l : List (Int × Option Nat)} (hm : (g,l) ∈ gmap) : Opn L (.global g) (Pd.ptr (En.fmap (En.int .i64) kvI64 En.fid) l):=fun M n0 s0 ac s hL=>by
 obtain ⟨hX,m,tt,fr,es,clock,ys,hb,hXm,hbm,hF,hp⟩:=hL.gls.2 _ hm
 simp only at hX hb hp
 refine ⟨g,0,[.map (some m)],rfl,⟨(Array.getElem?_eq_some_iff.1 hb).1,hX⟩,fun j u hj=>?_,.map (some m),rfl,.inr ⟨m,es,clock,ys,rfl,⟨(Array.getElem?_eq_some_iff.1 hbm).1,hXm⟩,hbm,⟨hF.1,hF.2.1,fun i e p h1 h2=>?_⟩,hp⟩⟩
 ·cases j with
  | zero=>
   simp at hj; subst hj
   rw [Nat.add_zero,cell_of_row s.w g _ _ tt fr hb]; rfl
  | succ j=>simp at hj
 ·obtain ⟨k1,k2,k3⟩:=hF.2.2 i e p h1 h2
  exact ⟨k1,⟨_,rfl,by simp [InR,IntKind.min,IntKind.max,IntKind.signed,IntKind.bits]; omega⟩,[fidV p.2],k3,rfl⟩
theorem t_callid {t : Nat} {xs : List Operand} {F : Option Nat} {qs : List Pd} {q : Pd} {ats : Array TypeId} (hf : ∃ f,F = some f ∧ Fn P f qs (Rq q)) (hF : Opn L (.tmp t) (Pd.rep En.fid F)) (hx : Opns L xs qs)
  (ho : o.op = .call { callee:=.value (.tmp t),args:=xs.toArray,argTypes:=ats }) (hg : o.guard = none) : T P ops o L q:=fun M n s0 a s hL Q k hk=>by
 obtain ⟨f,rfl,hf⟩:=hf
 simp only [Region.wanted,hg,if_true]
 have hv : a.eval (.tmp t) = .func (.func f) #[] #[]:=rep_fid.1 (hF M n s0 a s hL)
 have e : (execOp a.eval o).run P s.w = .ok (.enter f (xs.map a.eval).toArray) s.w:=by
  have e1 : execOp a.eval o = (do let d ← Deferred.ofValue (a.eval (.tmp t)) (xs.toArray.map a.eval); invoke d.target d.args):=by
   unfold execOp; rw [ho]; rfl
  rw [e1,hv]
  have:=hf.call (xs.map a.eval).toArray s.w
  simpa [Deferred.ofValue,invoke] using this
 unfold Oper.wp
 rw [e,Oper.upon_enter]
 refine (hf.run s _ hL.gls (hx.vals hL)).mono fun e w' ⟨v,s',he,hw,hx,hq⟩=>?_
 subst he; subst hw
 exact hk v s' ⟨hx,hq⟩
end
end Go.Proofs.YtahgmdbioafmbaaGreatDoor.V
namespace Go.Proofs.YtahgmdbioafmbaaGreatDoor.V
open Go Go.MapKept
set_option linter.unusedVariables false
abbrev kvCls : Cl → Value:=fun x=>.agg (clsCells x).toArray
theorem kvCls_inj {x y : Cl} (h : kvCls x = kvCls y) : x = y:=by
 simp only [kvCls,clsCells,Value.agg.injEq] at h
 have h':=congrArg Array.toList h
 simp only [List.cons.injEq,Value.int.injEq,true_and,and_true] at h'
 obtain ⟨e0,e1,e2,e3⟩:=h'
 refine Cl.ext_words fun i hi=>?_
 have : i = 0 ∨ i = 1 ∨ i = 2 ∨ i = 3:=by omega
 rcases this with rfl | rfl | rfl | rfl <;> omega
theorem key_of_cls {P : Program} {kt e : TypeId} (ht : P.underlying kt = some (.array 4 e)) (he : P.underlying e = some (.int .u64)) (hct : P.cellsOf kt = 4) (hce : P.cellsOf e = 1) (hk : P.keyType kt = true) (hts : ∃ m,P.types.size = m + 1) (x : Cl) :
  ∃ l,keyOf P kt (kvCls x) = some l:=by
 obtain ⟨m,hm⟩:=hts
 have hf : (kvCls x).formed P kt = true:=by
  simp [Value.formed,ht,hct,clsCells]
 have one : ∀ i,i < 4 → P.keyLits (m + 1) e [.int .u64 (x.word i)] = some [.int .u64 (x.word i)]:=fun i hi=>by
  have hw:=Cl.word_lt x i
  have : (Lit.int .u64 (x.word i)).wf = true:=by
   simp [Lit.wf,IntKind.min,IntKind.max,IntKind.signed,IntKind.bits]
   omega
  simp [Program.keyLits,he,this]
 have hl : P.keyLits (P.types.size + 1) kt (clsCells x) = some [.int .u64 (x.word 0),.int .u64 (x.word 1),.int .u64 (x.word 2),.int .u64 (x.word 3)]:=by
  rw [hm]
  have l4 : (clsCells x).length = 4:=rfl
  have e4 : List.range 4 = [0,1,2,3]:=rfl
  have c0 : ((clsCells x).drop (0 * 1)).take 1 = [.int .u64 (x.word 0)]:=rfl
  have c1 : ((clsCells x).drop (1 * 1)).take 1 = [.int .u64 (x.word 1)]:=rfl
  have c2 : ((clsCells x).drop (2 * 1)).take 1 = [.int .u64 (x.word 2)]:=rfl
  have c3 : ((clsCells x).drop (3 * 1)).take 1 = [.int .u64 (x.word 3)]:=rfl
  rw [Program.keyLits.eq_def]
  simp only [ht]
  rw [if_pos (by rw [l4,hct]),e4]
  simp only [hce,List.mapM_cons,List.mapM_nil,c0,c1,c2,c3,one 0 (by omega),one 1 (by omega),one 2 (by omega),one 3 (by omega)]
  rfl
 refine ⟨.string (keyBytes [.int .u64 (x.word 0),.int .u64 (x.word 1),.int .u64 (x.word 2),.int .u64 (x.word 3)]), ?_⟩
 unfold keyOf
 rw [ht]
 simp only [hk,hf,Bool.and_self,if_true,kvCls,Value.cells,hl,Option.map_some]
theorem key_cls {P : Program} {kt e : TypeId} (ht : P.underlying kt = some (.array 4 e)) (he : P.underlying e = some (.int .u64)) (hct : P.cellsOf kt = 4) (hce : P.cellsOf e = 1) (hk : P.keyType kt = true) (hts : ∃ m,P.types.size = m + 1)
  (hk2 : P.keyTypeAt 2 kt = true) (htl : P.tiled 2 kt = true) : KeyT P kt En.cls kvCls where
 val:=fun h=>by cases h; rfl
 inj:=kvCls_inj
 check:=fun w em x=>by
  obtain ⟨l,hl⟩:=key_of_cls ht he hct hce hk hts x
  exact (deep_law (m:=2) (by decide) hk2 htl (by rw [ht])).check w em hl
 find:=fun w x es hes=>by
  obtain ⟨l,hl⟩:=key_of_cls ht he hct hce hk hts x
  exact (deep_law (m:=2) (by decide) hk2 htl (by rw [ht])).find w hl es fun e' he'=>by
   obtain ⟨y,hy⟩:=hes e' he'
   rw [hy]; exact key_of_cls ht he hct hce hk hts y
 stays:=fun w x=>by
  obtain ⟨l,hl⟩:=key_of_cls ht he hct hce hk hts x
  exact (deep_law (m:=2) (by decide) hk2 htl (by rw [ht])).stays w hl
end Go.Proofs.YtahgmdbioafmbaaGreatDoor.V
namespace Go.Proofs.YtahgmdbioafmbaaGreatDoor.V
open Go
set_option linter.unusedVariables false
abbrev SItem : Type:=Int × Int × Int × Int
abbrev SNode : Type:=Int × Int × Int × Int × Int × Cl × Str
abbrev SDesc : Type:=(List SNode)
abbrev SBranch : Type:=(List SItem) × Int
abbrev Sstep_next : Type:=SNode × SItem × Int
def nums4 (x : SItem) : List Int:=[x.1,x.2.1,x.2.2.1,x.2.2.2]
def numsS (s : List SItem) : List Int:=s.flatMap nums4
def keyN (l : List Int) : Str:=l.flatMap fun n=>Lib.itoa n ++ [32]
def keyS (s : List SItem) : Str:=keyN (numsS s)
def item_Key (s : List SItem) (r : Str) : Prop:=s.length ≤ 1000 ∧ r = keyS s
def slices_Grow_api_State_api_Item (x : List SItem) (n : Int) (r : List SItem) : Prop:=0 ≤ n ∧ n ≤ 2147483648 ∧ r = []
def sgnI (x y : Int) : Int:=if x < y then -1 else if y < x then 1 else 0
def lexI : List Int → List Int → Int
 | x :: a,y :: b=>if x < y then -1 else if y < x then 1 else lexI a b
 | _,_=>0
def fstNZ : List Int → Int
 | []=>0
 | x :: l=>if x ≠ 0 then x else fstNZ l
def numsL (s : List SItem) : List Int:=(s.length : Int) :: numsS s
def cmpItem (x y : SItem) : Int:=fstNZ [sgnI x.1 y.1,sgnI x.2.1 y.2.1,sgnI x.2.2.1 y.2.2.1,sgnI x.2.2.2 y.2.2.2]
def cmpS (a b : List SItem) : Int:=lexI (numsL a) (numsL b)
def formI (d : List SNode) (x : SItem) : Bool:=
 if x.1 = 5 then (x.2.1 == 0 && x.2.2.2 == 0) && (decide (0 ≤ x.2.2.1) && decide (x.2.2.1 ≤ 65535))
 else match at? d x.2.1 with
  | none=>false
  | some n=>
   if x.1 = 1 then x.2.2.1 == 0 && x.2.2.2 == 0
   else if x.1 = 2 then ((n.1 == 7 && decide (0 ≤ x.2.2.1)) && decide (x.2.2.1 ≤ x.2.2.2)) && decide (x.2.2.2 ≤ n.2.2.2.2.1)
   else if x.1 = 3 then ((n.1 == 3 && x.2.2.2 == 0) && decide (0 ≤ x.2.2.1)) && decide (x.2.2.1 < (n.2.2.2.2.2.2.length : Int))
   else if x.1 = 4 then ((n.1 == 9 && x.2.2.2 == 0) && decide (0 ≤ x.2.2.1)) && decide (x.2.2.1 ≤ 255)
   else false
def opn (d : List SNode) : List SItem → List (List SItem)
 | []=>[]
 | x :: rest=>
  if x.1 = 5 then (if x.2.2.1 = 0 then [rest] else [])
  else match at? d x.2.1 with
  | none=>[]
  | some n=>
   if x.1 = 2 then (if x.2.2.1 = 0 then [rest] else []) ++ (if 0 < x.2.2.2 then [(1,n.2.1,0,0) :: (2,x.2.1,max (x.2.2.1 - 1) 0,x.2.2.2 - 1) :: rest] else [])
   else if n.1 = 1 then [rest]
   else if n.1 = 3 then [(3,x.2.1,0,0) :: rest]
   else if n.1 = 4 then [(1,n.2.1,0,0) :: (1,n.2.2.1,0,0) :: rest]
   else if n.1 = 5 then [(1,n.2.1,0,0) :: rest,(1,n.2.2.1,0,0) :: rest]
   else if n.1 = 6 then [rest,(1,n.2.1,0,0) :: x :: rest]
   else [(2,x.2.1,n.2.2.2.1,n.2.2.2.2.1) :: rest]
def rdy (d : List SNode) : List SItem → Bool
 | []=>true
 | x :: _=>x.1 == 3 || x.1 == 4 || (x.1 == 1 && match at? d x.2.1 with | some n=>n.1 == 2 || n.1 == 8 || n.1 == 9 | none=>false)
def lv (d : List SNode) : Nat → List SItem → Option (List (List SItem))
 | 0,_=>none
 | h + 1,s=>if rdy d s = true then some [s] else ((opn d s).mapM (lv d h)).map List.flatten
def nzN (l : List Bool) (n : SNode) : Bool:=
 if n.1 = 1 then true
 else if n.1 = 4 then (at? l n.2.1).getD false && (at? l n.2.2.1).getD false
 else if n.1 = 5 then (at? l n.2.1).getD false || (at? l n.2.2.1).getD false
 else if n.1 = 6 then true
 else if n.1 = 7 then decide (n.2.2.2.1 = 0) || (at? l n.2.1).getD false
 else false
def nzL (d : List SNode) : List Bool:=d.foldl (fun l n=>l ++ [nzN l n]) []
def nz (d : List SNode) (i : Int) : Bool:=(at? (nzL d) i).getD false
structure ROk (d : List SNode) : Prop where
 two : ∀ (i : Int) n,at? d i = some n → (n.1 = 4 ∨ n.1 = 5) → (0 ≤ n.2.1 ∧ n.2.1 < i) ∧ (0 ≤ n.2.2.1 ∧ n.2.2.1 < i)
 one : ∀ (i : Int) n,at? d i = some n → (n.1 = 6 ∨ n.1 = 7 ∨ n.1 = 8 ∨ n.1 = 9) → 0 ≤ n.2.1 ∧ n.2.1 < i
 rep : ∀ (i : Int) n,at? d i = some n → n.1 = 7 → 0 ≤ n.2.2.2.1 ∧ n.2.2.2.1 ≤ n.2.2.2.2.1 ∧ n.2.2.2.2.1 ≤ 255
 kind : ∀ (i : Int) n,at? d i = some n → 1 ≤ n.1 ∧ n.1 ≤ 9
 ntx : ∀ (i : Int) n,at? d i = some n → n.1 = 3 → n.2.2.2.2.2.2 ≠ []
 nn : ∀ (i : Int) n,at? d i = some n → (n.1 = 6 ∨ n.1 = 7) → nz d n.2.1 = false
structure DOk (d : List SNode) : Prop where
 len : d.length ≤ 1000
 txt : ∀ n ∈ d,n.2.2.2.2.2.2.length ≤ 9223372036854775807
def formS (d : List SNode) (s : List SItem) : Bool:=s.all (formI d)
abbrev sat (n : Nat) : Int:=((min 2 n : Nat) : Int)
structure Can (f : List SItem → Nat) (B : List SBranch) : Prop where
 srt : B.Pairwise (fun a b=>cmpS a.1 b.1 < 0)
 mem : ∀ t m,(t,m) ∈ B ↔ f t ≠ 0 ∧ m = sat (f t)
def insB (b : SBranch) : List SBranch → List SBranch
 | []=>[b]
 | c :: l=>if cmpS b.1 c.1 < 0 then b :: c :: l else c :: insB b l
def srtB (l : List SBranch) : List SBranch:=l.foldr insB []
def sort_heads_Heads_1 (x r : List SBranch) : Prop:=(x.map (·.1)).Nodup ∧ (∀ b ∈ x,b.1.length ≤ 1000) ∧ x.length ≤ 2147483648 ∧ r = srtB x
def sort_next_On_1 (x r : List SBranch) : Prop:=(x.map (·.1)).Nodup ∧ (∀ b ∈ x,b.1.length ≤ 1000) ∧ x.length ≤ 2147483648 ∧ r = srtB x
def heads_Heads (d : SDesc) (s : List SItem) (r : List SBranch) : Prop:=ROk d ∧ DOk d ∧ d.length ≤ 400 ∧ d ≠ [] ∧ formS d s = true ∧ s.length ≤ 400 ∧ r.length ≤ 2147483648 ∧ ∃ h L,lv d h s = some L ∧ Can (fun t=>L.count t) r
def keyL (l : List (List SItem)) : Str:=l.flatMap fun s=>keyS s ++ [47]
def sets_Key (l : List (List SItem)) (r : Str) : Prop:=l.length ≤ 1000000000 ∧ (∀ s ∈ l,s.length ≤ 1000) ∧ r = keyL l
def sort_item_Compare (x r : List (List SItem)) : Prop:=(∀ b ∈ x,b.length ≤ 1000) ∧ x.length ≤ 2147483648 ∧ r.Perm x ∧ r.Pairwise (fun a b=>cmpS a b < 0)
def sets_On_t (m : List (Str × List SItem)) (r : List (List SItem)) : Prop:=sort_item_Compare (m.map (·.2)) r
end Go.Proofs.YtahgmdbioafmbaaGreatDoor.V
namespace Go.Proofs.YtahgmdbioafmbaaGreatDoor.V
open Go
set_option linter.unusedVariables false
set_option maxRecDepth 100000
noncomputable abbrev En.SItem : En SItem:=(En.cat (En.int .i64) (En.cat (En.int .i64) (En.cat (En.int .i64) (En.int .i64))))
noncomputable abbrev EnF88 : En ((List SItem) × Bool → Prop):=En.fun Tryz.prog (fun q=>[Pd.rep (En.slice En.SItem) q.1]) (fun q=>Rq (Pd.rep En.bool q.2))
noncomputable abbrev EnF209 : En (Cl × Int → Prop):=En.fun Tryz.prog (fun q=>[Pd.rep En.cls q.1]) (fun q=>Rq (Pd.rep (En.int .i64) q.2))
noncomputable abbrev EnF211 : En (Cl × Cl × Int → Prop):=En.fun Tryz.prog (fun q=>[Pd.rep En.cls q.1,Pd.rep En.cls q.2.1]) (fun q=>Rq (Pd.rep (En.int .i64) q.2.2))
noncomputable abbrev En.SNode : En SNode:=(En.cat (En.int .i64) (En.cat (En.int .i64) (En.cat (En.int .i64) (En.cat (En.int .i64) (En.cat (En.int .i64) (En.cat En.cls En.str))))))
noncomputable abbrev En.SDesc : En SDesc:=En.solo (En.slice En.SNode)
noncomputable abbrev En.SBranch : En SBranch:=(En.cat (En.slice En.SItem) (En.int .i64))
noncomputable abbrev En.Sstep_next : En Sstep_next:=(En.cat En.SNode (En.cat En.SItem (En.int .u8)))
theorem ty3 : Ty Tryz.prog 3 (En.int .i64):=⟨⟨_,_,rfl,rfl,rfl,rfl,by decide⟩,_,rfl,rfl⟩
theorem ty4 : Ty Tryz.prog 4 En.bool:=⟨⟨_,_,rfl,rfl,rfl,rfl,by decide⟩,_,rfl,rfl⟩
theorem ty5 : Ty Tryz.prog 5 (En.int .u8):=⟨⟨_,_,rfl,rfl,rfl,rfl,by decide⟩,_,rfl,rfl⟩
theorem ty9 : Ty Tryz.prog 9 En.str:=⟨⟨_,_,rfl,rfl,rfl,rfl,by decide⟩,_,rfl,rfl⟩
theorem ty22 : Ty Tryz.prog 22 (En.slice En.SNode):=⟨⟨_,_,rfl,rfl,rfl,rfl,by decide⟩,_,rfl,rfl⟩
theorem ty24 : Ty Tryz.prog 24 En.SDesc:=⟨⟨_,_,rfl,rfl,rfl,rfl,by decide⟩,_,rfl,rfl⟩
theorem ty47 : Ty Tryz.prog 47 (En.slice En.SItem):=⟨⟨_,_,rfl,rfl,rfl,rfl,by decide⟩,_,rfl,rfl⟩
theorem ty49 : Ty Tryz.prog 49 (En.int .u64):=⟨⟨_,_,rfl,rfl,rfl,rfl,by decide⟩,_,rfl,rfl⟩
theorem ty51 : Ty Tryz.prog 51 En.cls:=⟨⟨_,_,rfl,rfl,rfl,rfl,by decide⟩,_,rfl,rfl⟩
theorem ty68 : Ty Tryz.prog 68 En.SNode:=⟨⟨_,_,rfl,rfl,rfl,rfl,by decide⟩,_,rfl,rfl⟩
theorem ty77 : Ty Tryz.prog 77 En.SItem:=⟨⟨_,_,rfl,rfl,rfl,rfl,by decide⟩,_,rfl,rfl⟩
theorem ty82 : Ty Tryz.prog 82 En.SBranch:=⟨⟨_,_,rfl,rfl,rfl,rfl,by decide⟩,_,rfl,rfl⟩
theorem ty209 : Ty Tryz.prog 209 EnF209:=⟨⟨_,_,rfl,rfl,rfl,rfl,by decide⟩,_,rfl,rfl⟩
theorem tyz4 : TyZ Tryz.prog 4 En.bool (false : Bool):=⟨_,_,[.bool false],rfl,rfl,by rfl,fun _ _=>rfl⟩
theorem tyz24 : TyZ Tryz.prog 24 En.SDesc ([] : SDesc):=⟨_,_,[.slice none 0 0],rfl,rfl,by rfl,fun _ _=>⟨_,rfl,slV_nil _ _ _⟩⟩
theorem tyz51 : TyZ Tryz.prog 51 En.cls ((0#256) : Cl):=⟨_,_,clsCells 0#256,rfl,rfl,by rfl,fun _ _=>rfl⟩
theorem tyz68 : TyZ Tryz.prog 68 En.SNode ((0,0,0,0,0,(0#256),([] : Str)) : SNode):=⟨_,_,([.int .i64 0] ++ ([.int .i64 0] ++ ([.int .i64 0] ++ ([.int .i64 0] ++ ([.int .i64 0] ++ (clsCells 0#256 ++ [.string ⟨#[]⟩])))))),rfl,rfl,by rfl,fun _ _=>⟨_,_,rfl,⟨rfl,by decide⟩,⟨_,_,rfl,⟨rfl,by decide⟩,⟨_,_,rfl,⟨rfl,by decide⟩,⟨_,_,rfl,⟨rfl,by decide⟩,⟨_,_,rfl,⟨rfl,by decide⟩,⟨_,_,rfl,rfl,⟨rfl,by decide⟩⟩⟩⟩⟩⟩⟩⟩
theorem tyz77 : TyZ Tryz.prog 77 En.SItem ((0,0,0,0) : SItem):=⟨_,_,([.int .i64 0] ++ ([.int .i64 0] ++ ([.int .i64 0] ++ [.int .i64 0]))),rfl,rfl,by rfl,fun _ _=>⟨_,_,rfl,⟨rfl,by decide⟩,⟨_,_,rfl,⟨rfl,by decide⟩,⟨_,_,rfl,⟨rfl,by decide⟩,⟨rfl,by decide⟩⟩⟩⟩⟩
theorem tyz82 : TyZ Tryz.prog 82 En.SBranch (([],0) : SBranch):=⟨_,_,([.slice none 0 0] ++ [.int .i64 0]),rfl,rfl,by rfl,fun _ _=>⟨_,_,rfl,⟨_,rfl,slV_nil _ _ _⟩,⟨rfl,by decide⟩⟩⟩
theorem tyz170 : TyZ Tryz.prog 170 En.Sstep_next (((0,0,0,0,0,(0#256),([] : Str)),(0,0,0,0),0) : Sstep_next):=⟨_,_,(([.int .i64 0] ++ ([.int .i64 0] ++ ([.int .i64 0] ++ ([.int .i64 0] ++ ([.int .i64 0] ++ (clsCells 0#256 ++ [.string ⟨#[]⟩])))))) ++ (([.int .i64 0] ++ ([.int .i64 0] ++ ([.int .i64 0] ++ [.int .i64 0]))) ++ [.int .u8 0])),rfl,rfl,by rfl,fun _ _=>⟨_,_,rfl,⟨_,_,rfl,⟨rfl,by decide⟩,⟨_,_,rfl,⟨rfl,by decide⟩,⟨_,_,rfl,⟨rfl,by decide⟩,⟨_,_,rfl,⟨rfl,by decide⟩,⟨_,_,rfl,⟨rfl,by decide⟩,⟨_,_,rfl,rfl,⟨rfl,by decide⟩⟩⟩⟩⟩⟩⟩,⟨_,_,rfl,⟨_,_,rfl,⟨rfl,by decide⟩,⟨_,_,rfl,⟨rfl,by decide⟩,⟨_,_,rfl,⟨rfl,by decide⟩,⟨rfl,by decide⟩⟩⟩⟩,⟨rfl,by decide⟩⟩⟩⟩
theorem tyz209 : TyZ Tryz.prog 209 EnF209 ((fun _=>False) : (Cl × Int → Prop)):=⟨_,_,[.nilFunc],rfl,rfl,by rfl,fun _ _=>.inl ⟨rfl,fun _ h=>h⟩⟩
theorem tyv3 : TyV Tryz.prog 3 (En.int .i64) (0 : Int):=⟨_,[.int .i64 0],rfl,by rfl,fun _ _=>⟨rfl,by decide⟩⟩
theorem tyv4 : TyV Tryz.prog 4 En.bool (false : Bool):=⟨_,[.bool false],rfl,by rfl,fun _ _=>rfl⟩
theorem stt24 : Stt Tryz.prog 24 [(0,1)]:=⟨_,Tryz.underlying24,by kernel_rfl⟩
theorem stt68 : Stt Tryz.prog 68 [(0,1),(1,1),(2,1),(3,1),(4,1),(5,4),(9,1)]:=⟨_,Tryz.underlying68,by kernel_rfl⟩
theorem stt77 : Stt Tryz.prog 77 [(0,1),(1,1),(2,1),(3,1)]:=⟨_,Tryz.underlying77,by kernel_rfl⟩
theorem stt82 : Stt Tryz.prog 82 [(0,1),(1,1)]:=⟨_,Tryz.underlying82,by kernel_rfl⟩
theorem stt170 : Stt Tryz.prog 170 [(0,10),(10,4),(14,1)]:=⟨_,Tryz.underlying170,by kernel_rfl⟩
theorem eq51 : Eqv Tryz.prog 51 En.cls:=eqv_cls (by exact Tryz.underlying51) rfl rfl (by kernel_rfl)
theorem keycls51 : KeyT Tryz.prog 51 En.cls kvCls:=key_cls Tryz.underlying51 Tryz.underlying49 (by kernel_rfl) (by kernel_rfl) (by kernel_rfl) ⟨_,rfl⟩ (by kernel_rfl) (by kernel_rfl)
end Go.Proofs.YtahgmdbioafmbaaGreatDoor.V
namespace Go.Proofs.YtahgmdbioafmbaaGreatDoor.V
open Go Go.Shelf
set_option linter.unusedVariables false
set_option maxRecDepth 100000
def sl169_ren : Go.Shelf.Ren:=⟨fun | 169=>71 | n=>n,fun | 70=>94 | 9=>9 | 0=>0 | 72=>96 | 37=>26 | 127=>147 | 3=>3 | 5=>5 | n=>n,fun | n=>n⟩
theorem sl169 : Go.Proofs.Lays.n169 Tryz.prog sl169_ren where
 mixed:=by kernel_rfl
 f169:=Tryz.func71.trans (congrArg some (by kernel_rfl))
 t0:=Tryz.underlying0
 a0:=Tryz.isAgg0
 z0:=Tryz.sizeOf0
 v0:=Tryz.zeroValue0
 t3:=Tryz.underlying3
 a3:=Tryz.isAgg3
 z3:=Tryz.sizeOf3
 v3:=Tryz.zeroValue3
 t9:=Tryz.underlying9
 a9:=Tryz.isAgg9
 z9:=Tryz.sizeOf9
 v9:=Tryz.zeroValue9
 t37:=Tryz.underlying26
 a37:=Tryz.isAgg26
 z37:=Tryz.sizeOf26
 v37:=Tryz.zeroValue26
 t70:=Tryz.underlying94
 a70:=Tryz.isAgg94
 z70:=Tryz.sizeOf94
 v70:=Tryz.zeroValue94
 t72:=Tryz.underlying96
 a72:=Tryz.isAgg96
 z72:=Tryz.sizeOf96
 v72:=Tryz.zeroValue96
 t127:=Tryz.underlying147
 a127:=Tryz.isAgg147
 z127:=Tryz.sizeOf147
 v127:=Tryz.zeroValue147
def sl171_ren : Go.Shelf.Ren:=⟨fun | 171=>93 | 243=>121 | 246=>154 | 283=>174 | 284=>175 | 285=>176 | 286=>177 | 129=>131 | 317=>181 | 318=>182 | 319=>183 | 320=>184 | 337=>187 | 338=>188 | n=>n,fun | 3=>3 | 9=>9 | 2=>2 | 4=>4 | 171=>218 | 0=>0 | 53=>49 | 37=>26 | 5=>5 | 173=>220 | 212=>227 | 51=>181 | 20=>20 | 213=>228 | 46=>133 | 232=>231 | 233=>232 | n=>n,fun | 17=>2 | 18=>3 | 19=>4 | n=>n⟩
theorem sl171 : Go.Proofs.LaysM.n171 Tryz.prog sl171_ren where
 mixed:=by kernel_rfl
 f129:=Tryz.func131.trans (congrArg some (by kernel_rfl))
 f171:=Tryz.func93.trans (congrArg some (by kernel_rfl))
 f243:=Tryz.func121.trans (congrArg some (by kernel_rfl))
 f246:=Tryz.func154.trans (congrArg some (by kernel_rfl))
 f283:=Tryz.func174.trans (congrArg some (by kernel_rfl))
 f284:=Tryz.func175.trans (congrArg some (by kernel_rfl))
 f285:=Tryz.func176.trans (congrArg some (by kernel_rfl))
 f286:=Tryz.func177.trans (congrArg some (by kernel_rfl))
 f317:=Tryz.func181.trans (congrArg some (by kernel_rfl))
 f318:=Tryz.func182.trans (congrArg some (by kernel_rfl))
 f319:=Tryz.func183.trans (congrArg some (by kernel_rfl))
 f320:=Tryz.func184.trans (congrArg some (by kernel_rfl))
 f337:=Tryz.func187.trans (congrArg some (by kernel_rfl))
 f338:=Tryz.func188.trans (congrArg some (by kernel_rfl))
 t0:=Tryz.underlying0
 a0:=Tryz.isAgg0
 z0:=Tryz.sizeOf0
 v0:=Tryz.zeroValue0
 t2:=Tryz.underlying2
 a2:=Tryz.isAgg2
 z2:=Tryz.sizeOf2
 v2:=Tryz.zeroValue2
 t3:=Tryz.underlying3
 a3:=Tryz.isAgg3
 z3:=Tryz.sizeOf3
 v3:=Tryz.zeroValue3
 t4:=Tryz.underlying4
 a4:=Tryz.isAgg4
 z4:=Tryz.sizeOf4
 v4:=Tryz.zeroValue4
 t5:=Tryz.underlying5
 a5:=Tryz.isAgg5
 z5:=Tryz.sizeOf5
 v5:=Tryz.zeroValue5
 t9:=Tryz.underlying9
 a9:=Tryz.isAgg9
 z9:=Tryz.sizeOf9
 v9:=Tryz.zeroValue9
 t20:=Tryz.underlying20
 a20:=Tryz.isAgg20
 z20:=Tryz.sizeOf20
 v20:=Tryz.zeroValue20
 t37:=Tryz.underlying26
 a37:=Tryz.isAgg26
 z37:=Tryz.sizeOf26
 v37:=Tryz.zeroValue26
 t46:=Tryz.underlying133
 a46:=Tryz.isAgg133
 z46:=Tryz.sizeOf133
 v46:=Tryz.zeroValue133
 t51:=Tryz.underlying181
 a51:=Tryz.isAgg181
 z51:=Tryz.sizeOf181
 v51:=Tryz.zeroValue181
 t53:=Tryz.underlying49
 a53:=Tryz.isAgg49
 z53:=Tryz.sizeOf49
 v53:=Tryz.zeroValue49
 t171:=Tryz.underlying218
 a171:=Tryz.isAgg218
 z171:=Tryz.sizeOf218
 v171:=Tryz.zeroValue218
 t173:=Tryz.underlying220
 a173:=Tryz.isAgg220
 z173:=Tryz.sizeOf220
 v173:=Tryz.zeroValue220
 t212:=Tryz.underlying227
 a212:=Tryz.isAgg227
 z212:=Tryz.sizeOf227
 v212:=Tryz.zeroValue227
 t213:=Tryz.underlying228
 a213:=Tryz.isAgg228
 z213:=Tryz.sizeOf228
 t232:=Tryz.underlying231
 a232:=Tryz.isAgg231
 z232:=Tryz.sizeOf231
 v232:=Tryz.zeroValue231
 t233:=Tryz.underlying232
 a233:=Tryz.isAgg232
 z233:=Tryz.sizeOf232
 v233:=Tryz.zeroValue232
 g17:=by kernel_rfl
 g18:=by kernel_rfl
 g19:=by kernel_rfl
 i0:=by kernel_rfl
 i2:=by kernel_rfl
 i3:=by kernel_rfl
 i4:=by kernel_rfl
 i5:=by kernel_rfl
 i9:=by kernel_rfl
 i20:=by kernel_rfl
 i37:=by kernel_rfl
 i46:=by kernel_rfl
 i51:=by kernel_rfl
 i53:=by kernel_rfl
 i171:=by kernel_rfl
 i173:=by kernel_rfl
 i212:=by kernel_rfl
 i232:=by kernel_rfl
 i233:=by kernel_rfl
 m17:=by kernel_rfl
 m18:=by kernel_rfl
 m19:=by kernel_rfl
def slsort_ren : Go.Shelf.Ren:=⟨fun | 6=>91 | 15=>95 | 14=>120 | 28=>130 | 29=>131 | 20=>146 | 21=>147 | 22=>148 | 23=>149 | 24=>150 | 25=>151 | 26=>152 | 27=>153 | 46=>171 | 47=>156 | 48=>157 | 49=>172 | 50=>173 | 57=>180 | n=>n,fun | 22=>79 | 24=>82 | 25=>129 | 3=>3 | 39=>133 | 0=>0 | 53=>181 | 55=>49 | 4=>4 | 46=>175 | 45=>174 | 50=>70 | 5=>5 | 9=>9 | 66=>201 | 70=>205 | 76=>222 | 77=>61 | n=>n,fun | n=>n⟩
theorem slsort : Go.Proofs.SlLaysF0.n6 Tryz.prog slsort_ren where
 mixed:=by kernel_rfl
 f6:=⟨"slices.SortFunc[[]scantling/api.Branch,scantling/api.Branch]",by decide,Tryz.func91.trans (congrArg some (by kernel_rfl))⟩
 f14:=⟨"slices.pdqsortCmpFunc[scantling/api.Branch]",by decide,Tryz.func120.trans (congrArg some (by kernel_rfl))⟩
 f15:=Tryz.func95.trans (congrArg some (by kernel_rfl))
 f20:=⟨"slices.insertionSortCmpFunc[scantling/api.Branch]",by decide,Tryz.func146.trans (congrArg some (by kernel_rfl))⟩
 f21:=⟨"slices.heapSortCmpFunc[scantling/api.Branch]",by decide,Tryz.func147.trans (congrArg some (by kernel_rfl))⟩
 f22:=⟨"slices.breakPatternsCmpFunc[scantling/api.Branch]",by decide,Tryz.func148.trans (congrArg some (by kernel_rfl))⟩
 f23:=⟨"slices.choosePivotCmpFunc[scantling/api.Branch]",by decide,Tryz.func149.trans (congrArg some (by kernel_rfl))⟩
 f24:=⟨"slices.reverseRangeCmpFunc[scantling/api.Branch]",by decide,Tryz.func150.trans (congrArg some (by kernel_rfl))⟩
 f25:=⟨"slices.partialInsertionSortCmpFunc[scantling/api.Branch]",by decide,Tryz.func151.trans (congrArg some (by kernel_rfl))⟩
 f26:=⟨"slices.partitionEqualCmpFunc[scantling/api.Branch]",by decide,Tryz.func152.trans (congrArg some (by kernel_rfl))⟩
 f27:=⟨"slices.partitionCmpFunc[scantling/api.Branch]",by decide,Tryz.func153.trans (congrArg some (by kernel_rfl))⟩
 f28:=Tryz.func130.trans (congrArg some (by kernel_rfl))
 f29:=Tryz.func131.trans (congrArg some (by kernel_rfl))
 f46:=⟨"slices.siftDownCmpFunc[scantling/api.Branch]",by decide,Tryz.func171.trans (congrArg some (by kernel_rfl))⟩
 f47:=Tryz.func156.trans (congrArg some (by kernel_rfl))
 f48:=Tryz.func157.trans (congrArg some (by kernel_rfl))
 f49:=⟨"slices.medianAdjacentCmpFunc[scantling/api.Branch]",by decide,Tryz.func172.trans (congrArg some (by kernel_rfl))⟩
 f50:=⟨"slices.medianCmpFunc[scantling/api.Branch]",by decide,Tryz.func173.trans (congrArg some (by kernel_rfl))⟩
 f57:=⟨"slices.order2CmpFunc[scantling/api.Branch]",by decide,Tryz.func180.trans (congrArg some (by kernel_rfl))⟩
 t0:=Tryz.underlying0
 a0:=Tryz.isAgg0
 z0:=Tryz.sizeOf0
 v0:=Tryz.zeroValue0
 t3:=Tryz.underlying3
 a3:=Tryz.isAgg3
 z3:=Tryz.sizeOf3
 v3:=Tryz.zeroValue3
 t4:=Tryz.underlying4
 a4:=Tryz.isAgg4
 z4:=Tryz.sizeOf4
 v4:=Tryz.zeroValue4
 t5:=Tryz.underlying5
 a5:=Tryz.isAgg5
 z5:=Tryz.sizeOf5
 v5:=Tryz.zeroValue5
 t9:=Tryz.underlying9
 a9:=Tryz.isAgg9
 z9:=Tryz.sizeOf9
 v9:=Tryz.zeroValue9
 t22:=Tryz.underlying79
 a22:=Tryz.isAgg79
 z22:=Tryz.sizeOf79
 v22:=Tryz.zeroValue79
 t25:=Tryz.underlying129
 a25:=Tryz.isAgg129
 z25:=Tryz.sizeOf129
 v25:=Tryz.zeroValue129
 t39:=Tryz.underlying133
 a39:=Tryz.isAgg133
 z39:=Tryz.sizeOf133
 v39:=Tryz.zeroValue133
 t45:=Tryz.underlying174
 a45:=Tryz.isAgg174
 z45:=Tryz.sizeOf174
 v45:=Tryz.zeroValue174
 t46:=Tryz.underlying175
 a46:=Tryz.isAgg175
 z46:=Tryz.sizeOf175
 v46:=Tryz.zeroValue175
 t50:=Tryz.underlying70
 a50:=Tryz.isAgg70
 z50:=Tryz.sizeOf70
 v50:=Tryz.zeroValue70
 t53:=Tryz.underlying181
 a53:=Tryz.isAgg181
 z53:=Tryz.sizeOf181
 v53:=Tryz.zeroValue181
 t55:=Tryz.underlying49
 a55:=Tryz.isAgg49
 z55:=Tryz.sizeOf49
 v55:=Tryz.zeroValue49
 t66:=Tryz.underlying201
 a66:=Tryz.isAgg201
 z66:=Tryz.sizeOf201
 v66:=Tryz.zeroValue201
 t70:=Tryz.underlying205
 a70:=Tryz.isAgg205
 z70:=Tryz.sizeOf205
 v70:=Tryz.zeroValue205
 t76:=Tryz.underlying222
 a76:=Tryz.isAgg222
 z76:=Tryz.sizeOf222
 v76:=Tryz.zeroValue222
 t77:=Tryz.underlying61
 a77:=Tryz.isAgg61
 z77:=Tryz.sizeOf61
 v77:=Tryz.zeroValue61
def slsortS_ren : Go.Shelf.Ren:=⟨fun | 6=>57 | 15=>95 | 14=>94 | 28=>130 | 29=>131 | 20=>122 | 21=>123 | 22=>124 | 23=>125 | 24=>126 | 25=>127 | 26=>128 | 27=>129 | 46=>155 | 47=>156 | 48=>157 | 49=>158 | 50=>159 | 57=>178 | n=>n,fun | 22=>25 | 24=>47 | 25=>73 | 3=>3 | 39=>133 | 0=>0 | 53=>181 | 55=>49 | 4=>4 | 46=>175 | 45=>174 | 50=>70 | 5=>5 | 9=>9 | 66=>201 | 70=>205 | 76=>222 | 77=>61 | n=>n,fun | n=>n⟩
theorem slsortS : Go.Proofs.SlLaysF0.n6 Tryz.prog slsortS_ren where
 mixed:=by kernel_rfl
 f6:=⟨"slices.SortFunc[[]scantling/api.State,scantling/api.State]",by decide,Tryz.func57.trans (congrArg some (by kernel_rfl))⟩
 f14:=⟨"slices.pdqsortCmpFunc[scantling/api.State]",by decide,Tryz.func94.trans (congrArg some (by kernel_rfl))⟩
 f15:=Tryz.func95.trans (congrArg some (by kernel_rfl))
 f20:=⟨"slices.insertionSortCmpFunc[scantling/api.State]",by decide,Tryz.func122.trans (congrArg some (by kernel_rfl))⟩
 f21:=⟨"slices.heapSortCmpFunc[scantling/api.State]",by decide,Tryz.func123.trans (congrArg some (by kernel_rfl))⟩
 f22:=⟨"slices.breakPatternsCmpFunc[scantling/api.State]",by decide,Tryz.func124.trans (congrArg some (by kernel_rfl))⟩
 f23:=⟨"slices.choosePivotCmpFunc[scantling/api.State]",by decide,Tryz.func125.trans (congrArg some (by kernel_rfl))⟩
 f24:=⟨"slices.reverseRangeCmpFunc[scantling/api.State]",by decide,Tryz.func126.trans (congrArg some (by kernel_rfl))⟩
 f25:=⟨"slices.partialInsertionSortCmpFunc[scantling/api.State]",by decide,Tryz.func127.trans (congrArg some (by kernel_rfl))⟩
 f26:=⟨"slices.partitionEqualCmpFunc[scantling/api.State]",by decide,Tryz.func128.trans (congrArg some (by kernel_rfl))⟩
 f27:=⟨"slices.partitionCmpFunc[scantling/api.State]",by decide,Tryz.func129.trans (congrArg some (by kernel_rfl))⟩
 f28:=Tryz.func130.trans (congrArg some (by kernel_rfl))
 f29:=Tryz.func131.trans (congrArg some (by kernel_rfl))
 f46:=⟨"slices.siftDownCmpFunc[scantling/api.State]",by decide,Tryz.func155.trans (congrArg some (by kernel_rfl))⟩
 f47:=Tryz.func156.trans (congrArg some (by kernel_rfl))
 f48:=Tryz.func157.trans (congrArg some (by kernel_rfl))
 f49:=⟨"slices.medianAdjacentCmpFunc[scantling/api.State]",by decide,Tryz.func158.trans (congrArg some (by kernel_rfl))⟩
 f50:=⟨"slices.medianCmpFunc[scantling/api.State]",by decide,Tryz.func159.trans (congrArg some (by kernel_rfl))⟩
 f57:=⟨"slices.order2CmpFunc[scantling/api.State]",by decide,Tryz.func178.trans (congrArg some (by kernel_rfl))⟩
 t0:=Tryz.underlying0
 a0:=Tryz.isAgg0
 z0:=Tryz.sizeOf0
 v0:=Tryz.zeroValue0
 t3:=Tryz.underlying3
 a3:=Tryz.isAgg3
 z3:=Tryz.sizeOf3
 v3:=Tryz.zeroValue3
 t4:=Tryz.underlying4
 a4:=Tryz.isAgg4
 z4:=Tryz.sizeOf4
 v4:=Tryz.zeroValue4
 t5:=Tryz.underlying5
 a5:=Tryz.isAgg5
 z5:=Tryz.sizeOf5
 v5:=Tryz.zeroValue5
 t9:=Tryz.underlying9
 a9:=Tryz.isAgg9
 z9:=Tryz.sizeOf9
 v9:=Tryz.zeroValue9
 t22:=Tryz.underlying25
 a22:=Tryz.isAgg25
 z22:=Tryz.sizeOf25
 v22:=Tryz.zeroValue25
 t25:=Tryz.underlying73
 a25:=Tryz.isAgg73
 z25:=Tryz.sizeOf73
 v25:=Tryz.zeroValue73
 t39:=Tryz.underlying133
 a39:=Tryz.isAgg133
 z39:=Tryz.sizeOf133
 v39:=Tryz.zeroValue133
 t45:=Tryz.underlying174
 a45:=Tryz.isAgg174
 z45:=Tryz.sizeOf174
 v45:=Tryz.zeroValue174
 t46:=Tryz.underlying175
 a46:=Tryz.isAgg175
 z46:=Tryz.sizeOf175
 v46:=Tryz.zeroValue175
 t50:=Tryz.underlying70
 a50:=Tryz.isAgg70
 z50:=Tryz.sizeOf70
 v50:=Tryz.zeroValue70
 t53:=Tryz.underlying181
 a53:=Tryz.isAgg181
 z53:=Tryz.sizeOf181
 v53:=Tryz.zeroValue181
 t55:=Tryz.underlying49
 a55:=Tryz.isAgg49
 z55:=Tryz.sizeOf49
 v55:=Tryz.zeroValue49
 t66:=Tryz.underlying201
 a66:=Tryz.isAgg201
 z66:=Tryz.sizeOf201
 v66:=Tryz.zeroValue201
 t70:=Tryz.underlying205
 a70:=Tryz.isAgg205
 z70:=Tryz.sizeOf205
 v70:=Tryz.zeroValue205
 t76:=Tryz.underlying222
 a76:=Tryz.isAgg222
 z76:=Tryz.sizeOf222
 v76:=Tryz.zeroValue222
 t77:=Tryz.underlying61
 a77:=Tryz.isAgg61
 z77:=Tryz.sizeOf61
 v77:=Tryz.zeroValue61
def slsortT_ren : Go.Shelf.Ren:=⟨fun | 6=>57 | 15=>95 | 14=>94 | 28=>130 | 29=>131 | 20=>122 | 21=>123 | 22=>124 | 23=>125 | 24=>126 | 25=>127 | 26=>128 | 27=>129 | 46=>155 | 47=>156 | 48=>157 | 49=>158 | 50=>159 | 57=>178 | n=>n,fun | 22=>25 | 24=>47 | 25=>73 | 3=>3 | 39=>133 | 0=>0 | 53=>181 | 55=>49 | 4=>4 | 46=>175 | 45=>174 | 50=>70 | 5=>5 | 9=>9 | 66=>201 | 70=>205 | 76=>222 | 77=>61 | n=>n,fun | n=>n⟩
theorem slsortT : Go.Proofs.SlLaysF.n6 Tryz.prog slsortT_ren where
 mixed:=by kernel_rfl
 f6:=⟨"slices.SortFunc[[]scantling/api.State,scantling/api.State]",by decide,Tryz.func57.trans (congrArg some (by kernel_rfl))⟩
 f14:=⟨"slices.pdqsortCmpFunc[scantling/api.State]",by decide,Tryz.func94.trans (congrArg some (by kernel_rfl))⟩
 f15:=Tryz.func95.trans (congrArg some (by kernel_rfl))
 f20:=⟨"slices.insertionSortCmpFunc[scantling/api.State]",by decide,Tryz.func122.trans (congrArg some (by kernel_rfl))⟩
 f21:=⟨"slices.heapSortCmpFunc[scantling/api.State]",by decide,Tryz.func123.trans (congrArg some (by kernel_rfl))⟩
 f22:=⟨"slices.breakPatternsCmpFunc[scantling/api.State]",by decide,Tryz.func124.trans (congrArg some (by kernel_rfl))⟩
 f23:=⟨"slices.choosePivotCmpFunc[scantling/api.State]",by decide,Tryz.func125.trans (congrArg some (by kernel_rfl))⟩
 f24:=⟨"slices.reverseRangeCmpFunc[scantling/api.State]",by decide,Tryz.func126.trans (congrArg some (by kernel_rfl))⟩
 f25:=⟨"slices.partialInsertionSortCmpFunc[scantling/api.State]",by decide,Tryz.func127.trans (congrArg some (by kernel_rfl))⟩
 f26:=⟨"slices.partitionEqualCmpFunc[scantling/api.State]",by decide,Tryz.func128.trans (congrArg some (by kernel_rfl))⟩
 f27:=⟨"slices.partitionCmpFunc[scantling/api.State]",by decide,Tryz.func129.trans (congrArg some (by kernel_rfl))⟩
 f28:=Tryz.func130.trans (congrArg some (by kernel_rfl))
 f29:=Tryz.func131.trans (congrArg some (by kernel_rfl))
 f46:=⟨"slices.siftDownCmpFunc[scantling/api.State]",by decide,Tryz.func155.trans (congrArg some (by kernel_rfl))⟩
 f47:=Tryz.func156.trans (congrArg some (by kernel_rfl))
 f48:=Tryz.func157.trans (congrArg some (by kernel_rfl))
 f49:=⟨"slices.medianAdjacentCmpFunc[scantling/api.State]",by decide,Tryz.func158.trans (congrArg some (by kernel_rfl))⟩
 f50:=⟨"slices.medianCmpFunc[scantling/api.State]",by decide,Tryz.func159.trans (congrArg some (by kernel_rfl))⟩
 f57:=⟨"slices.order2CmpFunc[scantling/api.State]",by decide,Tryz.func178.trans (congrArg some (by kernel_rfl))⟩
 t0:=Tryz.underlying0
 a0:=Tryz.isAgg0
 z0:=Tryz.sizeOf0
 v0:=Tryz.zeroValue0
 t3:=Tryz.underlying3
 a3:=Tryz.isAgg3
 z3:=Tryz.sizeOf3
 v3:=Tryz.zeroValue3
 t4:=Tryz.underlying4
 a4:=Tryz.isAgg4
 z4:=Tryz.sizeOf4
 v4:=Tryz.zeroValue4
 t5:=Tryz.underlying5
 a5:=Tryz.isAgg5
 z5:=Tryz.sizeOf5
 v5:=Tryz.zeroValue5
 t9:=Tryz.underlying9
 a9:=Tryz.isAgg9
 z9:=Tryz.sizeOf9
 v9:=Tryz.zeroValue9
 t22:=Tryz.underlying25
 a22:=Tryz.isAgg25
 z22:=Tryz.sizeOf25
 v22:=Tryz.zeroValue25
 a24:=Tryz.isAgg47
 z24:=Tryz.sizeOf47
 t25:=Tryz.underlying73
 a25:=Tryz.isAgg73
 z25:=Tryz.sizeOf73
 v25:=Tryz.zeroValue73
 t39:=Tryz.underlying133
 a39:=Tryz.isAgg133
 z39:=Tryz.sizeOf133
 v39:=Tryz.zeroValue133
 t45:=Tryz.underlying174
 a45:=Tryz.isAgg174
 z45:=Tryz.sizeOf174
 v45:=Tryz.zeroValue174
 t46:=Tryz.underlying175
 a46:=Tryz.isAgg175
 z46:=Tryz.sizeOf175
 v46:=Tryz.zeroValue175
 t50:=Tryz.underlying70
 a50:=Tryz.isAgg70
 z50:=Tryz.sizeOf70
 v50:=Tryz.zeroValue70
 t53:=Tryz.underlying181
 a53:=Tryz.isAgg181
 z53:=Tryz.sizeOf181
 v53:=Tryz.zeroValue181
 t55:=Tryz.underlying49
 a55:=Tryz.isAgg49
 z55:=Tryz.sizeOf49
 v55:=Tryz.zeroValue49
 t66:=Tryz.underlying201
 a66:=Tryz.isAgg201
 z66:=Tryz.sizeOf201
 v66:=Tryz.zeroValue201
 t70:=Tryz.underlying205
 a70:=Tryz.isAgg205
 z70:=Tryz.sizeOf205
 v70:=Tryz.zeroValue205
 t76:=Tryz.underlying222
 a76:=Tryz.isAgg222
 z76:=Tryz.sizeOf222
 v76:=Tryz.zeroValue222
 t77:=Tryz.underlying61
 a77:=Tryz.isAgg61
 z77:=Tryz.sizeOf61
 v77:=Tryz.zeroValue61
end Go.Proofs.YtahgmdbioafmbaaGreatDoor.V
namespace Go.Proofs.YtahgmdbioafmbaaGreatDoor.V
open Go Go.Shelf Go.RowKit
set_option linter.unusedVariables false
theorem bx169 : Builder.Extra Tryz.prog sl169_ren where
 sizeBuilder:=by kernel_rfl
 liesBuilder:=by kernel_rfl
 t5:=Tryz.underlying5
 a5:=Tryz.isAgg5
 z5:=Tryz.sizeOf5
 v5:=Tryz.zeroValue5
 infoByte:=by kernel_rfl
 cellsByte:=by kernel_rfl
 sizeByte:=by kernel_rfl
 neB5:=by decide
theorem b_string (B b : Nat) (l : List UInt8) (w : World) (h : Lib.IsBuilderF 96 5 B b (Lib.byteCells l) w) (hBw : B ≤ w.heap.size) :
  Calls Tryz.prog 71 #[.pointer (some ⟨b,0,none⟩)] w fun e w'=>e = .returned (.string ⟨l.toArray⟩) ∧ (Lib.IsBuilderF 96 5 B b (Lib.byteCells l) w' ∧ Below B w w' ∧ Lib.OthersKept 5 (some b) w w'):=Any.Builder_String_any_k sl169 bx169 B b l w h hBw
theorem b_itoa (n : Int) (h0 : -9223372036854775808 ≤ n) (h1 : n ≤ 9223372036854775807) (w : World) (htab : Lib.TabIs Tryz.prog w "internal/strconv.uint64pow10" .u64 Lib.pow10Tab) :
  Calls Tryz.prog 93 #[.int .i64 n] w fun e w'=>e = .returned (.string ⟨(Lib.itoa n).toArray⟩) ∧ ∃ k os,w' = Sort.grow (w.drewN k) os:=Any.strconv_Itoa sl171 n h0 h1 w htab
set_option maxHeartbeats 1000000 in
set_option maxRecDepth 100000 in
theorem b_used (b : Nat) (w : World) (h0 : w.cell? ⟨b,0,none⟩ = some (.pointer (some ⟨b,0,none⟩))) :
  Calls Tryz.prog 112 #[.pointer (some ⟨b,0,none⟩)] w fun e w'=>e = .returned (.tuple #[]) ∧ w' = w:=by
 obtain ⟨j,hj,_⟩:=Option.map_eq_some_iff.1 bx169.sizeBuilder
 go_enter Tryz.func112,Tryz.ntmps112
 go_wp2
 rw [Lib.run_neq_ptr_same w _ Tryz.underlying94 hj]
 go_wp2
 go_end0
 exact ⟨rfl,rfl⟩
set_option maxHeartbeats 1000000 in
set_option maxRecDepth 100000 in
theorem b_fresh (b : Nat) (w : World) (h0 : w.cell? ⟨b,0,none⟩ = some (.pointer none)) (hsh : w.shape? b = some (96,2)) (hfz : w.frozen? ⟨b,0,none⟩ = false) :
  Calls Tryz.prog 112 #[.pointer (some ⟨b,0,none⟩)] w fun e w'=>e = .returned (.tuple #[]) ∧ w' = w.setCell ⟨b,0,none⟩ (.pointer (some ⟨b,0,none⟩)):=by
 obtain ⟨j,hj,hjs⟩:=Option.map_eq_some_iff.1 bx169.sizeBuilder
 go_enter Tryz.func112,Tryz.ntmps112
 go_wp2
 rw [Lib.run_to_unsafe w ⟨b,0,none⟩ Tryz.underlying94 Tryz.underlying188 hj (by rw [hjs]; decide) hsh (Nat.zero_lt_succ 1)]
 simp only [Result.andThen]
 rw [Oper.upon_value]
 go_wp2
 rw [run_callFunc_extern Tryz.func139 (by kernel_rfl) (by kernel_rfl) (by kernel_rfl) (e:=Extern.AbiNoEscape.same) (by kernel_rfl)]
 rw [Lib.run_noEscape]
 simp only [Result.andThen]
 rw [Oper.upon_value]
 go_wp2
 rw [Lib.run_from_unsafe w ⟨b,0,none⟩ Tryz.underlying188 Tryz.underlying94 hj hsh bx169.liesBuilder]
 simp only [Result.andThen]
 rw [Oper.upon_value]
 go_wp2
 go_end0
 exact ⟨rfl,rfl⟩
theorem b_check (B b : Nat) (bs : List Value) (w : World) (h : Lib.IsBuilderF 96 5 B b bs w) :
  Calls Tryz.prog 112 #[.pointer (some ⟨b,0,none⟩)] w fun e w'=>e = .returned (.tuple #[]) ∧ (Lib.BuilderAtF 96 5 B b (.pointer (some ⟨b,0,none⟩)) bs w' ∧ Below B w w' ∧ Lib.OthersKept 5 (some b) w w'):=by
 rcases h with h | h
 ·refine (b_fresh b w h.cell0 h.shape h.frozen0).mono ?_
  rintro e w' ⟨rfl,rfl⟩
  exact ⟨rfl,h.used _,(Below.refl B w).setCell (p:=⟨b,0,none⟩) h.1 _,(Lib.OthersKept.refl _ _ w).setCell ⟨b,0,none⟩ rfl _⟩
 ·refine (b_used b w h.cell0).mono ?_
  rintro e w' ⟨rfl,rfl⟩
  exact ⟨rfl,h,Below.refl B _,Lib.OthersKept.refl _ _ _⟩
set_option maxHeartbeats 2000000 in
set_option maxRecDepth 100000 in
theorem b_byte (B b : Nat) (bs : List Value) (c : Int) (w : World) (h : Lib.IsBuilderF 96 5 B b bs w) (hlen : bs.length + 1 ≤ 140737488355328) (hBw : B ≤ w.heap.size) :
  Calls Tryz.prog 70 #[.pointer (some ⟨b,0,none⟩),.int .u8 c] w fun e w'=>e = .returned .nilIface ∧ (Lib.BuilderAtF 96 5 B b (.pointer (some ⟨b,0,none⟩)) (bs ++ [.int .u8 c]) w' ∧ Below B w w' ∧ Lib.OthersKept 5 (some b) w w'):=by
 obtain ⟨i0,hi,hz0,hz1,hz2⟩:=info_parts bx169.infoByte
 go_enter Tryz.func70,Tryz.ntmps70
 go_wp2_with (go_at_call 112; refine (b_check B b bs _ h).mono ?_)
 rintro e w1 ⟨rfl,h1,hb1,hk1⟩
 obtain ⟨hB,v,hbk,hown,hne⟩:=h1
 have c0 : w1.cell? ⟨b,0,none⟩ = some (.pointer (some ⟨b,0,none⟩)):=by rw [Lib.cell_of_heap hbk]; rfl
 have c1 : w1.cell? ⟨b,1,none⟩ = some v:=by rw [Lib.cell_of_heap hbk]; rfl
 go_wp2_with (at_builtin; refine wpList_append_ownF _ rfl _ _ 26 rfl B 5 i0 (.int .u8 0) 1 1 Tryz.underlying26 hi hz0 hz1 hz2 rfl (by decide) _ _ _ rfl (hown.alloc _) ⟨w1.heap.size,0,none⟩ 1 1 [.int .u8 c] rfl rfl ?c1 ?c2 ?c3 ?c4 ?c5 ?_)
 case c1=>
  intro j u hj
  match j,hj with
  | 0,hj=>simp at hj; subst hj; simp [Addr.add]
 case c2=>intro u hu; simp at hu; subst hu; rfl
 case c3=>unfold maxLen; omega
 case c4=>omega
 case c5=>have:=hb1.size; simp; omega
 intro v' w2 hown' hgrow _
 have hlt : b < w1.heap.size:=(Array.getElem?_eq_some_iff.1 hbk).1
 have hb2 : w2.heap[b]? = some (.cells #[.pointer (some ⟨b,0,none⟩),v] 96 (0,0)):=by
  rw [hgrow.block b (by simp; omega) (fun e=>hne e.symm),Lib.alloc_old w1 _ b hlt]
  exact hbk
 have d0 : w2.cell? ⟨b,0,none⟩ = some (.pointer (some ⟨b,0,none⟩)):=by rw [Lib.cell_of_heap hb2]; rfl
 have d1 : w2.cell? ⟨b,1,none⟩ = some v:=by rw [Lib.cell_of_heap hb2]; rfl
 have f1 : w2.frozen? ⟨b,1,none⟩ = false:=Lib.frozen_of_heap hb2 1
 obtain ⟨g,cap,rfl⟩ : ∃ g cap,v' = .slice (some ⟨g,0,none⟩) (bs.length + 1) cap:=by
  rcases hown'.2 with ⟨_,h0⟩ | ⟨g,cap,cur,fz,hv,_⟩
  ·omega
  ·exact ⟨g,cap,hv⟩
 go_wp2
 go_ret
 refine ⟨rfl, ?_, ?_,((hk1.alloc _).grown hgrow (Lib.ownsRowF_kind (hown.alloc _))).setCell ⟨b,1,none⟩ rfl _⟩
 ·exact Lib.BuilderAtF.put (T:=96) (e:=5) hB hb2 (bs':=bs ++ [.int .u8 c]) (by simpa using hown') (by decide)
 ·exact ((hb1.alloc (by have:=hb1.size; omega) _).grown hgrow (by have:=hb1.size; simp; omega) (fun k hk=>(hown.lt k hk).1)).setCell (p:=⟨b,1,none⟩) hB _
set_option maxHeartbeats 2000000 in
set_option maxRecDepth 100000 in
theorem b_text (B b : Nat) (bs : List Value) (s : ByteArray) (w : World) (h : Lib.IsBuilderF 96 5 B b bs w) (hlen : bs.length + s.size ≤ 140737488355328) (hBw : B ≤ w.heap.size) :
  Calls Tryz.prog 69 #[.pointer (some ⟨b,0,none⟩),.string s] w fun e w'=>e = .returned (.tuple #[.int .i64 s.size,.nilIface]) ∧ (Lib.BuilderAtF 96 5 B b (.pointer (some ⟨b,0,none⟩)) (bs ++ Lib.strCells s) w' ∧ Below B w w' ∧ Lib.OthersKept 5 (some b) w w'):=by
 obtain ⟨i0,hi,hz0,hz1,hz2⟩:=info_parts bx169.infoByte
 go_enter Tryz.func69,Tryz.ntmps69
 go_wp2_with (go_at_call 112; refine (b_check B b bs _ h).mono ?_)
 rintro e w1 ⟨rfl,h1,hb1,hk1⟩
 obtain ⟨hB,v,hbk,hown,hne⟩:=h1
 have c0 : w1.cell? ⟨b,0,none⟩ = some (.pointer (some ⟨b,0,none⟩)):=by rw [Lib.cell_of_heap hbk]; rfl
 have c1 : w1.cell? ⟨b,1,none⟩ = some v:=by rw [Lib.cell_of_heap hbk]; rfl
 go_wp2_with (at_builtin; refine Lib.wpList_append_own_stringF _ rfl _ _ 26 9 rfl B 5 i0 Tryz.underlying26 Tryz.underlying9 hi hz0 hz1 hz2 _ _ _ rfl hown s rfl ?c3 ?c4 ?c5 ?_)
 case c3=>unfold maxLen; omega
 case c4=>omega
 case c5=>have:=hb1.size; omega
 intro v' w2 hown' hgrow _
 have hlt : b < w1.heap.size:=(Array.getElem?_eq_some_iff.1 hbk).1
 have hb2 : w2.heap[b]? = some (.cells #[.pointer (some ⟨b,0,none⟩),v] 96 (0,0)):=by
  rw [hgrow.block b hlt (fun e=>hne e.symm)]
  exact hbk
 have d0 : w2.cell? ⟨b,0,none⟩ = some (.pointer (some ⟨b,0,none⟩)):=by rw [Lib.cell_of_heap hb2]; rfl
 have d1 : w2.cell? ⟨b,1,none⟩ = some v:=by rw [Lib.cell_of_heap hb2]; rfl
 have f1 : w2.frozen? ⟨b,1,none⟩ = false:=Lib.frozen_of_heap hb2 1
 obtain ⟨ao,n',cap,rfl⟩ : ∃ ao n' cap,v' = .slice ao n' cap:=by
  rcases hown'.2 with ⟨hv,_⟩ | ⟨g,cap,cur,fz,hv,_⟩
  ·exact ⟨_,_,_,hv⟩
  ·exact ⟨_,_,_,hv⟩
 go_wp2
 go_ret2
 refine ⟨rfl, ?_, ?_,(hk1.grown hgrow (Lib.ownsRowF_kind hown)).setCell ⟨b,1,none⟩ rfl _⟩
 ·exact Lib.BuilderAtF.put (T:=96) (e:=5) hB hb2 (bs':=bs ++ Lib.strCells s) (by simpa [Lib.strCells_length] using hown') (by decide)
 ·exact (hb1.grown hgrow (by have:=hb1.size; omega) (fun k hk=>(hown.lt k hk).1)).setCell (p:=⟨b,1,none⟩) hB _
end Go.Proofs.YtahgmdbioafmbaaGreatDoor.V
namespace Go.Proofs.YtahgmdbioafmbaaGreatDoor.V
open Go Go.Shelf Go.RowKit
set_option linter.unusedVariables false
theorem add_block (a : Addr) (k : Nat) : (a.add k).block = a.block:=by unfold Addr.add; split <;> rfl
def ItemsAt (w : World) (a : Addr) (xs : List SItem) : Prop:=a.block < w.heap.size ∧ ∀ (i : Nat) (x : SItem),xs[i]? = some x →
 w.cell? (a.add (i * 4)) = some (.int .i64 x.1) ∧ w.cell? ⟨(a.add (i * 4)).block,(a.add (i * 4)).off + 1,none⟩ = some (.int .i64 x.2.1) ∧ w.cell? ⟨(a.add (i * 4)).block,(a.add (i * 4)).off + 2,none⟩ = some (.int .i64 x.2.2.1) ∧ w.cell? ⟨(a.add (i * 4)).block,(a.add (i * 4)).off + 3,none⟩ = some (.int .i64 x.2.2.2)
theorem ItemsAt.below {w w' : World} {a : Addr} {xs : List SItem} (h : ItemsAt w a xs) {B : Nat} (hb : Below B w w') (hB : a.block < B) {i : Nat} {x : SItem} (hx : xs[i]? = some x) :
  w'.cell? (a.add (i * 4)) = some (.int .i64 x.1) ∧ w'.cell? ⟨(a.add (i * 4)).block,(a.add (i * 4)).off + 1,none⟩ = some (.int .i64 x.2.1) ∧ w'.cell? ⟨(a.add (i * 4)).block,(a.add (i * 4)).off + 2,none⟩ = some (.int .i64 x.2.2.1) ∧ w'.cell? ⟨(a.add (i * 4)).block,(a.add (i * 4)).off + 3,none⟩ = some (.int .i64 x.2.2.2):=by
 obtain ⟨h0,h1,h2,h3⟩:=h.2 i x hx
 refine ⟨?_, ?_, ?_, ?_⟩
 ·rw [hb.cell (by rw [add_block]; exact hB)]; exact h0
 ·rw [hb.cell (by show (a.add (i * 4)).block < B; rw [add_block]; exact hB)]; exact h1
 ·rw [hb.cell (by show (a.add (i * 4)).block < B; rw [add_block]; exact hB)]; exact h2
 ·rw [hb.cell (by show (a.add (i * 4)).block < B; rw [add_block]; exact hB)]; exact h3
theorem builder_below {B b : Nat} {bs : List Value} {W W' : World} (h : Lib.IsBuilderF 96 5 B b bs W) (hb : Below W.heap.size W W') : Lib.IsBuilderF 96 5 B b bs W':=by
 have one : ∀ p,Lib.BuilderAtF 96 5 B b p bs W → Lib.BuilderAtF 96 5 B b p bs W':=fun p hp=>by
  have hlt:=hp.lt
  obtain ⟨hB,v,hv,hown,hne⟩:=hp
  exact ⟨hB,v,(hb.block b hlt).trans hv,hown.kept (row:=none) ⟨hb.os,hb.tape,hb.output,hb.size,fun k hk _=>hb.block k hk⟩ (Classical.em _),hne⟩
 exact h.elim (fun x=>.inl (one _ x)) (fun x=>.inr (one _ x))
theorem tab_below {B : Nat} {w w' : World} (h : Lib.TabIs Tryz.prog w "internal/strconv.uint64pow10" .u64 Lib.pow10Tab) (hb : Below B w w') (hB : 2 < B) : Lib.TabIs Tryz.prog w' "internal/strconv.uint64pow10" .u64 Lib.pow10Tab:=by
 unfold Lib.TabIs World.var? at *
 have hg : Tryz.prog.globalNamed "internal/strconv.uint64pow10" = some 2:=by kernel_rfl
 rw [hg] at h ⊢
 simp only [Option.bind_some] at h ⊢
 rw [hb.block 2 hB]; exact h
theorem alloc2 (w : World) (o1 o2 : Obj) : ((w.alloc o1).alloc o2).heap[w.heap.size + 1]? = some o2:=by
 have:=heap_alloc_new (w.alloc o1) o2
 rwa [show (w.alloc o1).heap.size = w.heap.size + 1 by simp] at this
theorem keyN_snoc (l : List Int) (z : Int) : keyN (l ++ [z]) = keyN l ++ (Lib.itoa z ++ [32]):=by simp [keyN]
theorem keyS_snoc (l : List SItem) (x : SItem) : keyS (l ++ [x]) = keyS l ++ keyN (nums4 x):=by simp [keyS,keyN,numsS]
theorem keyN_len {l : List Int} (h : ∀ z ∈ l,InR .i64 z) : (keyN l).length ≤ 22 * l.length:=by
 induction l with
 | nil=>simp [keyN]
 | cons z l ih=>
  have h1:=inR_i64.1 (h z (by simp))
  have h2:=Lib.itoa_length_le z h1.1 h1.2
  have h3:=ih fun y hy=>h y (by simp [hy])
  have e : keyN (z :: l) = (Lib.itoa z ++ [32]) ++ keyN l:=by simp [keyN]
  rw [e]
  simp only [List.length_append,List.length_cons,List.length_nil]
  omega
theorem numsS_len (l : List SItem) : (numsS l).length = 4 * l.length:=by
 induction l with
 | nil=>rfl
 | cons x l ih=>simp only [numsS,List.flatMap_cons,List.length_append] at ih ⊢; rw [ih]; simp [nums4]; omega
set_option maxHeartbeats 4000000 in
set_option maxRecDepth 1000000 in
theorem key_walk (xs : List SItem) (a : Addr) (cap : Nat) (w : World) (hn : xs.length ≤ 1000) (hz : ∀ x ∈ xs,∀ z ∈ nums4 x,InR .i64 z) (hc : ItemsAt w a xs) (htab : Lib.TabIs Tryz.prog w "internal/strconv.uint64pow10" .u64 Lib.pow10Tab) :
  Calls Tryz.prog 56 #[.slice (some a) xs.length cap] w fun e w'=>e = .returned (.string ⟨(keyS xs).toArray⟩) ∧ Below w.heap.size w w':=by
 have hpos : 2 < w.heap.size:=by
  have h:=htab
  unfold Lib.TabIs World.var? at h
  have hg : Tryz.prog.globalNamed "internal/strconv.uint64pow10" = some 2:=by kernel_rfl
  rw [hg] at h
  simp only [Option.bind_some] at h
  rcases Nat.lt_or_ge 2 w.heap.size with hh | hh
  ·exact hh
  ·rw [Array.getElem?_eq_none hh] at h; cases h
 have hlen : ∀ i,(keyS (xs.take i)).length ≤ 88000:=fun i=>by
  have h1:=keyN_len (l:=numsS (xs.take i)) fun z hzz=>by
   obtain ⟨x,hx,hzx⟩:=List.mem_flatMap.1 hzz
   exact hz x (List.mem_of_mem_take hx) z hzx
  have h2:=numsS_len (xs.take i)
  have h3 : (xs.take i).length ≤ xs.length:=by simp; omega
  show (keyN (numsS (xs.take i))).length ≤ _
  omega
 go_enter Tryz.func56,Tryz.ntmps56
 go_wp2
 go_loopw [10] (fun v10 wr=>∃ i : Nat,v10 = .int .i64 i ∧ i ≤ xs.length ∧ Lib.IsBuilderF 96 5 w.heap.size w.heap.size (Lib.byteCells (keyS (xs.take i))) wr ∧ Below w.heap.size w wr) (fun v10 _=>xs.length - (Lib.intOf v10).toNat)
 case atStart=>
  refine ⟨0,rfl,Nat.zero_le _,Lib.IsBuilderF.of (Lib.fresh_isBuilder 96 5 w),(Below.refl _ w).alloc (Nat.le_refl _) _⟩
 case round=>
  obtain ⟨i,rfl,hi,hB,hbw⟩:=hrel
  obtain ⟨wo,hwo⟩ : ∃ wo,wo = wr:=⟨wr,rfl⟩
  subst hwo
  by_cases hlt : i < xs.length
  ·obtain ⟨x,hx⟩ : ∃ x,xs[i]? = some x:=⟨xs[i],by simp [hlt]⟩
   have hxm : x ∈ xs:=List.mem_of_getElem? hx
   obtain ⟨c0,c1,c2,c3⟩:=hc.below hbw hc.1 hx
   have hsz:=hbw.size
   have hli:=hlen i
   go_wp2
   go_loopw [24] (fun v24 wi=>∃ j : Nat,v24 = .int .i64 j ∧ j ≤ 4 ∧ Lib.IsBuilderF 96 5 w.heap.size w.heap.size (Lib.byteCells (keyS (xs.take i) ++ keyN ((nums4 x).take j))) wi ∧ wi.heap[wo.heap.size + 1]? = some (.cells #[.int .i64 x.1,.int .i64 x.2.1,.int .i64 x.2.2.1,.int .i64 x.2.2.2] 3 (0,0)) ∧ Below w.heap.size w wi) (fun v24 _=>4 - (Lib.intOf v24).toNat)
   case atStart=>
    refine ⟨0,rfl,by omega, ?_, ?_, ?_⟩
    ·have : keyS (xs.take i) ++ keyN ((nums4 x).take 0) = keyS (xs.take i):=by simp [keyN]
     rw [this]
     exact (hB.alloc _).alloc _
    ·exact alloc2 wo _ _
    ·exact (hbw.alloc hsz _).alloc (by simp; omega) _
   case round=>
    obtain ⟨j,rfl,hj,hBi,hgi,hbi⟩:=hrel
    by_cases hjl : j < 4
    ·obtain ⟨z,hzj⟩ : ∃ z,(nums4 x)[j]? = some z:=⟨(nums4 x)[j]'(by simpa [nums4] using hjl),by simp [nums4,hjl]⟩
     have hzr:=inR_i64.1 (hz x hxm z (List.mem_of_getElem? hzj))
     have hil:=Lib.itoa_length_le z hzr.1 hzr.2
     have hll : (keyS (xs.take i) ++ keyN ((nums4 x).take j)).length ≤ 88088:=by
      have h1:=keyN_len (l:=(nums4 x).take j) fun y hy=>hz x hxm y (List.mem_of_mem_take hy)
      have h2 : ((nums4 x).take j).length ≤ 4:=by simp [nums4]; omega
      rw [List.length_append]; omega
     have hcell : wr.cell? ⟨wo.heap.size + 1,j,none⟩ = some (.int .i64 z):=by
      have e : (#[Value.int .i64 x.1,.int .i64 x.2.1,.int .i64 x.2.2.1,.int .i64 x.2.2.2] : Array Value)[j]? = ((nums4 x).map (Value.int .i64))[j]?:=by simp [nums4]
      rw [cell_of_row wr (wo.heap.size + 1) _ _ 3 (0,0) hgi,e,List.getElem?_map,hzj]; rfl
     have hszi:=hbi.size
     have htk : keyS (xs.take i) ++ keyN ((nums4 x).take (j + 1)) = (keyS (xs.take i) ++ keyN ((nums4 x).take j)) ++ (Lib.itoa z ++ [32]):=by
      rw [List.take_add_one,hzj,Option.toList_some,keyN_snoc,List.append_assoc]
     generalize hK : keyS (xs.take i) ++ keyN ((nums4 x).take j) = K at *
     go_wp2_with (go_at_call 93; refine (b_itoa z hzr.1 hzr.2 _ (tab_below htab hbi hpos)).mono ?_; rintro e w1 ⟨rfl,k,os,rfl⟩; refine Hid.out ?_)
     refine Lib.hid ?_
     have hb1 : Below wr.heap.size wr (Sort.grow (wr.drewN k) os):=Lib.below_grow _ wr (Nat.le_refl _) k os
     generalize Sort.grow (wr.drewN k) os = W1 at *
     have hB1:=builder_below hBi hb1
     have hgl : wo.heap.size + 1 < wr.heap.size:=(Array.getElem?_eq_some_iff.1 hgi).1
     have hg1:=(hb1.block _ hgl).trans hgi
     have hbi1:=hbi.trans (hb1.mono hszi)
     have hsz1:=hbi1.size
     go_wp2_with (go_at_call 69; refine (b_text w.heap.size w.heap.size _ ⟨(Lib.itoa z).toArray⟩ W1 hB1 (by rw [Lib.byteCells_length]; show K.length + (Lib.itoa z).toArray.size ≤ _; simp; omega) hsz1).mono ?_; rintro e w2 ⟨rfl,h2,b2,k2⟩; refine Hid.out ?_)
     refine Lib.hid ?_
     have hB2 : Lib.IsBuilderF 96 5 w.heap.size w.heap.size (Lib.byteCells (K ++ Lib.itoa z)) w2:=by rw [Lib.byteCells_append]; exact .inr h2
     have hg2:=k2 _ _ hg1 (by simp; omega) (by intro c fz he; cases he)
     have hsz2:=(hbi1.trans b2).size
     go_wp2_with (go_at_call 70; refine (b_byte w.heap.size w.heap.size _ 32 w2 hB2 (by rw [Lib.byteCells_length,List.length_append]; omega) hsz2).mono ?_; rintro e w3 ⟨rfl,h3,b3,k3⟩; refine Hid.out ?_)
     refine Lib.hid ?_
     have hB3 : Lib.IsBuilderF 96 5 w.heap.size w.heap.size (Lib.byteCells (K ++ (Lib.itoa z ++ [32]))) w3:=by
      rw [← List.append_assoc,Lib.byteCells_append]; exact .inr h3
     have hg3:=k3 _ _ hg2 (by simp; omega) (by intro c fz he; cases he)
     have hb3:=(hbi1.trans b2).trans b3
     go_wp2
     go_roundw
     case rel=>exact ⟨j + 1,rfl,by omega,by rw [htk]; exact hB3,hg3,hb3⟩
     case measure=>simp [Lib.intOf]; omega
    ·have hj4 : j = 4:=by omega
     subst hj4
     go_wp2
     go_roundw
     case rel=>
      refine ⟨i + 1,rfl,by omega, ?_,hbi⟩
      have e : xs.take (i + 1) = xs.take i ++ [x]:=by rw [List.take_add_one,hx]; rfl
      rw [e,keyS_snoc]
      have e4 : (nums4 x).take 4 = nums4 x:=rfl
      rw [e4] at hBi; exact hBi
     case measure=>simp [Lib.intOf]; omega
  ·have hin : i = xs.length:=by omega
   subst hin
   go_wp2_with (go_at_call 71; refine (b_string w.heap.size w.heap.size _ _ hB hbw.size).mono ?_)
   rintro e W1 ⟨rfl,_,b1,_⟩
   go_wp2
   go_ret
   exact ⟨by simp,hbw.trans b1⟩
set_option maxHeartbeats 4000000 in
set_option maxRecDepth 1000000 in
theorem key_none (ad : Option Addr) (cap : Nat) (w : World) : Calls Tryz.prog 56 #[.slice ad 0 cap] w fun e w'=>e = .returned (.string ⟨#[]⟩) ∧ Below w.heap.size w w':=by
 go_enter Tryz.func56,Tryz.ntmps56
 go_wp2
 go_loopw [10] (fun v10 wr=>v10 = .int .i64 0 ∧ Lib.IsBuilderF 96 5 w.heap.size w.heap.size (Lib.byteCells []) wr ∧ Below w.heap.size w wr) (fun _ _=>0)
 case atStart=>
  exact ⟨rfl,Lib.IsBuilderF.of (Lib.fresh_isBuilder 96 5 w),(Below.refl _ w).alloc (Nat.le_refl _) _⟩
 case round=>
  obtain ⟨rfl,hB,hbw⟩:=hrel
  go_wp2_with (go_at_call 71; refine (b_string w.heap.size w.heap.size _ _ hB hbw.size).mono ?_)
  rintro e W1 ⟨rfl,_,b1,_⟩
  go_wp2
  go_ret
  exact ⟨rfl,hbw.trans b1⟩
theorem items_at {w : World} {S : Nat → Prop} {v : Value} {xs : List SItem} (h : SlV En.SItem w S v xs) (hS : ∀ b,S b → b < w.heap.size) (hne : xs ≠ []) : ∃ a cap,v = .slice (some a) xs.length cap ∧ ItemsAt w a xs ∧ ∀ x ∈ xs,∀ z ∈ nums4 x,InR .i64 z:=by
 obtain ⟨ad,cap,rfl,h1,h2,h3,h4⟩:=h
 obtain ⟨b,off,css,rfl,hb,hE,hc⟩:=h4 hne
 have key : ∀ (i : Nat) (x : SItem),xs[i]? = some x → ∃ p q r t : Int,x = (p,q,r,t) ∧ InR .i64 p ∧ InR .i64 q ∧ InR .i64 r ∧ InR .i64 t ∧ css[i]? = some [.int .i64 p,.int .i64 q,.int .i64 r,.int .i64 t]:=by
  intro i x hx
  have hlt : i < xs.length:=(List.getElem?_eq_some_iff.1 hx).1
  obtain ⟨cs,hcs⟩ : ∃ cs,css[i]? = some cs:=⟨css[i]'(by rw [hE.1]; exact hlt),by simp⟩
  obtain ⟨c0,r0,rfl,⟨rfl,i0⟩,c1,r1,rfl,⟨rfl,i1⟩,c2,c3,rfl,⟨rfl,i2⟩,⟨rfl,i3⟩⟩:=hE.2 i cs x hcs hx
  exact ⟨_,_,_,_,rfl,i0,i1,i2,i3,hcs⟩
 refine ⟨⟨b,off,none⟩,cap,rfl,⟨hS b hb,fun i x hx=>?_⟩,fun x hx z hz=>?_⟩
 ·obtain ⟨p,q,r,t,rfl,_,_,_,_,hcs⟩:=key i x hx
  have hf:=fun (j : Nat) (u : Value) (hu : [Value.int .i64 p,.int .i64 q,.int .i64 r,.int .i64 t][j]? = some u)=>hc _ u (flat_get hE.lens hcs hu)
  have hsz : En.SItem.sz = 4:=rfl
  rw [hsz] at hf
  rw [add_lit]
  refine ⟨hf 0 _ rfl, ?_, ?_, ?_⟩
  ·have:=hf 1 _ rfl; rw [← Nat.add_assoc] at this; exact this
  ·have:=hf 2 _ rfl; rw [← Nat.add_assoc] at this; exact this
  ·have:=hf 3 _ rfl; rw [← Nat.add_assoc] at this; exact this
 ·obtain ⟨i,hi⟩:=List.getElem?_of_mem hx
  obtain ⟨p,q,r,t,rfl,i0,i1,i2,i3,_⟩:=key i x hi
  simp only [nums4,List.mem_cons,List.not_mem_nil,or_false] at hz
  rcases hz with rfl | rfl | rfl | rfl <;> assumption
theorem keyS_len {l : List SItem} (h : ∀ x ∈ l,∀ z ∈ nums4 x,InR .i64 z) : (keyS l).length ≤ 88 * l.length:=by
 have h1:=keyN_len (l:=numsS l) fun z hzz=>by
  obtain ⟨x,hx,hzx⟩:=List.mem_flatMap.1 hzz
  exact h x hx z hzx
 have h2:=numsS_len l
 show (keyN (numsS l)).length ≤ _
 omega
theorem item_Key_ok {s_ : (List SItem)} {r_ : Str} (h : item_Key s_ r_) : Fn Tryz.prog 56 [(Pd.rep (En.slice En.SItem) s_)] (Rq (Pd.rep En.str r_)):=by
 obtain ⟨hn,rfl⟩:=h
 refine ⟨call_of Tryz.func56 rfl (by rfl),fun s vs hgl hv=>?_⟩
 match vs,hv with
 | [v],⟨hv,_⟩=>
  have hsl:=rep_slice.1 hv
  have fin : ∀ (x : Str) (w' : World),x.length ≤ 9223372036854775807 → Below s.w.heap.size s.w w' → ∃ (v : Value) (s' : St),Ending.returned (.string ⟨x.toArray⟩) = .returned v ∧ s'.w = w' ∧ Ex s s' ∧ Rq (Pd.rep En.str x) s s' v:=fun x w' hx hb=>
   ⟨_,⟨w',s.X,fun b hb'=>Nat.lt_of_lt_of_le (s.lt b hb') hb.size⟩,rfl,rfl,⟨⟨DR.kit,hb.os,hb.tape,hb.output,hb.size,fun b hb' _=>hb.block b hb',fun _ h=>h.elim,fun b h=>.inl h⟩,fun b h=>h⟩,rep_str.2 ⟨rfl,hx⟩⟩
  by_cases hne : s_ = []
  ·subst hne
   obtain ⟨ad,cap,rfl,_⟩:=hsl
   refine (key_none ad cap s.w).mono fun e w' ⟨he,hb⟩=>?_
   subst he
   exact fin [] w' (by simp) hb
  ·obtain ⟨a,cap,rfl,hat,hz⟩:=items_at hsl (fun b hb=>hb.1) hne
   have htab : Lib.TabIs Tryz.prog s.w "internal/strconv.uint64pow10" .u64 Lib.pow10Tab:=by
    obtain ⟨_,t,fr,h2⟩:=hgl.1 _ (by unfold gtab; exact List.mem_cons_self)
    unfold Lib.TabIs World.var?
    have hg : Tryz.prog.globalNamed "internal/strconv.uint64pow10" = some 2:=by kernel_rfl
    rw [hg]
    simp only [Option.bind_some]
    rw [h2]
    simp [Lib.pow10Tab]
   have hl:=keyS_len hz
   refine (key_walk s_ a cap s.w hn hz hat htab).mono fun e w' ⟨he,hb⟩=>?_
   subst he
   exact fin _ w' (by omega) hb
end Go.Proofs.YtahgmdbioafmbaaGreatDoor.V
namespace Go.Proofs.YtahgmdbioafmbaaGreatDoor.V
open Go Go.Shelf Go.RowKit
set_option linter.unusedVariables false
theorem SlV.same {α : Type} {E : En α} {w w' : World} {S : Nat → Prop} {v : Value} {xs : List α} (hs : Same S w w') (h : SlV E w S v xs) : SlV E w' S v xs:=by
 have:=(En.slice E).move hs (cs:=[v]) (x:=xs) ⟨v,rfl,h⟩
 obtain ⟨u,e,k⟩:=this
 injection e with e1 e2
 subst e1; exact k
theorem key_any (xs : List SItem) (v : Value) (w : World) (hn : xs.length ≤ 1000) (hv : SlV En.SItem w (fun b=>b < w.heap.size) v xs) (htab : Lib.TabIs Tryz.prog w "internal/strconv.uint64pow10" .u64 Lib.pow10Tab) :
  Calls Tryz.prog 56 #[v] w fun e w'=>e = .returned (.string ⟨(keyS xs).toArray⟩) ∧ Below w.heap.size w w':=by
 by_cases hne : xs = []
 ·subst hne
  obtain ⟨ad,cap,rfl,_⟩:=hv
  exact key_none ad cap w
 ·obtain ⟨a,cap,rfl,hat,hz⟩:=items_at hv (fun b hb=>hb) hne
  exact key_walk xs a cap w hn hz hat htab
theorem keyL_snoc (l : List (List SItem)) (x : List SItem) : keyL (l ++ [x]) = keyL l ++ (keyS x ++ [47]):=by simp [keyL]
def StatesAt (w : World) (a : Addr) (l : List (List SItem)) : Prop:=a.block < w.heap.size ∧ ∀ (i : Nat) (x : List SItem),l[i]? = some x → ∃ v,w.cell? (a.add i) = some v ∧ SlV En.SItem w (fun b=>b < w.heap.size) v x
theorem states_z {w : World} {S : Nat → Prop} {v : Value} {xs : List SItem} (h : SlV En.SItem w S v xs) (hS : ∀ b,S b → b < w.heap.size) : ∀ x ∈ xs,∀ z ∈ nums4 x,InR .i64 z:=by
 by_cases hne : xs = []
 ·subst hne; intro x hx; cases hx
 ·obtain ⟨_,_,_,_,hz⟩:=items_at h hS hne
  exact hz
theorem keyL_len {l : List (List SItem)} (h : ∀ s ∈ l,s.length ≤ 1000 ∧ ∀ x ∈ s,∀ z ∈ nums4 x,InR .i64 z) : (keyL l).length ≤ 88001 * l.length:=by
 induction l with
 | nil=>simp [keyL]
 | cons s l ih=>
  have h1:=h s (by simp)
  have h2:=keyS_len h1.2
  have h3:=ih fun u hu=>h u (by simp [hu])
  have e : keyL (s :: l) = (keyS s ++ [47]) ++ keyL l:=by simp [keyL]
  rw [e]
  simp only [List.length_append,List.length_cons,List.length_nil]
  omega
set_option maxHeartbeats 4000000 in
set_option maxRecDepth 1000000 in
theorem skey_walk (l : List (List SItem)) (a : Addr) (cap : Nat) (w : World) (hn : l.length ≤ 1000000000) (hl : ∀ s ∈ l,s.length ≤ 1000) (hc : StatesAt w a l) (htab : Lib.TabIs Tryz.prog w "internal/strconv.uint64pow10" .u64 Lib.pow10Tab) :
  Calls Tryz.prog 35 #[.slice (some a) l.length cap] w fun e w'=>e = .returned (.string ⟨(keyL l).toArray⟩) ∧ Below w.heap.size w w':=by
 have hpos : 2 < w.heap.size:=by
  have h:=htab
  unfold Lib.TabIs World.var? at h
  have hg : Tryz.prog.globalNamed "internal/strconv.uint64pow10" = some 2:=by kernel_rfl
  rw [hg] at h
  simp only [Option.bind_some] at h
  rcases Nat.lt_or_ge 2 w.heap.size with hh | hh
  ·exact hh
  ·rw [Array.getElem?_eq_none hh] at h; cases h
 have hzz : ∀ s ∈ l,s.length ≤ 1000 ∧ ∀ x ∈ s,∀ z ∈ nums4 x,InR .i64 z:=fun s hs=>by
  obtain ⟨i,hi⟩:=List.getElem?_of_mem hs
  obtain ⟨v,_,h2⟩:=hc.2 i s hi
  exact ⟨hl s hs,states_z h2 fun b hb=>hb⟩
 have hlen : ∀ i,(keyL (l.take i)).length ≤ 88001000000000:=fun i=>by
  have h1:=keyL_len (l:=l.take i) fun s hs=>hzz s (List.mem_of_mem_take hs)
  have h3 : (l.take i).length ≤ l.length:=by simp; omega
  omega
 go_enter Tryz.func35,Tryz.ntmps35
 go_wp2
 go_loopw [8] (fun v8 wr=>∃ i : Nat,v8 = .int .i64 i ∧ i ≤ l.length ∧ Lib.IsBuilderF 96 5 w.heap.size w.heap.size (Lib.byteCells (keyL (l.take i))) wr ∧ Below w.heap.size w wr) (fun v8 _=>l.length - (Lib.intOf v8).toNat)
 case atStart=>
  refine ⟨0,rfl,Nat.zero_le _,Lib.IsBuilderF.of (Lib.fresh_isBuilder 96 5 w),(Below.refl _ w).alloc (Nat.le_refl _) _⟩
 case round=>
  obtain ⟨i,rfl,hi,hB,hbw⟩:=hrel
  by_cases hlt : i < l.length
  ·obtain ⟨x,hx⟩ : ∃ x,l[i]? = some x:=⟨l[i],by simp [hlt]⟩
   have hxm : x ∈ l:=List.mem_of_getElem? hx
   obtain ⟨v,c0,hsv⟩:=hc.2 i x hx
   have c1 : wr.cell? (a.add i) = some v:=by rw [hbw.cell (by rw [add_block]; exact hc.1)]; exact c0
   have hsz:=hbw.size
   have hsv1 : SlV En.SItem wr (fun b=>b < wr.heap.size) v x:=by
    have h1:=SlV.same (w':=wr) (fun b hb=>hbw.block b hb) hsv
    obtain ⟨u,e,k⟩:=(En.slice En.SItem).mono (S':=fun b=>b < wr.heap.size) (fun b hb=>Nat.lt_of_lt_of_le hb hsz) (cs:=[v]) (x:=x) ⟨v,rfl,h1⟩
    injection e with e1 e2
    subst e1; exact k
   have hli:=hlen i
   have hkl:=keyS_len (hzz x hxm).2
   have hx1000:=hl x hxm
   have htk : keyL (l.take (i + 1)) = keyL (l.take i) ++ (keyS x ++ [47]):=by
    rw [List.take_add_one,hx,Option.toList_some,keyL_snoc]
   generalize hK : keyL (l.take i) = K at *
   go_wp2_with (go_at_call 56; refine (key_any x v _ hx1000 hsv1 (tab_below htab hbw hpos)).mono ?_; rintro e w1 ⟨rfl,hb1⟩; refine Hid.out ?_)
   refine Lib.hid ?_
   have hB1:=builder_below hB hb1
   have hbw1:=hbw.trans (hb1.mono hsz)
   have hsz1:=hbw1.size
   go_wp2_with (go_at_call 69; refine (b_text w.heap.size w.heap.size _ ⟨(keyS x).toArray⟩ w1 hB1 (by rw [Lib.byteCells_length]; show K.length + (keyS x).toArray.size ≤ _; simp; omega) hsz1).mono ?_; rintro e w2 ⟨rfl,h2,b2,k2⟩; refine Hid.out ?_)
   refine Lib.hid ?_
   have hB2 : Lib.IsBuilderF 96 5 w.heap.size w.heap.size (Lib.byteCells (K ++ keyS x)) w2:=by rw [Lib.byteCells_append]; exact .inr h2
   have hsz2:=(hbw1.trans b2).size
   go_wp2_with (go_at_call 70; refine (b_byte w.heap.size w.heap.size _ 47 w2 hB2 (by rw [Lib.byteCells_length,List.length_append]; omega) hsz2).mono ?_; rintro e w3 ⟨rfl,h3,b3,k3⟩; refine Hid.out ?_)
   refine Lib.hid ?_
   have hB3 : Lib.IsBuilderF 96 5 w.heap.size w.heap.size (Lib.byteCells (K ++ (keyS x ++ [47]))) w3:=by
    rw [← List.append_assoc,Lib.byteCells_append]; exact .inr h3
   have hb3:=(hbw1.trans b2).trans b3
   go_wp2
   go_roundw
   case rel=>exact ⟨i + 1,rfl,by omega,by rw [htk]; exact hB3,hb3⟩
   case measure=>simp [Lib.intOf]; omega
  ·have hin : i = l.length:=by omega
   subst hin
   go_wp2_with (go_at_call 71; refine (b_string w.heap.size w.heap.size _ _ hB hbw.size).mono ?_)
   rintro e W1 ⟨rfl,_,b1,_⟩
   go_wp2
   go_ret
   exact ⟨by simp,hbw.trans b1⟩
set_option maxHeartbeats 4000000 in
set_option maxRecDepth 1000000 in
theorem skey_none (ad : Option Addr) (cap : Nat) (w : World) : Calls Tryz.prog 35 #[.slice ad 0 cap] w fun e w'=>e = .returned (.string ⟨#[]⟩) ∧ Below w.heap.size w w':=by
 go_enter Tryz.func35,Tryz.ntmps35
 go_wp2
 go_loopw [8] (fun v8 wr=>v8 = .int .i64 0 ∧ Lib.IsBuilderF 96 5 w.heap.size w.heap.size (Lib.byteCells []) wr ∧ Below w.heap.size w wr) (fun _ _=>0)
 case atStart=>
  exact ⟨rfl,Lib.IsBuilderF.of (Lib.fresh_isBuilder 96 5 w),(Below.refl _ w).alloc (Nat.le_refl _) _⟩
 case round=>
  obtain ⟨rfl,hB,hbw⟩:=hrel
  go_wp2_with (go_at_call 71; refine (b_string w.heap.size w.heap.size _ _ hB hbw.size).mono ?_)
  rintro e W1 ⟨rfl,_,b1,_⟩
  go_wp2
  go_ret
  exact ⟨rfl,hbw.trans b1⟩
theorem sets_Key_ok {l_ : (List (List SItem))} {r_ : Str} (h : sets_Key l_ r_) : Fn Tryz.prog 35 [(Pd.rep (En.slice (En.slice En.SItem)) l_)] (Rq (Pd.rep En.str r_)):=by
 obtain ⟨hn,hl,rfl⟩:=h
 refine ⟨call_of Tryz.func35 rfl (by rfl),fun s vs hgl hv=>?_⟩
 match vs,hv with
 | [v],⟨hv,_⟩=>
  have hsl:=rep_slice.1 hv
  have fin : ∀ (x : Str) (w' : World),x.length ≤ 9223372036854775807 → Below s.w.heap.size s.w w' → ∃ (v : Value) (s' : St),Ending.returned (.string ⟨x.toArray⟩) = .returned v ∧ s'.w = w' ∧ Ex s s' ∧ Rq (Pd.rep En.str x) s s' v:=fun x w' hx hb=>
   ⟨_,⟨w',s.X,fun b hb'=>Nat.lt_of_lt_of_le (s.lt b hb') hb.size⟩,rfl,rfl,⟨⟨DR.kit,hb.os,hb.tape,hb.output,hb.size,fun b hb' _=>hb.block b hb',fun _ h=>h.elim,fun b h=>.inl h⟩,fun b h=>h⟩,rep_str.2 ⟨rfl,hx⟩⟩
  by_cases hne : l_ = []
  ·subst hne
   obtain ⟨ad,cap,rfl,_⟩:=hsl
   refine (skey_none ad cap s.w).mono fun e w' ⟨he,hb⟩=>?_
   subst he
   exact fin [] w' (by simp) hb
  ·obtain ⟨ad,cap,rfl,h1,h2,h3,h4⟩:=hsl
   obtain ⟨b,off,css,rfl,hb,hE,hc⟩:=h4 hne
   have hat : StatesAt s.w ⟨b,off,none⟩ l_:=by
    refine ⟨hb.1,fun i x hx=>?_⟩
    have hlt : i < l_.length:=(List.getElem?_eq_some_iff.1 hx).1
    obtain ⟨cs,hcs⟩ : ∃ cs,css[i]? = some cs:=⟨css[i]'(by rw [hE.1]; exact hlt),by simp⟩
    obtain ⟨u,rfl,hu⟩:=hE.2 i cs x hcs hx
    refine ⟨u, ?_, ?_⟩
    ·have:=hc _ u (flat_get hE.lens hcs (j:=0) rfl)
     have e1 : (En.slice En.SItem).sz = 1:=rfl
     rw [e1,Nat.mul_one] at this
     rw [add_lit]; exact this
    ·obtain ⟨u',e,k⟩:=(En.slice En.SItem).mono (S':=fun b=>b < s.w.heap.size) (fun b hb=>hb.1) (cs:=[u]) (x:=x) ⟨u,rfl,hu⟩
     injection e with e1 e2
     subst e1; exact k
   have htab : Lib.TabIs Tryz.prog s.w "internal/strconv.uint64pow10" .u64 Lib.pow10Tab:=by
    obtain ⟨_,t,fr,h2⟩:=hgl.1 _ (by unfold gtab; exact List.mem_cons_self)
    unfold Lib.TabIs World.var?
    have hg : Tryz.prog.globalNamed "internal/strconv.uint64pow10" = some 2:=by kernel_rfl
    rw [hg]
    simp only [Option.bind_some]
    rw [h2]
    simp [Lib.pow10Tab]
   have hzz : ∀ s' ∈ l_,s'.length ≤ 1000 ∧ ∀ x ∈ s',∀ z ∈ nums4 x,InR .i64 z:=fun s' hs=>by
    obtain ⟨i,hi⟩:=List.getElem?_of_mem hs
    obtain ⟨v,_,h2⟩:=hat.2 i s' hi
    exact ⟨hl s' hs,states_z h2 fun b hb=>hb⟩
   have hll:=keyL_len hzz
   refine (skey_walk l_ ⟨b,off,none⟩ cap s.w hn hl hat htab).mono fun e w' ⟨he,hb⟩=>?_
   subst he
   exact fin _ w' (by omega) hb
end Go.Proofs.YtahgmdbioafmbaaGreatDoor.V
namespace Go.Proofs.YtahgmdbioafmbaaGreatDoor.V
open Go
set_option linter.unusedVariables false
def Pd.zr (N te sz g len : Nat) : Pd:=
 ⟨fun s v=>N ≤ g ∧ s.X g ∧ ∃ cap cur,v = .slice (some ⟨g,0,none⟩) len cap ∧ s.w.heap[g]? = some (.cells cur te (0,0)) ∧ cur.size = cap * sz ∧ cap ≤ maxLen ∧ len ≤ cap,fun b=>some g = some b,
  fun {T s s' v} h hb ⟨h1,h2,cap,cur,h3,h4,h5⟩=>⟨h1,(hb g rfl).2 h2,cap,cur,h3,by rw [h.blk g (Array.getElem?_eq_some_iff.1 h4).1 (hb g rfl).1]; exact h4,h5⟩⟩
section
variable {P : Program} {ops : Array Oper} {o : Oper} {L : Lst} {α : Type} {E : En α} {xs : List α}
theorem t_capn {y : Operand} {t te : TypeId} (hy : Opn L y (Pd.rep (En.nilv E) xs)) (ht : P.underlying t = some (.slice te)) (ho : o.op = .call { callee:=.builtin .cap,args:=#[y],argTypes:=#[t] }) (hg : o.guard = none) : T P ops o L (Pd.rep (En.int .i64) 0):=
 T.pure hg fun M n s0 ac s hL=>by
  have hv:=(rep_nilv.1 (hy M n s0 ac s hL)).1
  refine ⟨.int .i64 0, ?_,rep_int.2 ⟨rfl,by decide⟩⟩
  unfold execOp; rw [ho]; simp [resolve,invoke,builtin,hv,Builtin.cap_,run_underlying ht,goInt]
theorem t_lenn {y : Operand} {t te : TypeId} (hy : Opn L y (Pd.rep (En.nilv E) xs)) (ht : P.underlying t = some (.slice te)) (ho : o.op = .call { callee:=.builtin .len,args:=#[y],argTypes:=#[t] }) (hg : o.guard = none) : T P ops o L (Pd.rep (En.int .i64) 0):=
 T.pure hg fun M n s0 ac s hL=>by
  have hv:=(rep_nilv.1 (hy M n s0 ac s hL)).1
  refine ⟨.int .i64 0, ?_,rep_int.2 ⟨rfl,by decide⟩⟩
  unfold execOp; rw [ho]; simp [resolve,invoke,builtin,hv,Builtin.len_,run_underlying ht,goInt]
theorem t_to0 {y z : Operand} {t te : TypeId} (hy : Opn L y (Pd.rep (En.nilv E) xs)) (hz : Opn L z (Pd.rep (En.int .i64) 0)) (ht : P.underlying t = some (.slice te)) (hE : Ty P te E) (ho : o.op = .slice t y none (some z) none) (hg : o.guard = none) : T P ops o L (Pd.rep (En.nilv E) xs):=
 T.pure hg fun M n s0 ac s hL=>by
  obtain ⟨hv,hxs⟩:=rep_nilv.1 (hy M n s0 ac s hL)
  have hzv:=(rep_int.1 (hz M n s0 ac s hL)).1
  refine ⟨.slice none 0 0, ?_,rep_nilv.2 ⟨rfl,hxs⟩⟩
  unfold execOp; rw [ho]
  simp [hv,hzv,Instr.sliceAt,run_underlying ht,Instr.slice,Instr.sliceBounds,Instr.sliceBound,asIntOf,run_sizeOfE hE]
theorem st_zeros {Q : Exit → Act → World → Prop} {rest : List Oper} {M : Nat → Prop} {n : Nat} {s0 : St} {a : Act} {s : St} {t u te : TypeId} {x y : Operand} {k : Int} (d : Nat) (hL : Has M n s0 a s L) (hx : Opn L x (Pd.rep (En.nilv E) xs)) (hy : Opn L y (Pd.rep (En.int .i64) k)) (hk0 : 0 < k) (hk1 : k ≤ 2147483648)
  (ht : P.underlying t = some (.slice te)) (hu : P.underlying u = some (.int .i64)) (hE : Ty P te E) (ho : o.op = .call { callee:=.builtin .append,args:=#[x,y],argTypes:=#[t,u] }) (hg : o.guard = none) (hd : o.dst = some d) (hn : Nat.blt d n = true)
  (kk : ∀ a' s' g,Has M n s0 a' s' ((d,Pd.zr s0.w.heap.size te E.sz g k.toNat) :: L) → wpList P ops Q rest a' s'.w) : wpList P ops Q (o :: rest) a s.w:=by
 obtain ⟨hv,_⟩:=rep_nilv.1 (hx M n s0 a s hL)
 have hkv:=(rep_int.1 (hy M n s0 a s hL)).1
 obtain ⟨i,z,hi,hsz,hz,hzs,hby⟩:=hE.info
 obtain ⟨j,rfl⟩ : ∃ j : Nat,k = (j : Int):=⟨k.toNat,by omega⟩
 have hj : 0 < j:=by omega
 have hcap : j ≤ grownCap s.w j 0 te:=grownCap_ge _ _ _ _
 have hr : (execOp a.eval o).run P s.w = .ok (.value (.slice (some ⟨s.w.heap.size,0,none⟩) j (grownCap s.w j 0 te))) (s.w.drew.alloc (.cells (Builtin.zeroCells z.cells j ++ Builtin.zeroCells z.cells (grownCap s.w j 0 te - j)) te)):=by
  unfold execOp; rw [ho]
  have h0 : ¬ ((j : Int) < 0):=by omega
  have hw : IntKind.wrap .i64 (j : Int) = j:=wrap_in (inR_i64.2 ⟨by omega,by omega⟩)
  have hb : j * i.bytes ≤ 140737488355328:=by
   have:=Nat.mul_le_mul (show j ≤ 2147483648 by omega) hby
   omega
  have hb2 : ¬ ((281474976710656 : Int) < (j : Int) * (i.bytes : Int)):=by
   rw [← Int.natCast_mul]; omega
  have h48 : ¬ (281474976710656 < Builtin.nextslicecap j 0 * i.bytes):=by rw [nextslicecap_zero hj]; omega
  have h63 : ¬ (9223372036854775807 < (j : Int)):=by omega
  have hjn : ¬ j = 0:=by omega
  have hs0 : ¬ (j * E.sz = 0):=by have:=Nat.mul_pos hj E.pos; omega
  simp [resolve,invoke,builtin,hv,hkv,Builtin.append_,run_underlying ht,run_underlying hu,sizeOf,typeInfo,zeroValue,hi,hz,asInt,asIntOf,h0,hw,hjn,hb2,h48,h63,hs0,hsz,Question.forced,newRow,grownCap,run_firstCells_none]
 refine wpList_plain hg fun K hK=>?_
 unfold Oper.wp
 rw [hr]
 refine hK _ _ ?_
 simp only [hd]
 have e : Ex s ⟨(s.w.drew.alloc (.cells (Builtin.zeroCells z.cells j ++ Builtin.zeroCells z.cells (grownCap s.w j 0 te - j)) te)),fun b=>s.X b ∨ b = s.w.heap.size,fun b hb=>hb.elim (fun h=>Nat.lt_of_lt_of_le (s.lt b h) (by simp)) (fun h=>by subst h; simp)⟩:=
  ⟨⟨DR.succ rfl,rfl,rfl,rfl,by simp,fun b hb _=>Go.RowKit.Below.heap_alloc s.w.drew _ b hb,fun _ h=>h.elim,fun b hb=>hb.imp id (fun h=>Nat.le_of_eq h.symm)⟩,fun b hb=>.inl hb⟩
 refine kk _ _ s.w.heap.size (hL.put e hn ⟨hL.ent.mv.size,.inr rfl,grownCap s.w j 0 te,_,rfl,heap_alloc_new s.w.drew _, ?_,grownCap_le_maxLen _ _ _ _ (by unfold maxLen; omega),hcap⟩)
 simp only [Array.size_append,size_zeroCells,hzs]
 rw [← Nat.add_mul]
 congr 1
 omega
theorem t_row0 {t te : TypeId} {x z : Operand} {N g len : Nat} (hx : Opn L x (Pd.zr N te E.sz g len)) (hz : Opn L z (Pd.rep (En.int .i64) 0)) (ht : P.underlying t = some (.slice te)) (hE : Ty P te E) (ho : o.op = .slice t x none (some z) none) (hg : o.guard = none) : T P ops o L (Pd.row E N te (some g) []):=
 T.pure hg fun M n s0 a s hL=>by
  obtain ⟨hN,hX,cap,cur,hv,hgb,hcs,hcm,hlc⟩:=hx M n s0 a s hL
  have hzv:=(rep_int.1 (hz M n s0 a s hL)).1
  refine ⟨.slice (some ⟨g,0,none⟩) 0 cap, ?_,rfl,fun b hb=>by cases hb; exact hX,Nat.zero_le _,[],⟨rfl,by simp⟩,by simp,.inr ⟨g,cap,cur,rfl,hN,hgb,Nat.zero_le _,hcm,hcs,by simp⟩⟩
  unfold execOp; rw [ho]
  simp [hv,hzv,Instr.sliceAt,run_underlying ht,Instr.slice,Instr.sliceBounds,Instr.sliceBound,asIntOf,run_sizeOfE hE,Addr.add]
end
set_option maxRecDepth 100000
theorem slices_Grow_api_State_api_Item_ok {x_ : List SItem} {n_ : Int} {r_ : List SItem} (h : slices_Grow_api_State_api_Item x_ n_ r_) : Fn Tryz.prog 145 [(Pd.rep (En.nilv En.SItem) x_),(Pd.rep (En.int .i64) n_)] (Ro En.SItem 77 r_):=by
 obtain ⟨h0,h1,rfl⟩:=h
 refine fn_of Tryz.func145 rfl Tryz.ntmps145 (by rfl) (by simp) fun s0 a hL=>?_
 refine wp_seq_k fun K1 hK1=>?_
 refine rg ?_
 refine st 4 (t_assign (q:=Pd.any) (fun _ _ _ _ _ _=>trivial) rfl rfl) rfl rfl hL fun a s e_ hL=>?_
 refine en' ?_
 show K1 a s.w; refine hK1 _ _ ?_
 refine wp_seq_k fun K2 hK2=>?_
 refine wp_seq_k fun K3 hK3=>?_
 refine rg ?_
 refine st 5 (t_move (o_t 1 rfl) rfl rfl) rfl rfl hL fun a s e_ hL=>?_
 refine st 6 (t_lss (o_t 5 rfl) (o_i (by decide)) rfl rfl) rfl rfl hL fun a s e_ hL=>?_
 refine en' ?_
 show K3 a s.w; refine hK3 _ _ ?_
 refine cnd hL rfl (fun hb_=>absurd hb_ (by simp; omega)) (fun _=>?_)
 refine wp_skip ?_
 show K2 a s.w; refine hK2 _ _ ?_
 refine wp_seq_k fun K4 hK4=>?_
 refine wp_seq_k fun K5 hK5=>?_
 refine rg ?_
 refine st 8 (t_move (o_t 1 rfl) rfl rfl) rfl rfl hL fun a s e_ hL=>?_
 refine st 9 (t_move (o_t 0 rfl) rfl rfl) rfl rfl hL fun a s e_ hL=>?_
 refine st 10 (t_capn (o_t 9 rfl) Tryz.underlying47 rfl rfl) rfl rfl hL fun a s e_ hL=>?_
 refine st 11 (t_move (o_t 0 rfl) rfl rfl) rfl rfl hL fun a s e_ hL=>?_
 refine st 12 (t_lenn (o_t 11 rfl) Tryz.underlying47 rfl rfl) rfl rfl hL fun a s e_ hL=>?_
 refine st 13 (t_sub (o_t 10 rfl) (o_t 12 rfl) (by decide) rfl rfl) rfl rfl hL fun a s e_ hL=>?_
 refine st 14 (t_sub (o_t 8 rfl) (o_t 13 rfl) (inR_i64.2 ⟨by omega,by omega⟩) rfl rfl) rfl rfl hL fun a s e_ hL=>?_
 refine st 1 (t_assign (o_t 14 rfl) rfl rfl) rfl rfl hL fun a s e_ hL=>?_
 refine en' ?_
 show K5 a s.w; refine hK5 _ _ ?_
 refine wp_seq_k fun K6 hK6=>?_
 refine rg ?_
 refine st 15 (t_move (o_t 1 rfl) rfl rfl) rfl rfl hL fun a s e_ hL=>?_
 refine st 16 (t_gtr (o_t 15 rfl) (o_i (by decide)) rfl rfl) rfl rfl hL fun a s e_ hL=>?_
 refine en' ?_
 show K6 a s.w; refine hK6 _ _ ?_
 have fin : ∀ (a : Act) (s : St) (L : Lst) (og : Option Nat),Has N0 27 s0 a s L → lk L 0 = some (Pd.row En.SItem s0.w.heap.size 77 og []) → K4 a s.w:=fun a s L og hL h0=>by
  refine hK4 _ _ ?_
  refine wp_seq_k fun K7 hK7=>?_
  refine rg ?_
  refine st 26 (t_move (o_t 0 h0) rfl rfl) rfl rfl hL fun a s e_ hL=>?_
  refine st 4 (t_assign (o_t 26 rfl) rfl rfl) rfl rfl hL fun a s e_ hL=>?_
  refine en' ?_
  show K7 a s.w; refine hK7 _ _ ?_
  exact wp_ret (reto rfl hL rfl)
 refine cnd hL rfl (fun hb_=>?_) (fun hb_=>?_)
 ·have hpos : 0 < n_ - (0 - 0):=by simpa using hb_
  refine rg ?_
  refine st 17 (t_move (o_t 0 rfl) rfl rfl) rfl rfl hL fun a s e_ hL=>?_
  refine st 18 (t_move (o_t 0 rfl) rfl rfl) rfl rfl hL fun a s e_ hL=>?_
  refine st 19 (t_capn (o_t 18 rfl) Tryz.underlying47 rfl rfl) rfl rfl hL fun a s e_ hL=>?_
  refine st 20 (t_to0 (o_t 17 rfl) (o_t 19 rfl) Tryz.underlying47 ty77 rfl rfl) rfl rfl hL fun a s e_ hL=>?_
  refine st 21 (t_move (o_t 1 rfl) rfl rfl) rfl rfl hL fun a s e_ hL=>?_
  refine st_zeros 22 hL (o_t 20 rfl) (o_t 21 rfl) hpos (by omega) Tryz.underlying47 Tryz.underlying3 ty77 rfl rfl rfl rfl fun a s g hL=>?_
  refine st 23 (t_move (o_t 0 rfl) rfl rfl) rfl rfl hL fun a s e_ hL=>?_
  refine st 24 (t_lenn (o_t 23 rfl) Tryz.underlying47 rfl rfl) rfl rfl hL fun a s e_ hL=>?_
  refine st 25 (t_row0 (o_t 22 rfl) (o_t 24 rfl) Tryz.underlying47 ty77 rfl rfl) rfl rfl hL fun a s e_ hL=>?_
  refine st 0 (t_assign (o_t 25 rfl) rfl rfl) rfl rfl hL fun a s e_ hL=>?_
  refine en' ?_
  exact fin a s _ (some g) hL rfl
 ·refine wp_skip ?_
  have hv:=(rep_nilv.1 (hL.get 0 rfl)).1
  have hx:=(rep_nilv.1 (hL.get 0 rfl)).2
  have hL2:=hL.cons 0 (q:=Pd.row En.SItem s0.w.heap.size 77 none []) (by rw [hv]; exact own_nil _ _ _ _)
  exact fin a s _ none hL2 rfl
end Go.Proofs.YtahgmdbioafmbaaGreatDoor.V
namespace Go.Proofs.YtahgmdbioafmbaaGreatDoor.V
open Go
set_option linter.unusedVariables false
def slices_Concat_api_State_api_Item.j1 (r_ : (List SItem)) (newslice13 : (List SItem)) : Prop:=r_ = newslice13
def slices_Concat_api_State_api_Item.l1 (slices_ : (List (List SItem))) (X1 : (List SItem) → Prop) : Nat → (List SItem) → Int → Prop
 | 0,_,_=>False
 | k_0 + 1,newslice17,v19=>((decide (v19 < (slices_.length : Int))) = true → ∃ e27 : (List SItem),at? slices_ v19 = some e27 ∧ (newslice17.length + e27.length ≤ 2147483648) ∧ (InR .i64 (v19 + 1)) ∧ slices_Concat_api_State_api_Item.l1 slices_ X1 k_0 (newslice17 ++ e27) (v19 + 1)) ∧ ((decide (v19 < (slices_.length : Int))) = false → X1 newslice17)
def slices_Concat_api_State_api_Item.j2 (slices_ : (List (List SItem))) (r_ : (List SItem)) (size5 : Int) : Prop:=∃ r8 : (List SItem),slices_Grow_api_State_api_Item [] size5 r8 ∧ ∃ k20,slices_Concat_api_State_api_Item.l1 slices_ (slices_Concat_api_State_api_Item.j1 r_) k20 r8 0
def slices_Concat_api_State_api_Item.l2 (slices_ : (List (List SItem))) (X2 : Int → Prop) : Nat → Int → Int → Prop
 | 0,_,_=>False
 | k_0 + 1,size32,v33=>((decide (v33 < (slices_.length : Int))) = true → ∃ e41 : (List SItem),at? slices_ v33 = some e41 ∧ (InR .i64 (size32 + (e41.length : Int))) ∧ ((decide (size32 + (e41.length : Int) < 0)) = true → False) ∧ ((decide (size32 + (e41.length : Int) < 0)) = false → (InR .i64 (v33 + 1)) ∧ slices_Concat_api_State_api_Item.l2 slices_ X2 k_0 (size32 + (e41.length : Int)) (v33 + 1))) ∧ ((decide (v33 < (slices_.length : Int))) = false → X2 size32)
def slices_Concat_api_State_api_Item (slices_ : (List (List SItem))) (r_ : (List SItem)) : Prop:=∃ k34,slices_Concat_api_State_api_Item.l2 slices_ (slices_Concat_api_State_api_Item.j2 slices_ r_) k34 0 0
def cmp_isNaN_int (x_ : Int) (r_ : Bool) : Prop:=r_ = (x_ != x_)
def cmp_Compare_int (x_ : Int) (y_ : Int) (r_ : Int) : Prop:=∃ r3 : Bool,cmp_isNaN_int x_ r3 ∧ ∃ r6 : Bool,cmp_isNaN_int y_ r6 ∧ ((r3) = true → ((r6) = true → r_ = 0) ∧ ((r6) = false → r_ = (-1))) ∧ ((r3) = false → ((r6) = true → r_ = 1) ∧ ((r6) = false → ((decide (x_ < y_)) = true → r_ = (-1)) ∧ ((decide (x_ < y_)) = false → ((decide (y_ < x_)) = true → r_ = 1) ∧ ((decide (y_ < x_)) = false → r_ = 0))))
def slices_CompareFunc_api_State_api_State_api_Item_api_Item.j1 (s1_ : (List SItem)) (s2_ : (List SItem)) (r_ : Int) : Prop:=((decide ((s1_.length : Int) < (s2_.length : Int))) = true → r_ = (-1)) ∧ ((decide ((s1_.length : Int) < (s2_.length : Int))) = false → r_ = 0)
def slices_CompareFunc_api_State_api_State_api_Item_api_Item.l1 (s1_ : (List SItem)) (s2_ : (List SItem)) (cmp_ : (SItem × SItem × Int → Prop)) (r_ : Int) (X1 : Prop) : Nat → Int → Prop
 | 0,_=>False
 | k_0 + 1,v9=>((decide (v9 < (s1_.length : Int))) = true → ∃ e17 : SItem,at? s1_ v9 = some e17 ∧ ((decide ((s2_.length : Int) ≤ v9)) = true → r_ = 1) ∧ ((decide ((s2_.length : Int) ≤ v9)) = false → ∃ e24 : SItem,at? s2_ v9 = some e24 ∧ ∃ r29 : Int,cmp_ (e17,e24,r29) ∧ (((r29 != 0)) = true → r_ = r29) ∧ (((r29 != 0)) = false → (InR .i64 (v9 + 1)) ∧ slices_CompareFunc_api_State_api_State_api_Item_api_Item.l1 s1_ s2_ cmp_ r_ X1 k_0 (v9 + 1)))) ∧ ((decide (v9 < (s1_.length : Int))) = false → X1)
def slices_CompareFunc_api_State_api_State_api_Item_api_Item (s1_ : (List SItem)) (s2_ : (List SItem)) (cmp_ : (SItem × SItem × Int → Prop)) (r_ : Int) : Prop:=∃ k10,slices_CompareFunc_api_State_api_State_api_Item_api_Item.l1 s1_ s2_ cmp_ r_ (slices_CompareFunc_api_State_api_State_api_Item_api_Item.j1 s1_ s2_ r_) k10 0
def cmp_Or_int.j1 (r_ : Int) : Prop:=r_ = 0
def cmp_Or_int.l1 (vals_ : (List Int)) (r_ : Int) (X1 : Prop) : Nat → Int → Prop
 | 0,_=>False
 | k_0 + 1,v7=>((decide (v7 < (vals_.length : Int))) = true → ∃ e15 : Int,at? vals_ v7 = some e15 ∧ (((e15 != 0)) = true → r_ = e15) ∧ (((e15 != 0)) = false → (InR .i64 (v7 + 1)) ∧ cmp_Or_int.l1 vals_ r_ X1 k_0 (v7 + 1))) ∧ ((decide (v7 < (vals_.length : Int))) = false → X1)
def cmp_Or_int (vals_ : (List Int)) (r_ : Int) : Prop:=∃ k8,cmp_Or_int.l1 vals_ r_ (cmp_Or_int.j1 r_) k8 0
def slices_Clone_api_State_api_Item (s_ : (List SItem)) (r_ : (List SItem)) : Prop:=∀ b4 : Bool,(b4 = true → s_ = []) → ((b4) = true → r_ = ([] : (List SItem))) ∧ ((b4) = false → (([] : (List SItem)).length + s_.length ≤ 2147483648) ∧ r_ = ([] : (List SItem)) ++ s_)
def slices_IndexFunc_api_State_api_State.j1 (r_ : Int) : Prop:=r_ = (-1)
def slices_IndexFunc_api_State_api_State.l1 (s_ : (List (List SItem))) (f_ : ((List SItem) × Bool → Prop)) (r_ : Int) (X1 : Prop) : Nat → Int → Prop
 | 0,_=>False
 | k_0 + 1,v6=>((decide (v6 < (s_.length : Int))) = true → ∃ e15 : (List SItem),at? s_ v6 = some e15 ∧ ∃ r17 : Bool,f_ (e15,r17) ∧ ((r17) = true → r_ = v6) ∧ ((r17) = false → (InR .i64 (v6 + 1)) ∧ slices_IndexFunc_api_State_api_State.l1 s_ f_ r_ X1 k_0 (v6 + 1))) ∧ ((decide (v6 < (s_.length : Int))) = false → X1)
def slices_IndexFunc_api_State_api_State (s_ : (List (List SItem))) (f_ : ((List SItem) × Bool → Prop)) (r_ : Int) : Prop:=∃ k7,slices_IndexFunc_api_State_api_State.l1 s_ f_ r_ (slices_IndexFunc_api_State_api_State.j1 r_) k7 0
def slices_ContainsFunc_api_State_api_State (s_ : (List (List SItem))) (f_ : ((List SItem) × Bool → Prop)) (r_ : Bool) : Prop:=∃ r3 : Int,slices_IndexFunc_api_State_api_State s_ f_ r3 ∧ r_ = decide (0 ≤ r3)
def slices_insertionSortCmpFunc_api_Class.j1 (r_ : (List Cl)) (data3 : (List Cl)) : Prop:=r_ = data3
def slices_insertionSortCmpFunc_api_Class.j2 (L1_ : (List Cl) → Int → Prop) (i6 : Int) (data14 : (List Cl)) : Prop:=(InR .i64 (i6 + 1)) ∧ L1_ data14 (i6 + 1)
def slices_insertionSortCmpFunc_api_Class.l2 (a_ : Int) (cmp_ : (Cl × Cl × Int → Prop)) (X2 : (List Cl) → Prop) : Nat → (List Cl) → Int → Prop
 | 0,_,_=>False
 | k_0 + 1,data17,j18=>∃ e24 : Cl,(((decide (a_ < j18)) = true) → at? data17 j18 = some e24) ∧ (((decide (a_ < j18)) = true) → InR .i64 (j18 - 1)) ∧ ∃ e27 : Cl,(((decide (a_ < j18)) = true) → at? data17 (j18 - 1) = some e27) ∧ ∃ r29 : Int,(((decide (a_ < j18)) = true) → cmp_ (e24,e27,r29)) ∧ ((((decide (a_ < j18)) && (decide (r29 < 0)))) = true → (InR .i64 (j18 - 1)) ∧ (InR .i64 (j18 - 1)) ∧ ∃ e34 : Cl,at? data17 (j18 - 1) = some e34 ∧ ∃ e36 : Cl,at? data17 j18 = some e36 ∧ ∃ e38 : Cl,at? data17 j18 = some e38 ∧ ∃ e40 : Cl,at? (data17.set (j18 : Int).toNat e34) (j18 - 1) = some e40 ∧ (InR .i64 (j18 - 1)) ∧ slices_insertionSortCmpFunc_api_Class.l2 a_ cmp_ X2 k_0 ((data17.set (j18 : Int).toNat e34).set (j18 - 1 : Int).toNat e36) (j18 - 1)) ∧ ((((decide (a_ < j18)) && (decide (r29 < 0)))) = false → X2 data17)
def slices_insertionSortCmpFunc_api_Class.l1 (a_ : Int) (b_ : Int) (cmp_ : (Cl × Cl × Int → Prop)) (X1 : (List Cl) → Prop) : Nat → (List Cl) → Int → Prop
 | 0,_,_=>False
 | k_0 + 1,data5,i6=>((decide (i6 < b_)) = true → ∃ k19,slices_insertionSortCmpFunc_api_Class.l2 a_ cmp_ (slices_insertionSortCmpFunc_api_Class.j2 (slices_insertionSortCmpFunc_api_Class.l1 a_ b_ cmp_ X1 k_0) i6) k19 data5 i6) ∧ ((decide (i6 < b_)) = false → X1 data5)
def slices_insertionSortCmpFunc_api_Class (data_ : (List Cl)) (a_ : Int) (b_ : Int) (cmp_ : (Cl × Cl × Int → Prop)) (r_ : (List Cl)) : Prop:=(InR .i64 (a_ + 1)) ∧ ∃ k7,slices_insertionSortCmpFunc_api_Class.l1 a_ b_ cmp_ (slices_insertionSortCmpFunc_api_Class.j1 r_) k7 data_ (a_ + 1)
def slices_swapRangeCmpFunc_api_Class.j1 (r_ : (List Cl)) (data2 : (List Cl)) : Prop:=r_ = data2
def slices_swapRangeCmpFunc_api_Class.l1 (a_ : Int) (b_ : Int) (nv_ : Int) (X1 : (List Cl) → Prop) : Nat → (List Cl) → Int → Prop
 | 0,_,_=>False
 | k_0 + 1,data4,i5=>((decide (i5 < nv_)) = true → (InR .i64 (a_ + i5)) ∧ (InR .i64 (b_ + i5)) ∧ (InR .i64 (b_ + i5)) ∧ ∃ e15 : Cl,at? data4 (b_ + i5) = some e15 ∧ (InR .i64 (a_ + i5)) ∧ ∃ e18 : Cl,at? data4 (a_ + i5) = some e18 ∧ ∃ e20 : Cl,at? data4 (a_ + i5) = some e20 ∧ ∃ e22 : Cl,at? (data4.set (a_ + i5 : Int).toNat e15) (b_ + i5) = some e22 ∧ (InR .i64 (i5 + 1)) ∧ slices_swapRangeCmpFunc_api_Class.l1 a_ b_ nv_ X1 k_0 ((data4.set (a_ + i5 : Int).toNat e15).set (b_ + i5 : Int).toNat e18) (i5 + 1)) ∧ ((decide (i5 < nv_)) = false → X1 data4)
def slices_swapRangeCmpFunc_api_Class (data_ : (List Cl)) (a_ : Int) (b_ : Int) (nv_ : Int) (cmp_ : (Cl × Cl × Int → Prop)) (r_ : (List Cl)) : Prop:=∃ k6,slices_swapRangeCmpFunc_api_Class.l1 a_ b_ nv_ (slices_swapRangeCmpFunc_api_Class.j1 r_) k6 data_ 0
def slices_rotateCmpFunc_api_Class.j1 (m_ : Int) (cmp_ : (Cl × Cl × Int → Prop)) (r_ : (List Cl)) (data6 : (List Cl)) (i7 : Int) : Prop:=(InR .i64 (m_ - i7)) ∧ ∃ r10 : (List Cl),slices_swapRangeCmpFunc_api_Class data6 (m_ - i7) m_ i7 cmp_ r10 ∧ r_ = r10
def slices_rotateCmpFunc_api_Class.l1 (m_ : Int) (cmp_ : (Cl × Cl × Int → Prop)) (X1 : (List Cl) → Int → Prop) : Nat → (List Cl) → Int → Int → Prop
 | 0,_,_,_=>False
 | k_0 + 1,data12,i13,j14=>(((i13 != j14)) = true → ((decide (j14 < i13)) = true → (InR .i64 (m_ - i13)) ∧ ∃ r23 : (List Cl),slices_swapRangeCmpFunc_api_Class data12 (m_ - i13) m_ j14 cmp_ r23 ∧ (InR .i64 (i13 - j14)) ∧ slices_rotateCmpFunc_api_Class.l1 m_ cmp_ X1 k_0 r23 (i13 - j14) j14) ∧ ((decide (j14 < i13)) = false → (InR .i64 (m_ - i13)) ∧ (InR .i64 (m_ + j14)) ∧ (InR .i64 ((m_ + j14) - i13)) ∧ ∃ r30 : (List Cl),slices_swapRangeCmpFunc_api_Class data12 (m_ - i13) ((m_ + j14) - i13) i13 cmp_ r30 ∧ (InR .i64 (j14 - i13)) ∧ slices_rotateCmpFunc_api_Class.l1 m_ cmp_ X1 k_0 r30 i13 (j14 - i13))) ∧ (((i13 != j14)) = false → X1 data12 i13)
def slices_rotateCmpFunc_api_Class (data_ : (List Cl)) (a_ : Int) (m_ : Int) (b_ : Int) (cmp_ : (Cl × Cl × Int → Prop)) (r_ : (List Cl)) : Prop:=(InR .i64 (m_ - a_)) ∧ (InR .i64 (b_ - m_)) ∧ ∃ k15,slices_rotateCmpFunc_api_Class.l1 m_ cmp_ (slices_rotateCmpFunc_api_Class.j1 m_ cmp_ r_) k15 data_ (m_ - a_) (b_ - m_)
def slices_symMergeCmpFunc_api_Class.j1 (r_ : (List Cl)) (data11 : (List Cl)) : Prop:=r_ = data11
def slices_symMergeCmpFunc_api_Class.l1 (i7 : Int) (X1 : (List Cl) → Prop) : Nat → (List Cl) → Int → Prop
 | 0,_,_=>False
 | k_0 + 1,data13,k14=>(InR .i64 (i7 - 1)) ∧ ((decide (k14 < i7 - 1)) = true → (InR .i64 (k14 + 1)) ∧ (InR .i64 (k14 + 1)) ∧ ∃ e24 : Cl,at? data13 (k14 + 1) = some e24 ∧ ∃ e26 : Cl,at? data13 k14 = some e26 ∧ ∃ e28 : Cl,at? data13 k14 = some e28 ∧ ∃ e30 : Cl,at? (data13.set (k14 : Int).toNat e24) (k14 + 1) = some e30 ∧ (InR .i64 (k14 + 1)) ∧ slices_symMergeCmpFunc_api_Class.l1 i7 X1 k_0 ((data13.set (k14 : Int).toNat e24).set (k14 + 1 : Int).toNat e26) (k14 + 1)) ∧ ((decide (k14 < i7 - 1)) = false → X1 data13)
def slices_symMergeCmpFunc_api_Class.j2 (data_ : (List Cl)) (a_ : Int) (r_ : (List Cl)) (i7 : Int) : Prop:=∃ k15,slices_symMergeCmpFunc_api_Class.l1 i7 (slices_symMergeCmpFunc_api_Class.j1 r_) k15 data_ a_
def slices_symMergeCmpFunc_api_Class.l2 (data_ : (List Cl)) (a_ : Int) (cmp_ : (Cl × Cl × Int → Prop)) (X2 : Int → Prop) : Nat → Int → Int → Prop
 | 0,_,_=>False
 | k_0 + 1,i33,j34=>((decide (i33 < j34)) = true → (InR .i64 (i33 + j34)) ∧ ∃ i42 : Int,i42 = (IntKind.wrap .i64 (shrI (IntKind.wrap .u64 (i33 + j34)) 1)) ∧ ∃ e45 : Cl,at? data_ i42 = some e45 ∧ ∃ e47 : Cl,at? data_ a_ = some e47 ∧ ∃ r49 : Int,cmp_ (e45,e47,r49) ∧ ((decide (r49 < 0)) = true → (InR .i64 (i42 + 1)) ∧ slices_symMergeCmpFunc_api_Class.l2 data_ a_ cmp_ X2 k_0 (i42 + 1) j34) ∧ ((decide (r49 < 0)) = false → slices_symMergeCmpFunc_api_Class.l2 data_ a_ cmp_ X2 k_0 i33 i42)) ∧ ((decide (i33 < j34)) = false → X2 i33)
def slices_symMergeCmpFunc_api_Class.j3 (r_ : (List Cl)) (data62 : (List Cl)) : Prop:=r_ = data62
def slices_symMergeCmpFunc_api_Class.l3 (i58 : Int) (X3 : (List Cl) → Prop) : Nat → (List Cl) → Int → Prop
 | 0,_,_=>False
 | k_0 + 1,data64,k65=>((decide (i58 < k65)) = true → (InR .i64 (k65 - 1)) ∧ (InR .i64 (k65 - 1)) ∧ ∃ e74 : Cl,at? data64 (k65 - 1) = some e74 ∧ ∃ e76 : Cl,at? data64 k65 = some e76 ∧ ∃ e78 : Cl,at? data64 k65 = some e78 ∧ ∃ e80 : Cl,at? (data64.set (k65 : Int).toNat e74) (k65 - 1) = some e80 ∧ (InR .i64 (k65 - 1)) ∧ slices_symMergeCmpFunc_api_Class.l3 i58 X3 k_0 ((data64.set (k65 : Int).toNat e74).set (k65 - 1 : Int).toNat e76) (k65 - 1)) ∧ ((decide (i58 < k65)) = false → X3 data64)
def slices_symMergeCmpFunc_api_Class.j4 (data_ : (List Cl)) (m_ : Int) (r_ : (List Cl)) (i58 : Int) : Prop:=∃ k66,slices_symMergeCmpFunc_api_Class.l3 i58 (slices_symMergeCmpFunc_api_Class.j3 r_) k66 data_ m_
def slices_symMergeCmpFunc_api_Class.l4 (data_ : (List Cl)) (m_ : Int) (cmp_ : (Cl × Cl × Int → Prop)) (X4 : Int → Prop) : Nat → Int → Int → Prop
 | 0,_,_=>False
 | k_0 + 1,i83,j84=>((decide (i83 < j84)) = true → (InR .i64 (i83 + j84)) ∧ ∃ i92 : Int,i92 = (IntKind.wrap .i64 (shrI (IntKind.wrap .u64 (i83 + j84)) 1)) ∧ ∃ e95 : Cl,at? data_ m_ = some e95 ∧ ∃ e97 : Cl,at? data_ i92 = some e97 ∧ ∃ r99 : Int,cmp_ (e95,e97,r99) ∧ (((!(decide (r99 < 0)))) = true → (InR .i64 (i92 + 1)) ∧ slices_symMergeCmpFunc_api_Class.l4 data_ m_ cmp_ X4 k_0 (i92 + 1) j84) ∧ (((!(decide (r99 < 0)))) = false → slices_symMergeCmpFunc_api_Class.l4 data_ m_ cmp_ X4 k_0 i83 i92)) ∧ ((decide (i83 < j84)) = false → X4 i83)
def slices_symMergeCmpFunc_api_Class.j5 (n_ : (List Cl) → Int → Int → Int → (Cl × Cl × Int → Prop) → (List Cl) → Prop) (m_ : Int) (b_ : Int) (cmp_ : (Cl × Cl × Int → Prop)) (r_ : (List Cl)) (i104 : Int) (start117 : Int) (data131 : (List Cl)) : Prop:=∃ b134 : Bool,b134 = ((decide (i104 < (i104 + m_) - start117)) && (decide ((i104 + m_) - start117 < b_))) ∧ ((b134) = true → ∃ r136 : (List Cl),n_ data131 i104 ((i104 + m_) - start117) b_ cmp_ r136 ∧ r_ = r136) ∧ ((b134) = false → r_ = data131)
def slices_symMergeCmpFunc_api_Class.j6 (n_ : (List Cl) → Int → Int → Int → (Cl × Cl × Int → Prop) → (List Cl) → Prop) (a_ : Int) (m_ : Int) (b_ : Int) (cmp_ : (Cl × Cl × Int → Prop)) (r_ : (List Cl)) (i104 : Int) (start117 : Int) (data125 : (List Cl)) : Prop:=∃ b129 : Bool,b129 = ((decide (a_ < start117)) && (decide (start117 < i104))) ∧ ((b129) = true → ∃ r138 : (List Cl),n_ data125 a_ start117 i104 cmp_ r138 ∧ (slices_symMergeCmpFunc_api_Class.j5 (n_) m_ b_ cmp_ r_ i104 start117) r138) ∧ ((b129) = false → (slices_symMergeCmpFunc_api_Class.j5 (n_) m_ b_ cmp_ r_ i104 start117) data125)
def slices_symMergeCmpFunc_api_Class.j7 (n_ : (List Cl) → Int → Int → Int → (Cl × Cl × Int → Prop) → (List Cl) → Prop) (data_ : (List Cl)) (a_ : Int) (m_ : Int) (b_ : Int) (cmp_ : (Cl × Cl × Int → Prop)) (r_ : (List Cl)) (i104 : Int) (start117 : Int) : Prop:=(InR .i64 ((i104 + m_) - start117)) ∧ ∃ b123 : Bool,b123 = ((decide (start117 < m_)) && (decide (m_ < (i104 + m_) - start117))) ∧ ((b123) = true → ∃ r140 : (List Cl),slices_rotateCmpFunc_api_Class data_ start117 m_ ((i104 + m_) - start117) cmp_ r140 ∧ (slices_symMergeCmpFunc_api_Class.j6 (n_) a_ m_ b_ cmp_ r_ i104 start117) r140) ∧ ((b123) = false → (slices_symMergeCmpFunc_api_Class.j6 (n_) a_ m_ b_ cmp_ r_ i104 start117) data_)
def slices_symMergeCmpFunc_api_Class.l5 (data_ : (List Cl)) (m_ : Int) (cmp_ : (Cl × Cl × Int → Prop)) (i104 : Int) (X5 : Int → Prop) : Nat → Int → Int → Prop
 | 0,_,_=>False
 | k_0 + 1,start142,r143=>((decide (start142 < r143)) = true → (InR .i64 (start142 + r143)) ∧ ∃ i151 : Int,i151 = (IntKind.wrap .i64 (shrI (IntKind.wrap .u64 (start142 + r143)) 1)) ∧ (InR .i64 (((i104 + m_) - 1) - i151)) ∧ ∃ e155 : Cl,at? data_ (((i104 + m_) - 1) - i151) = some e155 ∧ ∃ e157 : Cl,at? data_ i151 = some e157 ∧ ∃ r159 : Int,cmp_ (e155,e157,r159) ∧ (((!(decide (r159 < 0)))) = true → (InR .i64 (i151 + 1)) ∧ slices_symMergeCmpFunc_api_Class.l5 data_ m_ cmp_ i104 X5 k_0 (i151 + 1) r143) ∧ (((!(decide (r159 < 0)))) = false → slices_symMergeCmpFunc_api_Class.l5 data_ m_ cmp_ i104 X5 k_0 start142 i151)) ∧ ((decide (start142 < r143)) = false → X5 start142)
def slices_symMergeCmpFunc_api_Class.j8 (n_ : (List Cl) → Int → Int → Int → (Cl × Cl × Int → Prop) → (List Cl) → Prop) (data_ : (List Cl)) (a_ : Int) (m_ : Int) (b_ : Int) (cmp_ : (Cl × Cl × Int → Prop)) (r_ : (List Cl)) (i104 : Int) (start111 : Int) (r112 : Int) : Prop:=(InR .i64 ((i104 + m_) - 1)) ∧ ∃ k144,slices_symMergeCmpFunc_api_Class.l5 data_ m_ cmp_ i104 (slices_symMergeCmpFunc_api_Class.j7 (n_) data_ a_ m_ b_ cmp_ r_ i104) k144 start111 r112
def slices_symMergeCmpFunc_api_Class.n : Nat → (List Cl) → Int → Int → Int → (Cl × Cl × Int → Prop) → (List Cl) → Prop
 | 0,_,_,_,_,_,_=>False
 | k_ + 1,data_,a_,m_,b_,cmp_,r_=>(InR .i64 (m_ - a_)) ∧ ((((m_ - a_) == 1)) = true → ∃ k35,slices_symMergeCmpFunc_api_Class.l2 data_ a_ cmp_ (slices_symMergeCmpFunc_api_Class.j2 data_ a_ r_) k35 m_ b_) ∧ ((((m_ - a_) == 1)) = false → (InR .i64 (b_ - m_)) ∧ ((((b_ - m_) == 1)) = true → ∃ k85,slices_symMergeCmpFunc_api_Class.l4 data_ m_ cmp_ (slices_symMergeCmpFunc_api_Class.j4 data_ m_ r_) k85 a_ m_) ∧ ((((b_ - m_) == 1)) = false → (InR .i64 (a_ + b_)) ∧ ∃ i104 : Int,i104 = (IntKind.wrap .i64 (shrI (IntKind.wrap .u64 (a_ + b_)) 1)) ∧ (InR .i64 (i104 + m_)) ∧ ((decide (i104 < m_)) = true → (InR .i64 ((i104 + m_) - b_)) ∧ (slices_symMergeCmpFunc_api_Class.j8 (slices_symMergeCmpFunc_api_Class.n k_) data_ a_ m_ b_ cmp_ r_ i104) ((i104 + m_) - b_) i104) ∧ ((decide (i104 < m_)) = false → (slices_symMergeCmpFunc_api_Class.j8 (slices_symMergeCmpFunc_api_Class.n k_) data_ a_ m_ b_ cmp_ r_ i104) a_ m_)))
def slices_symMergeCmpFunc_api_Class (data_ : (List Cl)) (a_ : Int) (m_ : Int) (b_ : Int) (cmp_ : (Cl × Cl × Int → Prop)) (r_ : (List Cl)) : Prop:=∃ k_,slices_symMergeCmpFunc_api_Class.n k_ data_ a_ m_ b_ cmp_ r_
def slices_stableCmpFunc_api_Class.j1 (r_ : (List Cl)) (data10 : (List Cl)) : Prop:=r_ = data10
def slices_stableCmpFunc_api_Class.j2 (L1_ : (List Cl) → Int → Prop) (nv_ : Int) (cmp_ : (Cl × Cl × Int → Prop)) (blockSize13 : Int) (data22 : (List Cl)) (a23 : Int) : Prop:=(InR .i64 (a23 + blockSize13)) ∧ ((decide (a23 + blockSize13 < nv_)) = true → ∃ r29 : (List Cl),slices_symMergeCmpFunc_api_Class data22 a23 (a23 + blockSize13) nv_ cmp_ r29 ∧ (InR .i64 (blockSize13 * 2)) ∧ L1_ r29 (blockSize13 * 2)) ∧ ((decide (a23 + blockSize13 < nv_)) = false → (InR .i64 (blockSize13 * 2)) ∧ L1_ data22 (blockSize13 * 2))
def slices_stableCmpFunc_api_Class.l2 (nv_ : Int) (cmp_ : (Cl × Cl × Int → Prop)) (blockSize13 : Int) (X2 : (List Cl) → Int → Prop) : Nat → (List Cl) → Int → Int → Prop
 | 0,_,_,_=>False
 | k_0 + 1,data33,a34,b35=>((decide (b35 ≤ nv_)) = true → (InR .i64 (a34 + blockSize13)) ∧ ∃ r43 : (List Cl),slices_symMergeCmpFunc_api_Class data33 a34 (a34 + blockSize13) b35 cmp_ r43 ∧ (InR .i64 (2 * blockSize13)) ∧ (InR .i64 (b35 + (2 * blockSize13))) ∧ slices_stableCmpFunc_api_Class.l2 nv_ cmp_ blockSize13 X2 k_0 r43 b35 (b35 + (2 * blockSize13))) ∧ ((decide (b35 ≤ nv_)) = false → X2 data33 a34)
def slices_stableCmpFunc_api_Class.l1 (nv_ : Int) (cmp_ : (Cl × Cl × Int → Prop)) (X1 : (List Cl) → Prop) : Nat → (List Cl) → Int → Prop
 | 0,_,_=>False
 | k_0 + 1,data12,blockSize13=>((decide (blockSize13 < nv_)) = true → (InR .i64 (2 * blockSize13)) ∧ ∃ k36,slices_stableCmpFunc_api_Class.l2 nv_ cmp_ blockSize13 (slices_stableCmpFunc_api_Class.j2 (slices_stableCmpFunc_api_Class.l1 nv_ cmp_ X1 k_0) nv_ cmp_ blockSize13) k36 data12 0 (2 * blockSize13)) ∧ ((decide (blockSize13 < nv_)) = false → X1 data12)
def slices_stableCmpFunc_api_Class.j3 (nv_ : Int) (cmp_ : (Cl × Cl × Int → Prop)) (r_ : (List Cl)) (data4 : (List Cl)) (a5 : Int) : Prop:=∃ r8 : (List Cl),slices_insertionSortCmpFunc_api_Class data4 a5 nv_ cmp_ r8 ∧ ∃ k14,slices_stableCmpFunc_api_Class.l1 nv_ cmp_ (slices_stableCmpFunc_api_Class.j1 r_) k14 r8 20
def slices_stableCmpFunc_api_Class.l3 (nv_ : Int) (cmp_ : (Cl × Cl × Int → Prop)) (X3 : (List Cl) → Int → Prop) : Nat → (List Cl) → Int → Int → Prop
 | 0,_,_,_=>False
 | k_0 + 1,data48,a49,b50=>((decide (b50 ≤ nv_)) = true → ∃ r57 : (List Cl),slices_insertionSortCmpFunc_api_Class data48 a49 b50 cmp_ r57 ∧ (InR .i64 (b50 + 20)) ∧ slices_stableCmpFunc_api_Class.l3 nv_ cmp_ X3 k_0 r57 b50 (b50 + 20)) ∧ ((decide (b50 ≤ nv_)) = false → X3 data48 a49)
def slices_stableCmpFunc_api_Class (data_ : (List Cl)) (nv_ : Int) (cmp_ : (Cl × Cl × Int → Prop)) (r_ : (List Cl)) : Prop:=∃ k51,slices_stableCmpFunc_api_Class.l3 nv_ cmp_ (slices_stableCmpFunc_api_Class.j3 nv_ cmp_ r_) k51 data_ 0 20
def slices_SortStableFunc_api_Class_api_Class (x_ : (List Cl)) (cmp_ : (Cl × Cl × Int → Prop)) (r_ : (List Cl)) : Prop:=∃ r1 : (List Cl),slices_stableCmpFunc_api_Class x_ (x_.length : Int) cmp_ r1 ∧ r_ = r1
end Go.Proofs.YtahgmdbioafmbaaGreatDoor.V
namespace Go.Proofs.YtahgmdbioafmbaaGreatDoor.V
open Go
set_option linter.unusedVariables false
set_option maxRecDepth 100000
theorem slices_Concat_api_State_api_Item_ok {slices_ : (List (List SItem))} {r_ : (List SItem)} (h : slices_Concat_api_State_api_Item slices_ r_) : Fn Tryz.prog 119 [(Pd.rep (En.slice (En.slice En.SItem)) slices_)] (Ro En.SItem 77 r_):=by
 unfold slices_Concat_api_State_api_Item at h
 refine fn_of Tryz.func119 rfl Tryz.ntmps119 (by rfl) (by simp) fun s0 a hL=>?_
 refine wp_seq_k fun K1 hK1=>rg (sx 2 (t_assign (o_nil (E:=En.SItem) (N:=s0.w.heap.size) (te:=77)) rfl rfl) hL fun a s e_ hL=>?_)
 refine en' (hK1 _ _ ?_)
 refine wp_seq_k fun K2 hK2=>rg (sx 3 (t_assign (o_i (k:=.i64) (by decide)) rfl rfl) hL fun a s e_ hL=>?_)
 refine en' (hK2 _ _ ?_)
 refine wp_seq_k fun K3 hK3=>wp_seq_k fun K4 hK4=>rg (sx 9 (t_move (o_t 0 rfl) rfl rfl) hL fun a s e_ hL=>?_)
 refine sx 10 (t_len (o_t 9 rfl) Tryz.underlying25 rfl rfl) hL fun a s e_ hL=>sx 11 (t_move (o_i (k:=.i64) (by decide)) rfl rfl) hL fun a s e_ hL=>en' (hK4 _ _ ?_)
 refine wp_block ?_
 have J6 : ∀ (size5 : Int) (a : Act) (s : St),Has N0 36 s0 a s [(0,(Pd.rep (En.slice (En.slice En.SItem)) slices_)),(3,(Pd.rep (En.int .i64) size5))] → ((slices_Concat_api_State_api_Item.j2 slices_ r_) size5) → K3 a s.w:=by
  intro size5 a s hL h
  unfold slices_Concat_api_State_api_Item.j2 at h
  show K3 a s.w
  refine hK3 _ _ (wp_seq_k fun K7 hK7=>?_)
  obtain ⟨r8,h9,h⟩:=h
  refine rg (sx 23 (t_move (o_t 3 rfl) rfl rfl) hL fun a s e_ hL=>?_)
  refine st_callo 24 hL (slices_Grow_api_State_api_Item_ok h9) (xs:=[.const (.slice none 0 0),.tmp 23]) (.cons o_nilv (.cons (o_t 23 rfl) .nil)) rfl rfl rfl rfl fun a s og10 hg_ hL=>?_
  refine sx 6 (t_assign (o_t 24 rfl) rfl rfl) hL fun a s e_ hL=>en' (hK7 _ _ ?_)
  refine wp_seq_k fun K11 hK11=>wp_seq_k fun K12 hK12=>rg (sx 25 (t_move (o_t 0 rfl) rfl rfl) hL fun a s e_ hL=>?_)
  refine sx 26 (t_len (o_t 25 rfl) Tryz.underlying25 rfl rfl) hL fun a s e_ hL=>sx 27 (t_move (o_i (k:=.i64) (by decide)) rfl rfl) hL fun a s e_ hL=>en' (hK12 _ _ ?_)
  refine wp_block ?_
  have J15 : ∀ (newslice13 : (List SItem)) (og14 : Option Nat) (a : Act) (s : St),Has N0 36 s0 a s [(6,(Pd.row En.SItem s0.w.heap.size 77 og14 newslice13))] → ((slices_Concat_api_State_api_Item.j1 r_) newslice13) → K11 a s.w:=by
   intro newslice13 og14 a s hL h
   unfold slices_Concat_api_State_api_Item.j1 at h
   show K11 a s.w
   refine hK11 _ _ (wp_seq_k fun K16 hK16=>?_)
   refine rg (sx 35 (t_move (o_t 6 rfl) rfl rfl) hL fun a s e_ hL=>?_)
   refine sx 2 (t_assign (o_t 35 rfl) rfl rfl) hL fun a s e_ hL=>en' (hK16 _ _ ?_)
   subst h
   exact wp_ret (reto rfl hL rfl)
  obtain ⟨k20,h⟩:=h
  refine lpg (fun k21 a s=>∃ (newslice17 : (List SItem)) (v19 : Int) (og18 : Option Nat),Has N0 36 s0 a s [(6,(Pd.row En.SItem s0.w.heap.size 77 og18 newslice17)),(25,(Pd.rep (En.slice (En.slice En.SItem)) slices_)),(26,(Pd.rep (En.int .i64) (slices_.length : Int))),(27,(Pd.rep (En.int .i64) v19))] ∧ slices_Concat_api_State_api_Item.l1 slices_ (slices_Concat_api_State_api_Item.j1 r_) k21 newslice17 v19) k20 ⟨r8,0,og10,hL.keep (.cons (t:=6) rfl (fun _ _ h_=>h_) (.cons (t:=25) rfl nE (.cons (t:=26) rfl nE (.cons (t:=27) rfl nE .nil)))),h⟩ ?_
  rintro k21 a s ⟨newslice17,v19,og18,hL,h⟩ KL22 hKL22
  cases k21 with
  | zero=>exact h.elim
  | succ k21=>
  unfold slices_Concat_api_State_api_Item.l1 at h
  refine wp_seq_k fun K23 hK23=>rg (sx 28 (t_lss (o_t 27 rfl) (o_t 26 rfl) rfl rfl) hL fun a s e_ hL=>?_)
  refine en' (hK23 _ _ ?_)
  refine wp_seq_k fun K24 hK24=>cnd hL rfl (fun hb_=>?_) (fun hb_=>?_)
  ·replace h:=h.1 hb_
   refine wp_skip ?_
   show K24 a s.w
   refine hK24 _ _ (wp_seq_k fun K25 hK25=>?_)
   refine wp_block (wp_seq_k fun K26 hK26=>?_)
   obtain ⟨e27,h28,h⟩:=h
   refine rg (sx 29 (t_idx (o_t 25 rfl) (o_t 27 rfl) h28 Tryz.underlying25 ty47 rfl rfl) hL fun a s e_ hL=>?_)
   refine sx 30 (t_load ty47 (o_t 29 rfl) rfl rfl) hL fun a s e_ hL=>sx 8 (t_assign (o_t 30 rfl) rfl rfl) hL fun a s e_ hL=>en' (hK26 _ _ ?_)
   obtain ⟨h29,h⟩:=h
   refine rg (sx 31 (t_move (o_t 6 rfl) rfl rfl) hL fun a s e_ hL=>?_)
   refine sx 32 (t_move (o_t 8 rfl) rfl rfl) hL fun a s e_ hL=>st_app (L':=[(25,(Pd.rep (En.slice (En.slice En.SItem)) slices_)),(26,(Pd.rep (En.int .i64) (slices_.length : Int))),(27,(Pd.rep (En.int .i64) v19))]) 33 hL (o_t 31 rfl) (o_t 32 rfl) Tryz.underlying47 ty77 h29 rfl rfl rfl rfl (.cons (t:=25) rfl nE (.cons (t:=26) rfl nE (.cons (t:=27) rfl nE .nil))) fun a s og30 hg_ hL=>?_
   refine sx 6 (t_assign (o_t 33 rfl) rfl rfl) hL fun a s e_ hL=>en' (hK25 _ _ ?_)
   obtain ⟨h31,h⟩:=h
   refine rg (sx 34 (t_add (o_t 27 rfl) (o_i (k:=.i64) (by decide)) h31 rfl rfl) hL fun a s e_ hL=>?_)
   refine sx 27 (t_move (o_t 34 rfl) rfl rfl) hL fun a s e_ hL=>en' ?_
   exact hKL22 k21 a s (Nat.lt_succ_self _) ⟨(newslice17 ++ e27),(v19 + 1),og30,hL.keep (.cons (t:=6) rfl (fun _ _ h_=>h_) (.cons (t:=25) rfl nE (.cons (t:=26) rfl nE (.cons (t:=27) rfl nE .nil)))),h⟩
  ·replace h:=h.2 hb_
   refine wp_exit ?_
   exact J15 newslice17 og18 a s (hL.keep (.cons (t:=6) rfl (fun _ _ h_=>h_) .nil)) h
 obtain ⟨k34,h⟩:=h
 refine lpg (fun k35 a s=>∃ (size32 : Int) (v33 : Int),Has N0 36 s0 a s [(0,(Pd.rep (En.slice (En.slice En.SItem)) slices_)),(3,(Pd.rep (En.int .i64) size32)),(9,(Pd.rep (En.slice (En.slice En.SItem)) slices_)),(10,(Pd.rep (En.int .i64) (slices_.length : Int))),(11,(Pd.rep (En.int .i64) v33))] ∧ slices_Concat_api_State_api_Item.l2 slices_ (slices_Concat_api_State_api_Item.j2 slices_ r_) k35 size32 v33) k34 ⟨0,0,hL.keep (.cons (t:=0) rfl nE (.cons (t:=3) rfl nE (.cons (t:=9) rfl nE (.cons (t:=10) rfl nE (.cons (t:=11) rfl nE .nil))))),h⟩ ?_
 rintro k35 a s ⟨size32,v33,hL,h⟩ KL36 hKL36
 cases k35 with
 | zero=>exact h.elim
 | succ k35=>
 unfold slices_Concat_api_State_api_Item.l2 at h
 refine wp_seq_k fun K37 hK37=>rg (sx 12 (t_lss (o_t 11 rfl) (o_t 10 rfl) rfl rfl) hL fun a s e_ hL=>?_)
 refine en' (hK37 _ _ ?_)
 refine wp_seq_k fun K38 hK38=>cnd hL rfl (fun hb_=>?_) (fun hb_=>?_)
 ·replace h:=h.1 hb_
  refine wp_skip ?_
  show K38 a s.w
  refine hK38 _ _ (wp_seq_k fun K39 hK39=>?_)
  refine wp_block (wp_seq_k fun K40 hK40=>?_)
  obtain ⟨e41,h42,h⟩:=h
  refine rg (sx 13 (t_idx (o_t 9 rfl) (o_t 11 rfl) h42 Tryz.underlying25 ty47 rfl rfl) hL fun a s e_ hL=>?_)
  refine sx 14 (t_load ty47 (o_t 13 rfl) rfl rfl) hL fun a s e_ hL=>sx 5 (t_assign (o_t 14 rfl) rfl rfl) hL fun a s e_ hL=>en' (hK40 _ _ ?_)
  refine wp_seq_k fun K43 hK43=>?_
  obtain ⟨h44,h⟩:=h
  refine rg (sx 15 (t_move (o_t 3 rfl) rfl rfl) hL fun a s e_ hL=>?_)
  refine sx 16 (t_move (o_t 5 rfl) rfl rfl) hL fun a s e_ hL=>sx 17 (t_len (o_t 16 rfl) Tryz.underlying47 rfl rfl) hL fun a s e_ hL=>sx 18 (t_add (o_t 15 rfl) (o_t 17 rfl) h44 rfl rfl) hL fun a s e_ hL=>sx 3 (t_assign (o_t 18 rfl) rfl rfl) hL fun a s e_ hL=>en' (hK43 _ _ ?_)
  refine wp_seq_k fun K45 hK45=>rg (sx 19 (t_move (o_t 3 rfl) rfl rfl) hL fun a s e_ hL=>?_)
  refine sx 20 (t_lss (o_t 19 rfl) (o_i (k:=.i64) (by decide)) rfl rfl) hL fun a s e_ hL=>en' (hK45 _ _ ?_)
  refine cnd hL rfl (fun hb_=>?_) (fun hb_=>?_)
  ·replace h:=h.1 hb_
   exact h.elim
  ·replace h:=h.2 hb_
   refine wp_skip ?_
   show K39 a s.w
   refine hK39 _ _ ?_
   obtain ⟨h46,h⟩:=h
   refine rg (sx 22 (t_add (o_t 11 rfl) (o_i (k:=.i64) (by decide)) h46 rfl rfl) hL fun a s e_ hL=>?_)
   refine sx 11 (t_move (o_t 22 rfl) rfl rfl) hL fun a s e_ hL=>en' ?_
   exact hKL36 k35 a s (Nat.lt_succ_self _) ⟨(size32 + (e41.length : Int)),(v33 + 1),hL.keep (.cons (t:=0) rfl nE (.cons (t:=3) rfl nE (.cons (t:=9) rfl nE (.cons (t:=10) rfl nE (.cons (t:=11) rfl nE .nil))))),h⟩
 ·replace h:=h.2 hb_
  refine wp_exit ?_
  exact J6 size32 a s (hL.keep (.cons (t:=0) rfl nE (.cons (t:=3) rfl nE .nil))) h
theorem slices_Clone_api_State_api_Item_ok {s_ : (List SItem)} {r_ : (List SItem)} (h : slices_Clone_api_State_api_Item s_ r_) : Fn Tryz.prog 143 [(Pd.rep (En.slice En.SItem) s_)] (Ro En.SItem 77 r_):=by
 unfold slices_Clone_api_State_api_Item at h
 refine fn_of Tryz.func143 rfl Tryz.ntmps143 (by rfl) (by simp) fun s0 a hL=>?_
 refine wp_seq_k fun K1 hK1=>rg (sx 2 (t_assign (o_nil (E:=En.SItem) (N:=s0.w.heap.size) (te:=77)) rfl rfl) hL fun a s e_ hL=>?_)
 refine en' (hK1 _ _ ?_)
 refine wp_seq_k fun K2 hK2=>wp_seq_k fun K3 hK3=>rg (sx 3 (t_move (o_t 0 rfl) rfl rfl) hL fun a s e_ hL=>?_)
 refine sx 4 (t_isnil (o_t 3 rfl) Tryz.underlying47 rfl rfl) hL fun a s e_ hL=>?_
 obtain ⟨b4,h5,hL⟩:=hL.nilq 4 rfl
 replace h:=h b4 h5
 refine en' (hK3 _ _ ?_)
 refine cnd hL rfl (fun hb_=>?_) (fun hb_=>?_)
 ·replace h:=h.1 hb_
  refine wp_seq_k fun K6 hK6=>rg (sx 2 (t_assign (o_nil (E:=En.SItem) (N:=s0.w.heap.size) (te:=77)) rfl rfl) hL fun a s e_ hL=>?_)
  refine en' (hK6 _ _ ?_)
  subst h
  exact wp_ret (reto rfl hL rfl)
 ·replace h:=h.2 hb_
  refine wp_skip ?_
  show K2 a s.w
  refine hK2 _ _ (wp_seq_k fun K7 hK7=>?_)
  obtain ⟨h9,h⟩:=h
  refine rg (st_new En.SItem 5 hL Tryz.underlying47 ty77 rfl rfl rfl rfl fun a s g8 hg_ hL=>?_)
  refine sx 6 (t_move (o_t 0 rfl) rfl rfl) hL fun a s e_ hL=>st_app (L':=[(2,(Pd.row En.SItem s0.w.heap.size 77 none ([] : (List SItem))))]) 7 hL (o_t 5 rfl) (o_t 6 rfl) Tryz.underlying47 ty77 h9 rfl rfl rfl rfl (.cons (t:=2) rfl no_own .nil) fun a s og10 hg_ hL=>?_
  refine sx 2 (t_assign (o_t 7 rfl) rfl rfl) hL fun a s e_ hL=>en' (hK7 _ _ ?_)
  subst h
  exact wp_ret (reto rfl hL rfl)
theorem slices_IndexFunc_api_State_api_State_ok {s_ : (List (List SItem))} {f_ : ((List SItem) × Bool → Prop)} {r_ : Int} (h : slices_IndexFunc_api_State_api_State s_ f_ r_) : Fn Tryz.prog 102 [(Pd.rep (En.slice (En.slice En.SItem)) s_),(Pd.rep EnF88 f_)] (Rq (Pd.rep (En.int .i64) r_)):=by
 unfold slices_IndexFunc_api_State_api_State at h
 refine fn_of Tryz.func102 rfl Tryz.ntmps102 (by rfl) (by simp) fun s0 a hL=>?_
 refine wp_seq_k fun K1 hK1=>rg (sx 4 (t_assign (o_i (k:=.i64) (by decide)) rfl rfl) hL fun a s e_ hL=>?_)
 refine en' (hK1 _ _ ?_)
 refine wp_seq_k fun K2 hK2=>wp_seq_k fun K3 hK3=>rg (sx 6 (t_move (o_t 0 rfl) rfl rfl) hL fun a s e_ hL=>?_)
 refine sx 7 (t_len (o_t 6 rfl) Tryz.underlying25 rfl rfl) hL fun a s e_ hL=>sx 8 (t_move (o_i (k:=.i64) (by decide)) rfl rfl) hL fun a s e_ hL=>en' (hK3 _ _ ?_)
 refine wp_block ?_
 have J4 : ∀ (a : Act) (s : St),Has N0 19 s0 a s [] → ((slices_IndexFunc_api_State_api_State.j1 r_)) → K2 a s.w:=by
  intro a s hL h
  unfold slices_IndexFunc_api_State_api_State.j1 at h
  show K2 a s.w
  refine hK2 _ _ (wp_seq_k fun K5 hK5=>?_)
  refine rg (sx 4 (t_assign (o_i (k:=.i64) (by decide)) rfl rfl) hL fun a s e_ hL=>?_)
  refine en' (hK5 _ _ ?_)
  subst h
  exact wp_ret (retq rfl hL rfl)
 obtain ⟨k7,h⟩:=h
 refine lpg (fun k8 a s=>∃ (v6 : Int),Has N0 19 s0 a s [(0,(Pd.rep (En.slice (En.slice En.SItem)) s_)),(1,(Pd.rep EnF88 f_)),(7,(Pd.rep (En.int .i64) (s_.length : Int))),(8,(Pd.rep (En.int .i64) v6))] ∧ slices_IndexFunc_api_State_api_State.l1 s_ f_ r_ (slices_IndexFunc_api_State_api_State.j1 r_) k8 v6) k7 ⟨0,hL.keep (.cons (t:=0) rfl nE (.cons (t:=1) rfl nE (.cons (t:=7) rfl nE (.cons (t:=8) rfl nE .nil)))),h⟩ ?_
 rintro k8 a s ⟨v6,hL,h⟩ KL9 hKL9
 cases k8 with
 | zero=>exact h.elim
 | succ k8=>
 unfold slices_IndexFunc_api_State_api_State.l1 at h
 refine wp_seq_k fun K10 hK10=>rg (sx 9 (t_lss (o_t 8 rfl) (o_t 7 rfl) rfl rfl) hL fun a s e_ hL=>?_)
 refine en' (hK10 _ _ ?_)
 refine wp_seq_k fun K11 hK11=>cnd hL rfl (fun hb_=>?_) (fun hb_=>?_)
 ·replace h:=h.1 hb_
  refine wp_skip ?_
  show K11 a s.w
  refine hK11 _ _ (wp_seq_k fun K12 hK12=>?_)
  refine wp_block (wp_seq_k fun K13 hK13=>?_)
  refine rg (sx 10 (t_move (o_t 8 rfl) rfl rfl) hL fun a s e_ hL=>?_)
  refine sx 5 (t_assign (o_t 10 rfl) rfl rfl) hL fun a s e_ hL=>en' (hK13 _ _ ?_)
  refine wp_seq_k fun K14 hK14=>?_
  obtain ⟨e15,h16,r17,h18,h⟩:=h
  refine rg (sx 11 (t_move (o_t 1 rfl) rfl rfl) hL fun a s e_ hL=>?_)
  refine sx 12 (t_move (o_t 0 rfl) rfl rfl) hL fun a s e_ hL=>sx 13 (t_move (o_t 5 rfl) rfl rfl) hL fun a s e_ hL=>sx 14 (t_idx (o_t 12 rfl) (o_t 13 rfl) h16 Tryz.underlying25 ty47 rfl rfl) hL fun a s e_ hL=>sx 15 (t_load ty47 (o_t 14 rfl) rfl rfl) hL fun a s e_ hL=>sx 16 (t_callf (q:=(e15,r17)) (o_t 11 rfl) h18 (xs:=[.tmp 15]) (.cons (o_t 15 rfl) .nil) (fun _ _ _ h_=>h_) rfl rfl) hL fun a s e_ hL=>en' (hK14 _ _ ?_)
  refine cnd hL rfl (fun hb_=>?_) (fun hb_=>?_)
  ·replace h:=h.1 hb_
   refine wp_seq_k fun K19 hK19=>rg (sx 17 (t_move (o_t 5 rfl) rfl rfl) hL fun a s e_ hL=>?_)
   refine sx 4 (t_assign (o_t 17 rfl) rfl rfl) hL fun a s e_ hL=>en' (hK19 _ _ ?_)
   subst h
   exact wp_ret (retq rfl hL rfl)
  ·replace h:=h.2 hb_
   refine wp_skip ?_
   show K12 a s.w
   refine hK12 _ _ ?_
   obtain ⟨h20,h⟩:=h
   refine rg (sx 18 (t_add (o_t 8 rfl) (o_i (k:=.i64) (by decide)) h20 rfl rfl) hL fun a s e_ hL=>?_)
   refine sx 8 (t_move (o_t 18 rfl) rfl rfl) hL fun a s e_ hL=>en' ?_
   exact hKL9 k8 a s (Nat.lt_succ_self _) ⟨(v6 + 1),hL.keep (.cons (t:=0) rfl nE (.cons (t:=1) rfl nE (.cons (t:=7) rfl nE (.cons (t:=8) rfl nE .nil)))),h⟩
 ·replace h:=h.2 hb_
  refine wp_exit ?_
  exact J4 a s (hL.keep .nil) h
theorem slices_ContainsFunc_api_State_api_State_ok {s_ : (List (List SItem))} {f_ : ((List SItem) × Bool → Prop)} {r_ : Bool} (h : slices_ContainsFunc_api_State_api_State s_ f_ r_) : Fn Tryz.prog 61 [(Pd.rep (En.slice (En.slice En.SItem)) s_),(Pd.rep EnF88 f_)] (Rq (Pd.rep En.bool r_)):=by
 unfold slices_ContainsFunc_api_State_api_State at h
 refine fn_of Tryz.func61 rfl Tryz.ntmps61 (by rfl) (by simp) fun s0 a hL=>?_
 refine wp_seq_k fun K1 hK1=>rg (sx 4 (t_assign o_b rfl rfl) hL fun a s e_ hL=>?_)
 refine en' (hK1 _ _ ?_)
 refine wp_seq_k fun K2 hK2=>?_
 obtain ⟨r3,h4,h⟩:=h
 refine rg (sx 5 (t_move (o_t 0 rfl) rfl rfl) hL fun a s e_ hL=>?_)
 refine sx 6 (t_move (o_t 1 rfl) rfl rfl) hL fun a s e_ hL=>sx 7 (t_call (slices_IndexFunc_api_State_api_State_ok h4) (xs:=[.tmp 5,.tmp 6]) (.cons (o_t 5 rfl) (.cons (o_t 6 rfl) .nil)) rfl rfl) hL fun a s e_ hL=>sx 8 (t_geq (o_t 7 rfl) (o_i (k:=.i64) (by decide)) rfl rfl) hL fun a s e_ hL=>sx 4 (t_assign (o_t 8 rfl) rfl rfl) hL fun a s e_ hL=>en' (hK2 _ _ ?_)
 subst h
 exact wp_ret (retq rfl hL rfl)
theorem slices_insertionSortCmpFunc_api_Class_ok (v0 : Value) {data_ : (List Cl)} {a_ : Int} {b_ : Int} {cmp_ : (Cl × Cl × Int → Prop)} {r_ : (List Cl)} (h : slices_insertionSortCmpFunc_api_Class data_ a_ b_ cmp_ r_) : Fm Tryz.prog 185 (fun b=>v0.ownBlock = some b) [(Pd.prow En.cls 51 v0 data_),(Pd.rep (En.int .i64) a_),(Pd.rep (En.int .i64) b_),(Pd.rep EnF211 cmp_)] (fun _ s' _=>(Pd.prow En.cls 51 v0 r_).p s' v0):=by
 unfold slices_insertionSortCmpFunc_api_Class at h
 refine fm_of Tryz.func185 rfl Tryz.ntmps185 (by rfl) (by simp) fun s0 a hL=>?_
 refine wp_seq_k fun K1 hK1=>?_
 obtain ⟨h2,h⟩:=h
 refine rg (sx 10 (t_move (o_t 1 rfl) rfl rfl) hL fun a s e_ hL=>?_)
 refine sx 11 (t_add (o_t 10 rfl) (o_i (k:=.i64) (by decide)) h2 rfl rfl) hL fun a s e_ hL=>sx 8 (t_assign (o_t 11 rfl) rfl rfl) hL fun a s e_ hL=>en' (hK1 _ _ ?_)
 refine wp_block ?_
 have J4 : ∀ (data3 : (List Cl)) (a : Act) (s : St),Has (fun b=>v0.ownBlock = some b) 53 s0 a s [(0,(Pd.prow En.cls 51 v0 data3))] → ((slices_insertionSortCmpFunc_api_Class.j1 r_) data3) → (bodyPost Tryz.prog Tryz.f185 (Pst (fun b=>v0.ownBlock = some b) (fun _ s' _=>(Pd.prow En.cls 51 v0 r_).p s' v0) s0) .normal) a s.w:=by
  intro data3 a s hL h
  unfold slices_insertionSortCmpFunc_api_Class.j1 at h
  subst h
  exact retm rfl hL (c:=0) rfl
 obtain ⟨k7,h⟩:=h
 refine lpg (fun k8 a s=>∃ (data5 : (List Cl)) (i6 : Int),Has (fun b=>v0.ownBlock = some b) 53 s0 a s [(0,(Pd.prow En.cls 51 v0 data5)),(1,(Pd.rep (En.int .i64) a_)),(2,(Pd.rep (En.int .i64) b_)),(3,(Pd.rep EnF211 cmp_)),(8,(Pd.rep (En.int .i64) i6))] ∧ slices_insertionSortCmpFunc_api_Class.l1 a_ b_ cmp_ (slices_insertionSortCmpFunc_api_Class.j1 r_) k8 data5 i6) k7 ⟨data_,(a_ + 1),hL.keep (.cons (t:=0) rfl (fun _ _ h_=>h_) (.cons (t:=1) rfl nE (.cons (t:=2) rfl nE (.cons (t:=3) rfl nE (.cons (t:=8) rfl nE .nil))))),h⟩ ?_
 rintro k8 a s ⟨data5,i6,hL,h⟩ KL9 hKL9
 cases k8 with
 | zero=>exact h.elim
 | succ k8=>
 unfold slices_insertionSortCmpFunc_api_Class.l1 at h
 refine wp_seq_k fun K10 hK10=>wp_seq_k fun K11 hK11=>rg (sx 12 (t_move (o_t 8 rfl) rfl rfl) hL fun a s e_ hL=>?_)
 refine sx 13 (t_move (o_t 2 rfl) rfl rfl) hL fun a s e_ hL=>sx 14 (t_lss (o_t 12 rfl) (o_t 13 rfl) rfl rfl) hL fun a s e_ hL=>en' (hK11 _ _ ?_)
 refine cnd hL rfl (fun hb_=>?_) (fun hb_=>?_)
 ·replace h:=h.1 hb_
  refine wp_skip ?_
  show K10 a s.w
  refine hK10 _ _ (wp_seq_k fun K12 hK12=>?_)
  refine wp_block (wp_seq_k fun K13 hK13=>?_)
  refine rg (sx 17 (t_move (o_t 8 rfl) rfl rfl) hL fun a s e_ hL=>?_)
  refine sx 9 (t_assign (o_t 17 rfl) rfl rfl) hL fun a s e_ hL=>en' (hK13 _ _ ?_)
  refine wp_block ?_
  have J15 : ∀ (data14 : (List Cl)) (a : Act) (s : St),Has (fun b=>v0.ownBlock = some b) 53 s0 a s [(0,(Pd.prow En.cls 51 v0 data14)),(1,(Pd.rep (En.int .i64) a_)),(2,(Pd.rep (En.int .i64) b_)),(3,(Pd.rep EnF211 cmp_)),(8,(Pd.rep (En.int .i64) i6))] → ((slices_insertionSortCmpFunc_api_Class.j2 (slices_insertionSortCmpFunc_api_Class.l1 a_ b_ cmp_ (slices_insertionSortCmpFunc_api_Class.j1 r_) k8) i6) data14) → K12 a s.w:=by
   intro data14 a s hL h
   unfold slices_insertionSortCmpFunc_api_Class.j2 at h
   show K12 a s.w
   refine hK12 _ _ ?_
   obtain ⟨h16,h⟩:=h
   refine rg (sx 15 (t_move (o_t 8 rfl) rfl rfl) hL fun a s e_ hL=>?_)
   refine sx 16 (t_add (o_t 15 rfl) (o_i (k:=.i64) (by decide)) h16 rfl rfl) hL fun a s e_ hL=>sx 8 (t_assign (o_t 16 rfl) rfl rfl) hL fun a s e_ hL=>en' ?_
   exact hKL9 k8 a s (Nat.lt_succ_self _) ⟨data14,(i6 + 1),hL.keep (.cons (t:=0) rfl (fun _ _ h_=>h_) (.cons (t:=1) rfl nE (.cons (t:=2) rfl nE (.cons (t:=3) rfl nE (.cons (t:=8) rfl nE .nil))))),h⟩
  obtain ⟨k19,h⟩:=h
  refine lpg (fun k20 a s=>∃ (data17 : (List Cl)) (j18 : Int),Has (fun b=>v0.ownBlock = some b) 53 s0 a s [(0,(Pd.prow En.cls 51 v0 data17)),(1,(Pd.rep (En.int .i64) a_)),(2,(Pd.rep (En.int .i64) b_)),(3,(Pd.rep EnF211 cmp_)),(8,(Pd.rep (En.int .i64) i6)),(9,(Pd.rep (En.int .i64) j18))] ∧ slices_insertionSortCmpFunc_api_Class.l2 a_ cmp_ (slices_insertionSortCmpFunc_api_Class.j2 (slices_insertionSortCmpFunc_api_Class.l1 a_ b_ cmp_ (slices_insertionSortCmpFunc_api_Class.j1 r_) k8) i6) k20 data17 j18) k19 ⟨data5,i6,hL.keep (.cons (t:=0) rfl (fun _ _ h_=>h_) (.cons (t:=1) rfl nE (.cons (t:=2) rfl nE (.cons (t:=3) rfl nE (.cons (t:=8) rfl nE (.cons (t:=9) rfl nE .nil)))))),h⟩ ?_
  rintro k20 a s ⟨data17,j18,hL,h⟩ KL21 hKL21
  cases k20 with
  | zero=>exact h.elim
  | succ k20=>
  unfold slices_insertionSortCmpFunc_api_Class.l2 at h
  refine wp_seq_k fun K22 hK22=>wp_seq_k fun K23 hK23=>?_
  obtain ⟨e24,h25,h26,e27,h28,r29,h30,h⟩:=h
  refine rda follows 17 [(Pd.rep (En.int .i64) j18),(Pd.rep (En.int .i64) a_),(Pd.rep En.bool (decide (a_ < j18))),(Pd.rep En.bool (decide (a_ < j18))),(Pd.when ((decide (a_ < j18)) = true) (Pd.rep EnF211 cmp_)),(Pd.when ((decide (a_ < j18)) = true) (Pd.prow En.cls 51 v0 data17)),(Pd.when ((decide (a_ < j18)) = true) (Pd.rep (En.int .i64) j18)),(Pd.when ((decide (a_ < j18)) = true) (Pd.optr En.cls 0 v0.ownBlock ((j18 : Int).toNat * En.cls.sz) e24)),(Pd.when ((decide (a_ < j18)) = true) (Pd.rep En.cls e24)),(Pd.when ((decide (a_ < j18)) = true) (Pd.prow En.cls 51 v0 data17)),(Pd.when ((decide (a_ < j18)) = true) (Pd.rep (En.int .i64) j18)),(Pd.when ((decide (a_ < j18)) = true) (Pd.rep (En.int .i64) (j18 - 1))),(Pd.when ((decide (a_ < j18)) = true) (Pd.optr En.cls 0 v0.ownBlock ((j18 - 1 : Int).toNat * En.cls.sz) e27)),(Pd.when ((decide (a_ < j18)) = true) (Pd.rep En.cls e27)),(Pd.when ((decide (a_ < j18)) = true) (Pd.rep (En.int .i64) r29)),(Pd.when ((decide (a_ < j18)) = true) (Pd.rep En.bool (decide (r29 < 0)))),(Pd.rep En.bool ((decide (a_ < j18)) && (decide (r29 < 0))))] hL (by kernel_rfl) rfl rfl ?_ ?_
  ·refine AllT.cons (t_move (o_t 9 rfl) rfl rfl) ?_
   refine AllT.cons (t_move (o_t 1 rfl) rfl rfl) (AllT.cons (t_gtr (o_t 18 rfl) (o_t 19 rfl) rfl rfl) ?_)
   refine AllT.cons (t_move (o_t 20 rfl) rfl rfl) (AllT.cons (t_g1 rfl rfl rfl (fun hc_=>t_move (o_t 3 rfl) rfl rfl)) ?_)
   refine AllT.cons (t_g1 rfl rfl rfl (fun hc_=>t_move (o_t 0 rfl) rfl rfl)) (AllT.cons (t_g1 rfl rfl rfl (fun hc_=>t_move (o_t 9 rfl) rfl rfl)) ?_)
   refine AllT.cons (t_g1 rfl rfl rfl (fun hc_=>t_idxo (o_p (o_w hc_ 23 rfl)) (o_w hc_ 24 rfl) (h25 hc_) Tryz.underlying36 ty51 rfl rfl)) (AllT.cons (t_g1 rfl rfl rfl (fun hc_=>t_loado ty51 (o_w hc_ 25 rfl) rfl rfl)) ?_)
   refine AllT.cons (t_g1 rfl rfl rfl (fun hc_=>t_move (o_t 0 rfl) rfl rfl)) (AllT.cons (t_g1 rfl rfl rfl (fun hc_=>t_move (o_t 9 rfl) rfl rfl)) ?_)
   refine AllT.cons (t_g1 rfl rfl rfl (fun hc_=>t_sub (o_w hc_ 28 rfl) (o_i (k:=.i64) (by decide)) (h26 hc_) rfl rfl)) (AllT.cons (t_g1 rfl rfl rfl (fun hc_=>t_idxo (o_p (o_w hc_ 27 rfl)) (o_w hc_ 29 rfl) (h28 hc_) Tryz.underlying36 ty51 rfl rfl)) ?_)
   refine AllT.cons (t_g1 rfl rfl rfl (fun hc_=>t_loado ty51 (o_w hc_ 30 rfl) rfl rfl)) (AllT.cons (t_g1 rfl rfl rfl (fun hc_=>t_callf (q:=(e24,e27,r29)) (o_w hc_ 22 rfl) (h30 hc_) (xs:=[.tmp 26,.tmp 31]) (.cons (o_w hc_ 26 rfl) (.cons (o_w hc_ 31 rfl) .nil)) (fun _ _ _ h_=>h_) rfl rfl)) ?_)
   refine AllT.cons (t_g1 rfl rfl rfl (fun hc_=>t_lss (o_w hc_ 32 rfl) (o_i (k:=.i64) (by decide)) rfl rfl)) (AllT.cons (t_and (o_t 21 rfl) (fun hc2_=>(o_w hc2_ 33 rfl)) rfl rfl) ?_)
   exact AllT.nil
  intro a s e_ hL
  refine en' (hK23 _ _ ?_)
  refine cnd hL rfl (fun hb_=>?_) (fun hb_=>?_)
  ·replace h:=h.1 hb_
   refine wp_skip ?_
   show K22 a s.w
   refine hK22 _ _ (wp_seq_k fun K31 hK31=>?_)
   refine wp_block ?_
   obtain ⟨h32,h33,e34,h35,e36,h37,e38,h39,e40,h41,h⟩:=h
   refine rdf 18 follows hL (by kernel_rfl) fun s e_ hL=>?_
   refine fl_take 2 39 hL (by rfl) (by kernel_rfl) (by kernel_rfl) (by kernel_rfl) (fun _ _ _ _ h=>h) (q:=(Pd.prow En.cls 51 v0 data17)) (y_move (o_t 0 rfl) rfl rfl) rfl rfl fun a hL=>?_
   refine fl_take 3 40 hL (by rfl) (by kernel_rfl) (by kernel_rfl) (by kernel_rfl) (fun _ _ _ _ h=>h) (q:=(Pd.rep (En.int .i64) j18)) (y_move (o_t 9 rfl) rfl rfl) rfl rfl fun a hL=>?_
   refine fl_take 4 41 hL (by rfl) (by kernel_rfl) (by kernel_rfl) (by kernel_rfl) (fun _ _ _ _ h=>h) (q:=(Pd.rep (En.int .i64) (j18 - 1))) (y_sub (o_t 40 rfl) (o_i (k:=.i64) (by decide)) h32 rfl rfl) rfl rfl fun a hL=>?_
   refine fl_go 15 [(Pd.prow En.cls 51 v0 data17),(Pd.rep (En.int .i64) j18),(Pd.prow En.cls 51 v0 data17),(Pd.rep (En.int .i64) j18),(Pd.rep (En.int .i64) (j18 - 1)),(Pd.prow En.cls 51 v0 data17),(Pd.rep (En.int .i64) j18),(Pd.rep (En.int .i64) (j18 - 1)),(Pd.optr En.cls 0 v0.ownBlock ((j18 - 1 : Int).toNat * En.cls.sz) e34),(Pd.rep En.cls e34),(Pd.prow En.cls 51 v0 data17),(Pd.rep (En.int .i64) j18),(Pd.optr En.cls 0 v0.ownBlock ((j18 : Int).toNat * En.cls.sz) e36),(Pd.rep En.cls e36),(Pd.optr En.cls 0 v0.ownBlock ((j18 : Int).toNat * En.cls.sz) e38)] [2,3,4] hL (by kernel_rfl) (by kernel_rfl) (by kernel_rfl) (.cons (i:=2) rfl rfl rfl rfl (.cons (i:=3) rfl rfl rfl rfl (.cons (i:=4) rfl rfl rfl rfl .nil))) rfl rfl ?_ ?_
   ·refine AllF.cons (t_move (o_t 0 rfl) rfl rfl) ?_
    refine AllF.cons (t_move (o_t 9 rfl) rfl rfl) (AllF.skip rfl ?_)
    refine AllF.skip rfl (AllF.skip rfl ?_)
    refine AllF.cons (t_move (o_t 0 rfl) rfl rfl) (AllF.cons (t_move (o_t 9 rfl) rfl rfl) ?_)
    refine AllF.cons (t_sub (o_t 43 rfl) (o_i (k:=.i64) (by decide)) h33 rfl rfl) (AllF.cons (t_idxo (o_p (o_t 42 rfl)) (o_t 44 rfl) h35 Tryz.underlying36 ty51 rfl rfl) ?_)
    refine AllF.cons (t_loado ty51 (o_t 45 rfl) rfl rfl) (AllF.cons (t_move (o_t 0 rfl) rfl rfl) ?_)
    refine AllF.cons (t_move (o_t 9 rfl) rfl rfl) (AllF.cons (t_idxo (o_p (o_t 47 rfl)) (o_t 48 rfl) h37 Tryz.underlying36 ty51 rfl rfl) ?_)
    refine AllF.cons (t_loado ty51 (o_t 49 rfl) rfl rfl) (AllF.cons (t_idxo (o_p (o_t 37 rfl)) (o_t 38 rfl) h39 Tryz.underlying36 ty51 rfl rfl) ?_)
    exact AllF.nil
   intro a s e_ hL
   refine st_storp (L':=[(0,(Pd.prow En.cls 51 v0 (data17.set (j18 : Int).toNat e34))),(1,(Pd.rep (En.int .i64) a_)),(2,(Pd.rep (En.int .i64) b_)),(3,(Pd.rep EnF211 cmp_)),(8,(Pd.rep (En.int .i64) i6)),(9,(Pd.rep (En.int .i64) j18)),(39,(Pd.prow En.cls 51 v0 (data17.set (j18 : Int).toNat e34))),(41,(Pd.rep (En.int .i64) (j18 - 1))),(50,(Pd.rep En.cls e36))]) (off:=0) 0 (fun b h=>h) hL rfl h39 (o_t 51 rfl) (o_t 46 rfl) (sub_all _ _ _) ty51 rfl rfl rfl (.turn (t:=0) rfl (.cons (t:=1) rfl nE (.cons (t:=2) rfl nE (.cons (t:=3) rfl nE (.cons (t:=8) rfl nE (.cons (t:=9) rfl nE (.turn (t:=39) rfl (.cons (t:=41) rfl nE (.cons (t:=50) rfl nE .nil))))))))) fun s hL=>?_
   refine sx 52 (t_idxo (o_p (o_t 39 rfl)) (o_t 41 rfl) h41 Tryz.underlying36 ty51 rfl rfl) hL fun a s e_ hL=>st_storp (L':=[(0,(Pd.prow En.cls 51 v0 ((data17.set (j18 : Int).toNat e34).set (j18 - 1 : Int).toNat e36))),(1,(Pd.rep (En.int .i64) a_)),(2,(Pd.rep (En.int .i64) b_)),(3,(Pd.rep EnF211 cmp_)),(8,(Pd.rep (En.int .i64) i6)),(9,(Pd.rep (En.int .i64) j18))]) (off:=0) 0 (fun b h=>h) hL rfl h41 (o_t 52 rfl) (o_t 50 rfl) (sub_all _ _ _) ty51 rfl rfl rfl (.turn (t:=0) rfl (.cons (t:=1) rfl nE (.cons (t:=2) rfl nE (.cons (t:=3) rfl nE (.cons (t:=8) rfl nE (.cons (t:=9) rfl nE .nil)))))) fun s hL=>?_
   refine en' (hK31 _ _ ?_)
   obtain ⟨h42,h⟩:=h
   refine rg (sx 35 (t_move (o_t 9 rfl) rfl rfl) hL fun a s e_ hL=>?_)
   refine sx 36 (t_sub (o_t 35 rfl) (o_i (k:=.i64) (by decide)) h42 rfl rfl) hL fun a s e_ hL=>sx 9 (t_assign (o_t 36 rfl) rfl rfl) hL fun a s e_ hL=>en' ?_
   exact hKL21 k20 a s (Nat.lt_succ_self _) ⟨((data17.set (j18 : Int).toNat e34).set (j18 - 1 : Int).toNat e36),(j18 - 1),hL.keep (.cons (t:=0) rfl (fun _ _ h_=>h_) (.cons (t:=1) rfl nE (.cons (t:=2) rfl nE (.cons (t:=3) rfl nE (.cons (t:=8) rfl nE (.cons (t:=9) rfl nE .nil)))))),h⟩
  ·replace h:=h.2 hb_
   refine wp_exit ?_
   exact J15 data17 a s (hL.keep (.cons (t:=0) rfl (fun _ _ h_=>h_) (.cons (t:=1) rfl nE (.cons (t:=2) rfl nE (.cons (t:=3) rfl nE (.cons (t:=8) rfl nE .nil)))))) h
 ·replace h:=h.2 hb_
  refine wp_exit ?_
  exact J4 data5 a s (hL.keep (.cons (t:=0) rfl (fun _ _ h_=>h_) .nil)) h
theorem slices_swapRangeCmpFunc_api_Class_ok (v0 : Value) {data_ : (List Cl)} {a_ : Int} {b_ : Int} {nv_ : Int} {cmp_ : (Cl × Cl × Int → Prop)} {r_ : (List Cl)} (h : slices_swapRangeCmpFunc_api_Class data_ a_ b_ nv_ cmp_ r_) : Fm Tryz.prog 190 (fun b=>v0.ownBlock = some b) [(Pd.prow En.cls 51 v0 data_),(Pd.rep (En.int .i64) a_),(Pd.rep (En.int .i64) b_),(Pd.rep (En.int .i64) nv_),(Pd.rep EnF211 cmp_)] (fun _ s' _=>(Pd.prow En.cls 51 v0 r_).p s' v0):=by
 unfold slices_swapRangeCmpFunc_api_Class at h
 refine fm_of Tryz.func190 rfl Tryz.ntmps190 (by rfl) (by simp) fun s0 a hL=>?_
 refine wp_seq_k fun K1 hK1=>rg (sx 10 (t_assign (o_i (k:=.i64) (by decide)) rfl rfl) hL fun a s e_ hL=>?_)
 refine en' (hK1 _ _ ?_)
 refine wp_block ?_
 have J3 : ∀ (data2 : (List Cl)) (a : Act) (s : St),Has (fun b=>v0.ownBlock = some b) 38 s0 a s [(0,(Pd.prow En.cls 51 v0 data2))] → ((slices_swapRangeCmpFunc_api_Class.j1 r_) data2) → (bodyPost Tryz.prog Tryz.f190 (Pst (fun b=>v0.ownBlock = some b) (fun _ s' _=>(Pd.prow En.cls 51 v0 r_).p s' v0) s0) .normal) a s.w:=by
  intro data2 a s hL h
  unfold slices_swapRangeCmpFunc_api_Class.j1 at h
  subst h
  exact retm rfl hL (c:=0) rfl
 obtain ⟨k6,h⟩:=h
 refine lpg (fun k7 a s=>∃ (data4 : (List Cl)) (i5 : Int),Has (fun b=>v0.ownBlock = some b) 38 s0 a s [(0,(Pd.prow En.cls 51 v0 data4)),(1,(Pd.rep (En.int .i64) a_)),(2,(Pd.rep (En.int .i64) b_)),(3,(Pd.rep (En.int .i64) nv_)),(10,(Pd.rep (En.int .i64) i5))] ∧ slices_swapRangeCmpFunc_api_Class.l1 a_ b_ nv_ (slices_swapRangeCmpFunc_api_Class.j1 r_) k7 data4 i5) k6 ⟨data_,0,hL.keep (.cons (t:=0) rfl (fun _ _ h_=>h_) (.cons (t:=1) rfl nE (.cons (t:=2) rfl nE (.cons (t:=3) rfl nE (.cons (t:=10) rfl nE .nil))))),h⟩ ?_
 rintro k7 a s ⟨data4,i5,hL,h⟩ KL8 hKL8
 cases k7 with
 | zero=>exact h.elim
 | succ k7=>
 unfold slices_swapRangeCmpFunc_api_Class.l1 at h
 refine wp_seq_k fun K9 hK9=>wp_seq_k fun K10 hK10=>rg (sx 11 (t_move (o_t 10 rfl) rfl rfl) hL fun a s e_ hL=>?_)
 refine sx 12 (t_move (o_t 3 rfl) rfl rfl) hL fun a s e_ hL=>sx 13 (t_lss (o_t 11 rfl) (o_t 12 rfl) rfl rfl) hL fun a s e_ hL=>en' (hK10 _ _ ?_)
 refine cnd hL rfl (fun hb_=>?_) (fun hb_=>?_)
 ·replace h:=h.1 hb_
  refine wp_skip ?_
  show K9 a s.w
  refine hK9 _ _ (wp_seq_k fun K11 hK11=>?_)
  refine wp_block ?_
  obtain ⟨h12,h13,h14,e15,h16,h17,e18,h19,e20,h21,e22,h23,h⟩:=h
  refine rdf 24 follows hL (by kernel_rfl) fun s e_ hL=>?_
  refine fl_take 4 20 hL (by rfl) (by kernel_rfl) (by kernel_rfl) (by kernel_rfl) (fun _ _ _ _ h=>h) (q:=(Pd.prow En.cls 51 v0 data4)) (y_move (o_t 0 rfl) rfl rfl) rfl rfl fun a hL=>?_
  refine fl_take 5 21 hL (by rfl) (by kernel_rfl) (by kernel_rfl) (by kernel_rfl) (fun _ _ _ _ h=>h) (q:=(Pd.rep (En.int .i64) b_)) (y_move (o_t 2 rfl) rfl rfl) rfl rfl fun a hL=>?_
  refine fl_take 6 22 hL (by rfl) (by kernel_rfl) (by kernel_rfl) (by kernel_rfl) (fun _ _ _ _ h=>h) (q:=(Pd.rep (En.int .i64) i5)) (y_move (o_t 10 rfl) rfl rfl) rfl rfl fun a hL=>?_
  refine fl_take 7 23 hL (by rfl) (by kernel_rfl) (by kernel_rfl) (by kernel_rfl) (fun _ _ _ _ h=>h) (q:=(Pd.rep (En.int .i64) (b_ + i5))) (y_add (o_t 21 rfl) (o_t 22 rfl) h13 rfl rfl) rfl rfl fun a hL=>?_
  refine fl_go 21 [(Pd.prow En.cls 51 v0 data4),(Pd.rep (En.int .i64) a_),(Pd.rep (En.int .i64) i5),(Pd.rep (En.int .i64) (a_ + i5)),(Pd.prow En.cls 51 v0 data4),(Pd.rep (En.int .i64) b_),(Pd.rep (En.int .i64) i5),(Pd.rep (En.int .i64) (b_ + i5)),(Pd.prow En.cls 51 v0 data4),(Pd.rep (En.int .i64) b_),(Pd.rep (En.int .i64) i5),(Pd.rep (En.int .i64) (b_ + i5)),(Pd.optr En.cls 0 v0.ownBlock ((b_ + i5 : Int).toNat * En.cls.sz) e15),(Pd.rep En.cls e15),(Pd.prow En.cls 51 v0 data4),(Pd.rep (En.int .i64) a_),(Pd.rep (En.int .i64) i5),(Pd.rep (En.int .i64) (a_ + i5)),(Pd.optr En.cls 0 v0.ownBlock ((a_ + i5 : Int).toNat * En.cls.sz) e18),(Pd.rep En.cls e18),(Pd.optr En.cls 0 v0.ownBlock ((a_ + i5 : Int).toNat * En.cls.sz) e20)] [4,5,6,7] hL (by kernel_rfl) (by kernel_rfl) (by kernel_rfl) (.cons (i:=4) rfl rfl rfl rfl (.cons (i:=5) rfl rfl rfl rfl (.cons (i:=6) rfl rfl rfl rfl (.cons (i:=7) rfl rfl rfl rfl .nil)))) rfl rfl ?_ ?_
  ·refine AllF.cons (t_move (o_t 0 rfl) rfl rfl) ?_
   refine AllF.cons (t_move (o_t 1 rfl) rfl rfl) (AllF.cons (t_move (o_t 10 rfl) rfl rfl) ?_)
   refine AllF.cons (t_add (o_t 17 rfl) (o_t 18 rfl) h12 rfl rfl) (AllF.skip rfl ?_)
   refine AllF.skip rfl (AllF.skip rfl ?_)
   refine AllF.skip rfl (AllF.cons (t_move (o_t 0 rfl) rfl rfl) ?_)
   refine AllF.cons (t_move (o_t 2 rfl) rfl rfl) (AllF.cons (t_move (o_t 10 rfl) rfl rfl) ?_)
   refine AllF.cons (t_add (o_t 25 rfl) (o_t 26 rfl) h14 rfl rfl) (AllF.cons (t_idxo (o_p (o_t 24 rfl)) (o_t 27 rfl) h16 Tryz.underlying36 ty51 rfl rfl) ?_)
   refine AllF.cons (t_loado ty51 (o_t 28 rfl) rfl rfl) (AllF.cons (t_move (o_t 0 rfl) rfl rfl) ?_)
   refine AllF.cons (t_move (o_t 1 rfl) rfl rfl) (AllF.cons (t_move (o_t 10 rfl) rfl rfl) ?_)
   refine AllF.cons (t_add (o_t 31 rfl) (o_t 32 rfl) h17 rfl rfl) (AllF.cons (t_idxo (o_p (o_t 30 rfl)) (o_t 33 rfl) h19 Tryz.underlying36 ty51 rfl rfl) ?_)
   refine AllF.cons (t_loado ty51 (o_t 34 rfl) rfl rfl) (AllF.cons (t_idxo (o_p (o_t 16 rfl)) (o_t 19 rfl) h21 Tryz.underlying36 ty51 rfl rfl) ?_)
   exact AllF.nil
  intro a s e_ hL
  refine st_storp (L':=[(0,(Pd.prow En.cls 51 v0 (data4.set (a_ + i5 : Int).toNat e15))),(1,(Pd.rep (En.int .i64) a_)),(2,(Pd.rep (En.int .i64) b_)),(3,(Pd.rep (En.int .i64) nv_)),(10,(Pd.rep (En.int .i64) i5)),(20,(Pd.prow En.cls 51 v0 (data4.set (a_ + i5 : Int).toNat e15))),(23,(Pd.rep (En.int .i64) (b_ + i5))),(35,(Pd.rep En.cls e18))]) (off:=0) 0 (fun b h=>h) hL rfl h21 (o_t 36 rfl) (o_t 29 rfl) (sub_all _ _ _) ty51 rfl rfl rfl (.turn (t:=0) rfl (.cons (t:=1) rfl nE (.cons (t:=2) rfl nE (.cons (t:=3) rfl nE (.cons (t:=10) rfl nE (.turn (t:=20) rfl (.cons (t:=23) rfl nE (.cons (t:=35) rfl nE .nil)))))))) fun s hL=>?_
  refine sx 37 (t_idxo (o_p (o_t 20 rfl)) (o_t 23 rfl) h23 Tryz.underlying36 ty51 rfl rfl) hL fun a s e_ hL=>st_storp (L':=[(0,(Pd.prow En.cls 51 v0 ((data4.set (a_ + i5 : Int).toNat e15).set (b_ + i5 : Int).toNat e18))),(1,(Pd.rep (En.int .i64) a_)),(2,(Pd.rep (En.int .i64) b_)),(3,(Pd.rep (En.int .i64) nv_)),(10,(Pd.rep (En.int .i64) i5))]) (off:=0) 0 (fun b h=>h) hL rfl h23 (o_t 37 rfl) (o_t 35 rfl) (sub_all _ _ _) ty51 rfl rfl rfl (.turn (t:=0) rfl (.cons (t:=1) rfl nE (.cons (t:=2) rfl nE (.cons (t:=3) rfl nE (.cons (t:=10) rfl nE .nil))))) fun s hL=>?_
  refine en' (hK11 _ _ ?_)
  obtain ⟨h24,h⟩:=h
  refine rg (sx 14 (t_move (o_t 10 rfl) rfl rfl) hL fun a s e_ hL=>?_)
  refine sx 15 (t_add (o_t 14 rfl) (o_i (k:=.i64) (by decide)) h24 rfl rfl) hL fun a s e_ hL=>sx 10 (t_assign (o_t 15 rfl) rfl rfl) hL fun a s e_ hL=>en' ?_
  exact hKL8 k7 a s (Nat.lt_succ_self _) ⟨((data4.set (a_ + i5 : Int).toNat e15).set (b_ + i5 : Int).toNat e18),(i5 + 1),hL.keep (.cons (t:=0) rfl (fun _ _ h_=>h_) (.cons (t:=1) rfl nE (.cons (t:=2) rfl nE (.cons (t:=3) rfl nE (.cons (t:=10) rfl nE .nil))))),h⟩
 ·replace h:=h.2 hb_
  refine wp_exit ?_
  exact J3 data4 a s (hL.keep (.cons (t:=0) rfl (fun _ _ h_=>h_) .nil)) h
theorem slices_rotateCmpFunc_api_Class_ok (v0 : Value) {data_ : (List Cl)} {a_ : Int} {m_ : Int} {b_ : Int} {cmp_ : (Cl × Cl × Int → Prop)} {r_ : (List Cl)} (h : slices_rotateCmpFunc_api_Class data_ a_ m_ b_ cmp_ r_) : Fm Tryz.prog 189 (fun b=>v0.ownBlock = some b) [(Pd.prow En.cls 51 v0 data_),(Pd.rep (En.int .i64) a_),(Pd.rep (En.int .i64) m_),(Pd.rep (En.int .i64) b_),(Pd.rep EnF211 cmp_)] (fun _ s' _=>(Pd.prow En.cls 51 v0 r_).p s' v0):=by
 unfold slices_rotateCmpFunc_api_Class at h
 refine fm_of Tryz.func189 rfl Tryz.ntmps189 (by rfl) (by simp) fun s0 a hL=>?_
 refine wp_seq_k fun K1 hK1=>?_
 obtain ⟨h2,h⟩:=h
 refine rg (sx 12 (t_move (o_t 2 rfl) rfl rfl) hL fun a s e_ hL=>?_)
 refine sx 13 (t_move (o_t 1 rfl) rfl rfl) hL fun a s e_ hL=>sx 14 (t_sub (o_t 12 rfl) (o_t 13 rfl) h2 rfl rfl) hL fun a s e_ hL=>sx 10 (t_assign (o_t 14 rfl) rfl rfl) hL fun a s e_ hL=>en' (hK1 _ _ ?_)
 refine wp_seq_k fun K3 hK3=>?_
 obtain ⟨h4,h⟩:=h
 refine rg (sx 15 (t_move (o_t 3 rfl) rfl rfl) hL fun a s e_ hL=>?_)
 refine sx 16 (t_move (o_t 2 rfl) rfl rfl) hL fun a s e_ hL=>sx 17 (t_sub (o_t 15 rfl) (o_t 16 rfl) h4 rfl rfl) hL fun a s e_ hL=>sx 11 (t_assign (o_t 17 rfl) rfl rfl) hL fun a s e_ hL=>en' (hK3 _ _ ?_)
 refine wp_seq_k fun K5 hK5=>wp_block ?_
 have J8 : ∀ (data6 : (List Cl)) (i7 : Int) (a : Act) (s : St),Has (fun b=>v0.ownBlock = some b) 58 s0 a s [(0,(Pd.prow En.cls 51 v0 data6)),(2,(Pd.rep (En.int .i64) m_)),(4,(Pd.rep EnF211 cmp_)),(10,(Pd.rep (En.int .i64) i7))] → ((slices_rotateCmpFunc_api_Class.j1 m_ cmp_ r_) data6 i7) → K5 a s.w:=by
  intro data6 i7 a s hL h
  unfold slices_rotateCmpFunc_api_Class.j1 at h
  show K5 a s.w
  refine hK5 _ _ ?_
  obtain ⟨h9,r10,h11,h⟩:=h
  refine rg (sx 50 (t_move (o_t 0 rfl) rfl rfl) hL fun a s e_ hL=>?_)
  refine sx 51 (t_move (o_t 2 rfl) rfl rfl) hL fun a s e_ hL=>sx 52 (t_move (o_t 10 rfl) rfl rfl) hL fun a s e_ hL=>sx 53 (t_sub (o_t 51 rfl) (o_t 52 rfl) h9 rfl rfl) hL fun a s e_ hL=>sx 54 (t_move (o_t 2 rfl) rfl rfl) hL fun a s e_ hL=>sx 55 (t_move (o_t 10 rfl) rfl rfl) hL fun a s e_ hL=>sx 56 (t_move (o_t 4 rfl) rfl rfl) hL fun a s e_ hL=>st_callm (L':=[(0,(Pd.prow En.cls 51 v0 r10))]) 57 (fun v0=>slices_swapRangeCmpFunc_api_Class_ok v0 h11) hL (fun b h=>h) (o_t 50 rfl) (zs:=[.tmp 53,.tmp 54,.tmp 55,.tmp 56]) (.cons (o_t 53 rfl) (.cons (o_t 54 rfl) (.cons (o_t 55 rfl) (.cons (o_t 56 rfl) .nil)))) rfl rfl rfl rfl (.turn (t:=0) rfl .nil) fun a s hL=>?_
  refine en' ?_
  subst h
  exact retm rfl hL (c:=0) rfl
 obtain ⟨k15,h⟩:=h
 refine lpg (fun k16 a s=>∃ (data12 : (List Cl)) (i13 : Int) (j14 : Int),Has (fun b=>v0.ownBlock = some b) 58 s0 a s [(0,(Pd.prow En.cls 51 v0 data12)),(2,(Pd.rep (En.int .i64) m_)),(4,(Pd.rep EnF211 cmp_)),(10,(Pd.rep (En.int .i64) i13)),(11,(Pd.rep (En.int .i64) j14))] ∧ slices_rotateCmpFunc_api_Class.l1 m_ cmp_ (slices_rotateCmpFunc_api_Class.j1 m_ cmp_ r_) k16 data12 i13 j14) k15 ⟨data_,(m_ - a_),(b_ - m_),hL.keep (.cons (t:=0) rfl (fun _ _ h_=>h_) (.cons (t:=2) rfl nE (.cons (t:=4) rfl nE (.cons (t:=10) rfl nE (.cons (t:=11) rfl nE .nil))))),h⟩ ?_
 rintro k16 a s ⟨data12,i13,j14,hL,h⟩ KL17 hKL17
 cases k16 with
 | zero=>exact h.elim
 | succ k16=>
 unfold slices_rotateCmpFunc_api_Class.l1 at h
 refine wp_seq_k fun K18 hK18=>wp_seq_k fun K19 hK19=>rg (sx 18 (t_move (o_t 10 rfl) rfl rfl) hL fun a s e_ hL=>?_)
 refine sx 19 (t_move (o_t 11 rfl) rfl rfl) hL fun a s e_ hL=>sx 20 (t_nei (o_t 18 rfl) (o_t 19 rfl) rfl rfl) hL fun a s e_ hL=>en' (hK19 _ _ ?_)
 refine cnd hL rfl (fun hb_=>?_) (fun hb_=>?_)
 ·replace h:=h.1 hb_
  refine wp_skip ?_
  show K18 a s.w
  refine hK18 _ _ (wp_block ?_)
  refine wp_seq_k fun K20 hK20=>rg (sx 21 (t_move (o_t 10 rfl) rfl rfl) hL fun a s e_ hL=>?_)
  refine sx 22 (t_move (o_t 11 rfl) rfl rfl) hL fun a s e_ hL=>sx 23 (t_gtr (o_t 21 rfl) (o_t 22 rfl) rfl rfl) hL fun a s e_ hL=>en' (hK20 _ _ ?_)
  refine cnd hL rfl (fun hb_=>?_) (fun hb_=>?_)
  ·replace h:=h.1 hb_
   refine wp_seq_k fun K21 hK21=>?_
   obtain ⟨h22,r23,h24,h⟩:=h
   refine rg (sx 24 (t_move (o_t 0 rfl) rfl rfl) hL fun a s e_ hL=>?_)
   refine sx 25 (t_move (o_t 2 rfl) rfl rfl) hL fun a s e_ hL=>sx 26 (t_move (o_t 10 rfl) rfl rfl) hL fun a s e_ hL=>sx 27 (t_sub (o_t 25 rfl) (o_t 26 rfl) h22 rfl rfl) hL fun a s e_ hL=>sx 28 (t_move (o_t 2 rfl) rfl rfl) hL fun a s e_ hL=>sx 29 (t_move (o_t 11 rfl) rfl rfl) hL fun a s e_ hL=>sx 30 (t_move (o_t 4 rfl) rfl rfl) hL fun a s e_ hL=>st_callm (L':=[(0,(Pd.prow En.cls 51 v0 r23)),(2,(Pd.rep (En.int .i64) m_)),(4,(Pd.rep EnF211 cmp_)),(10,(Pd.rep (En.int .i64) i13)),(11,(Pd.rep (En.int .i64) j14))]) 31 (fun v0=>slices_swapRangeCmpFunc_api_Class_ok v0 h24) hL (fun b h=>h) (o_t 24 rfl) (zs:=[.tmp 27,.tmp 28,.tmp 29,.tmp 30]) (.cons (o_t 27 rfl) (.cons (o_t 28 rfl) (.cons (o_t 29 rfl) (.cons (o_t 30 rfl) .nil)))) rfl rfl rfl rfl (.turn (t:=0) rfl (.cons (t:=2) rfl nE (.cons (t:=4) rfl nE (.cons (t:=10) rfl nE (.cons (t:=11) rfl nE .nil))))) fun a s hL=>?_
   refine en' (hK21 _ _ ?_)
   obtain ⟨h25,h⟩:=h
   refine rg (sx 32 (t_move (o_t 10 rfl) rfl rfl) hL fun a s e_ hL=>?_)
   refine sx 33 (t_move (o_t 11 rfl) rfl rfl) hL fun a s e_ hL=>sx 34 (t_sub (o_t 32 rfl) (o_t 33 rfl) h25 rfl rfl) hL fun a s e_ hL=>sx 10 (t_assign (o_t 34 rfl) rfl rfl) hL fun a s e_ hL=>en' ?_
   exact hKL17 k16 a s (Nat.lt_succ_self _) ⟨r23,(i13 - j14),j14,hL.keep (.cons (t:=0) rfl (fun _ _ h_=>h_) (.cons (t:=2) rfl nE (.cons (t:=4) rfl nE (.cons (t:=10) rfl nE (.cons (t:=11) rfl nE .nil))))),h⟩
  ·replace h:=h.2 hb_
   refine wp_seq_k fun K26 hK26=>?_
   obtain ⟨h27,h28,h29,r30,h31,h⟩:=h
   refine rg (sx 35 (t_move (o_t 0 rfl) rfl rfl) hL fun a s e_ hL=>?_)
   refine sx 36 (t_move (o_t 2 rfl) rfl rfl) hL fun a s e_ hL=>sx 37 (t_move (o_t 10 rfl) rfl rfl) hL fun a s e_ hL=>sx 38 (t_sub (o_t 36 rfl) (o_t 37 rfl) h27 rfl rfl) hL fun a s e_ hL=>sx 39 (t_move (o_t 2 rfl) rfl rfl) hL fun a s e_ hL=>sx 40 (t_move (o_t 11 rfl) rfl rfl) hL fun a s e_ hL=>sx 41 (t_add (o_t 39 rfl) (o_t 40 rfl) h28 rfl rfl) hL fun a s e_ hL=>sx 42 (t_move (o_t 10 rfl) rfl rfl) hL fun a s e_ hL=>sx 43 (t_sub (o_t 41 rfl) (o_t 42 rfl) h29 rfl rfl) hL fun a s e_ hL=>sx 44 (t_move (o_t 10 rfl) rfl rfl) hL fun a s e_ hL=>?_
   refine sx 45 (t_move (o_t 4 rfl) rfl rfl) hL fun a s e_ hL=>st_callm (L':=[(0,(Pd.prow En.cls 51 v0 r30)),(2,(Pd.rep (En.int .i64) m_)),(4,(Pd.rep EnF211 cmp_)),(10,(Pd.rep (En.int .i64) i13)),(11,(Pd.rep (En.int .i64) j14))]) 46 (fun v0=>slices_swapRangeCmpFunc_api_Class_ok v0 h31) hL (fun b h=>h) (o_t 35 rfl) (zs:=[.tmp 38,.tmp 43,.tmp 44,.tmp 45]) (.cons (o_t 38 rfl) (.cons (o_t 43 rfl) (.cons (o_t 44 rfl) (.cons (o_t 45 rfl) .nil)))) rfl rfl rfl rfl (.turn (t:=0) rfl (.cons (t:=2) rfl nE (.cons (t:=4) rfl nE (.cons (t:=10) rfl nE (.cons (t:=11) rfl nE .nil))))) fun a s hL=>?_
   refine en' (hK26 _ _ ?_)
   obtain ⟨h32,h⟩:=h
   refine rg (sx 47 (t_move (o_t 11 rfl) rfl rfl) hL fun a s e_ hL=>?_)
   refine sx 48 (t_move (o_t 10 rfl) rfl rfl) hL fun a s e_ hL=>sx 49 (t_sub (o_t 47 rfl) (o_t 48 rfl) h32 rfl rfl) hL fun a s e_ hL=>sx 11 (t_assign (o_t 49 rfl) rfl rfl) hL fun a s e_ hL=>en' ?_
   exact hKL17 k16 a s (Nat.lt_succ_self _) ⟨r30,i13,(j14 - i13),hL.keep (.cons (t:=0) rfl (fun _ _ h_=>h_) (.cons (t:=2) rfl nE (.cons (t:=4) rfl nE (.cons (t:=10) rfl nE (.cons (t:=11) rfl nE .nil))))),h⟩
 ·replace h:=h.2 hb_
  refine wp_exit ?_
  exact J8 data12 i13 a s (hL.keep (.cons (t:=0) rfl (fun _ _ h_=>h_) (.cons (t:=2) rfl nE (.cons (t:=4) rfl nE (.cons (t:=10) rfl nE .nil))))) h
theorem slices_symMergeCmpFunc_api_Class.n_ok (k_ : Nat) : ∀ (v0 : Value) {data_ : (List Cl)} {a_ : Int} {m_ : Int} {b_ : Int} {cmp_ : (Cl × Cl × Int → Prop)} {r_ : (List Cl)} (h : slices_symMergeCmpFunc_api_Class.n k_ data_ a_ m_ b_ cmp_ r_),Fm Tryz.prog 186 (fun b=>v0.ownBlock = some b) [(Pd.prow En.cls 51 v0 data_),(Pd.rep (En.int .i64) a_),(Pd.rep (En.int .i64) m_),(Pd.rep (En.int .i64) b_),(Pd.rep EnF211 cmp_)] (fun _ s' _=>(Pd.prow En.cls 51 v0 r_).p s' v0):=by
 induction k_ with
 | zero=>intro v0 data_ a_ m_ b_ cmp_ r_ h; exact h.elim
 | succ k_ ih_=>
 intro v0 data_ a_ m_ b_ cmp_ r_ h
 unfold slices_symMergeCmpFunc_api_Class.n at h
 refine fm_of Tryz.func186 rfl Tryz.ntmps186 (by rfl) (by simp) fun s0 a hL=>?_
 refine wp_seq_k fun K1 hK1=>wp_seq_k fun K2 hK2=>?_
 obtain ⟨h3,h⟩:=h
 refine rg (sx 25 (t_move (o_t 2 rfl) rfl rfl) hL fun a s e_ hL=>?_)
 refine sx 26 (t_move (o_t 1 rfl) rfl rfl) hL fun a s e_ hL=>sx 27 (t_sub (o_t 25 rfl) (o_t 26 rfl) h3 rfl rfl) hL fun a s e_ hL=>sx 28 (t_eqi (o_t 27 rfl) (o_i (k:=.i64) (by decide)) rfl rfl) hL fun a s e_ hL=>en' (hK2 _ _ ?_)
 refine cnd hL rfl (fun hb_=>?_) (fun hb_=>?_)
 ·replace h:=h.1 hb_
  refine wp_seq_k fun K4 hK4=>rg (sx 29 (t_move (o_t 2 rfl) rfl rfl) hL fun a s e_ hL=>?_)
  refine sx 10 (t_assign (o_t 29 rfl) rfl rfl) hL fun a s e_ hL=>en' (hK4 _ _ ?_)
  refine wp_seq_k fun K5 hK5=>rg (sx 30 (t_move (o_t 3 rfl) rfl rfl) hL fun a s e_ hL=>?_)
  refine sx 11 (t_assign (o_t 30 rfl) rfl rfl) hL fun a s e_ hL=>en' (hK5 _ _ ?_)
  refine wp_seq_k fun K6 hK6=>wp_block ?_
  have J8 : ∀ (i7 : Int) (a : Act) (s : St),Has (fun b=>v0.ownBlock = some b) 220 s0 a s [(0,(Pd.prow En.cls 51 v0 data_)),(1,(Pd.rep (En.int .i64) a_)),(10,(Pd.rep (En.int .i64) i7))] → ((slices_symMergeCmpFunc_api_Class.j2 data_ a_ r_) i7) → K6 a s.w:=by
   intro i7 a s hL h
   unfold slices_symMergeCmpFunc_api_Class.j2 at h
   show K6 a s.w
   refine hK6 _ _ (wp_seq_k fun K9 hK9=>?_)
   refine wp_seq_k fun K10 hK10=>rg (sx 54 (t_move (o_t 1 rfl) rfl rfl) hL fun a s e_ hL=>?_)
   refine sx 13 (t_assign (o_t 54 rfl) rfl rfl) hL fun a s e_ hL=>en' (hK10 _ _ ?_)
   refine wp_block ?_
   have J12 : ∀ (data11 : (List Cl)) (a : Act) (s : St),Has (fun b=>v0.ownBlock = some b) 220 s0 a s [(0,(Pd.prow En.cls 51 v0 data11))] → ((slices_symMergeCmpFunc_api_Class.j1 r_) data11) → K9 a s.w:=by
    intro data11 a s hL h
    unfold slices_symMergeCmpFunc_api_Class.j1 at h
    show K9 a s.w
    refine hK9 _ _ ?_
    subst h
    exact wp_ret (retm rfl hL (c:=0) rfl)
   obtain ⟨k15,h⟩:=h
   refine lpg (fun k16 a s=>∃ (data13 : (List Cl)) (k14 : Int),Has (fun b=>v0.ownBlock = some b) 220 s0 a s [(0,(Pd.prow En.cls 51 v0 data13)),(10,(Pd.rep (En.int .i64) i7)),(13,(Pd.rep (En.int .i64) k14))] ∧ slices_symMergeCmpFunc_api_Class.l1 i7 (slices_symMergeCmpFunc_api_Class.j1 r_) k16 data13 k14) k15 ⟨data_,a_,hL.keep (.cons (t:=0) rfl (fun _ _ h_=>h_) (.cons (t:=10) rfl nE (.cons (t:=13) rfl nE .nil))),h⟩ ?_
   rintro k16 a s ⟨data13,k14,hL,h⟩ KL17 hKL17
   cases k16 with
   | zero=>exact h.elim
   | succ k16=>
   unfold slices_symMergeCmpFunc_api_Class.l1 at h
   refine wp_seq_k fun K18 hK18=>wp_seq_k fun K19 hK19=>?_
   obtain ⟨h20,h⟩:=h
   refine rg (sx 55 (t_move (o_t 13 rfl) rfl rfl) hL fun a s e_ hL=>?_)
   refine sx 56 (t_move (o_t 10 rfl) rfl rfl) hL fun a s e_ hL=>sx 57 (t_sub (o_t 56 rfl) (o_i (k:=.i64) (by decide)) h20 rfl rfl) hL fun a s e_ hL=>sx 58 (t_lss (o_t 55 rfl) (o_t 57 rfl) rfl rfl) hL fun a s e_ hL=>en' (hK19 _ _ ?_)
   refine cnd hL rfl (fun hb_=>?_) (fun hb_=>?_)
   ·replace h:=h.1 hb_
    refine wp_skip ?_
    show K18 a s.w
    refine hK18 _ _ (wp_seq_k fun K21 hK21=>?_)
    refine wp_block ?_
    obtain ⟨h22,h23,e24,h25,e26,h27,e28,h29,e30,h31,h⟩:=h
    refine rdf 18 follows hL (by kernel_rfl) fun s e_ hL=>?_
    refine fl_take 2 63 hL (by rfl) (by kernel_rfl) (by kernel_rfl) (by kernel_rfl) (fun _ _ _ _ h=>h) (q:=(Pd.prow En.cls 51 v0 data13)) (y_move (o_t 0 rfl) rfl rfl) rfl rfl fun a hL=>?_
    refine fl_take 3 64 hL (by rfl) (by kernel_rfl) (by kernel_rfl) (by kernel_rfl) (fun _ _ _ _ h=>h) (q:=(Pd.rep (En.int .i64) k14)) (y_move (o_t 13 rfl) rfl rfl) rfl rfl fun a hL=>?_
    refine fl_take 4 65 hL (by rfl) (by kernel_rfl) (by kernel_rfl) (by kernel_rfl) (fun _ _ _ _ h=>h) (q:=(Pd.rep (En.int .i64) (k14 + 1))) (y_add (o_t 64 rfl) (o_i (k:=.i64) (by decide)) h22 rfl rfl) rfl rfl fun a hL=>?_
    refine fl_go 15 [(Pd.prow En.cls 51 v0 data13),(Pd.rep (En.int .i64) k14),(Pd.prow En.cls 51 v0 data13),(Pd.rep (En.int .i64) k14),(Pd.rep (En.int .i64) (k14 + 1)),(Pd.prow En.cls 51 v0 data13),(Pd.rep (En.int .i64) k14),(Pd.rep (En.int .i64) (k14 + 1)),(Pd.optr En.cls 0 v0.ownBlock ((k14 + 1 : Int).toNat * En.cls.sz) e24),(Pd.rep En.cls e24),(Pd.prow En.cls 51 v0 data13),(Pd.rep (En.int .i64) k14),(Pd.optr En.cls 0 v0.ownBlock ((k14 : Int).toNat * En.cls.sz) e26),(Pd.rep En.cls e26),(Pd.optr En.cls 0 v0.ownBlock ((k14 : Int).toNat * En.cls.sz) e28)] [2,3,4] hL (by kernel_rfl) (by kernel_rfl) (by kernel_rfl) (.cons (i:=2) rfl rfl rfl rfl (.cons (i:=3) rfl rfl rfl rfl (.cons (i:=4) rfl rfl rfl rfl .nil))) rfl rfl ?_ ?_
    ·refine AllF.cons (t_move (o_t 0 rfl) rfl rfl) ?_
     refine AllF.cons (t_move (o_t 13 rfl) rfl rfl) (AllF.skip rfl ?_)
     refine AllF.skip rfl (AllF.skip rfl ?_)
     refine AllF.cons (t_move (o_t 0 rfl) rfl rfl) (AllF.cons (t_move (o_t 13 rfl) rfl rfl) ?_)
     refine AllF.cons (t_add (o_t 67 rfl) (o_i (k:=.i64) (by decide)) h23 rfl rfl) (AllF.cons (t_idxo (o_p (o_t 66 rfl)) (o_t 68 rfl) h25 Tryz.underlying36 ty51 rfl rfl) ?_)
     refine AllF.cons (t_loado ty51 (o_t 69 rfl) rfl rfl) (AllF.cons (t_move (o_t 0 rfl) rfl rfl) ?_)
     refine AllF.cons (t_move (o_t 13 rfl) rfl rfl) (AllF.cons (t_idxo (o_p (o_t 71 rfl)) (o_t 72 rfl) h27 Tryz.underlying36 ty51 rfl rfl) ?_)
     refine AllF.cons (t_loado ty51 (o_t 73 rfl) rfl rfl) (AllF.cons (t_idxo (o_p (o_t 61 rfl)) (o_t 62 rfl) h29 Tryz.underlying36 ty51 rfl rfl) ?_)
     exact AllF.nil
    intro a s e_ hL
    refine st_storp (L':=[(0,(Pd.prow En.cls 51 v0 (data13.set (k14 : Int).toNat e24))),(10,(Pd.rep (En.int .i64) i7)),(13,(Pd.rep (En.int .i64) k14)),(63,(Pd.prow En.cls 51 v0 (data13.set (k14 : Int).toNat e24))),(65,(Pd.rep (En.int .i64) (k14 + 1))),(74,(Pd.rep En.cls e26))]) (off:=0) 0 (fun b h=>h) hL rfl h29 (o_t 75 rfl) (o_t 70 rfl) (sub_all _ _ _) ty51 rfl rfl rfl (.turn (t:=0) rfl (.cons (t:=10) rfl nE (.cons (t:=13) rfl nE (.turn (t:=63) rfl (.cons (t:=65) rfl nE (.cons (t:=74) rfl nE .nil)))))) fun s hL=>?_
    refine sx 76 (t_idxo (o_p (o_t 63 rfl)) (o_t 65 rfl) h31 Tryz.underlying36 ty51 rfl rfl) hL fun a s e_ hL=>st_storp (L':=[(0,(Pd.prow En.cls 51 v0 ((data13.set (k14 : Int).toNat e24).set (k14 + 1 : Int).toNat e26))),(10,(Pd.rep (En.int .i64) i7)),(13,(Pd.rep (En.int .i64) k14))]) (off:=0) 0 (fun b h=>h) hL rfl h31 (o_t 76 rfl) (o_t 74 rfl) (sub_all _ _ _) ty51 rfl rfl rfl (.turn (t:=0) rfl (.cons (t:=10) rfl nE (.cons (t:=13) rfl nE .nil))) fun s hL=>?_
    refine en' (hK21 _ _ ?_)
    obtain ⟨h32,h⟩:=h
    refine rg (sx 59 (t_move (o_t 13 rfl) rfl rfl) hL fun a s e_ hL=>?_)
    refine sx 60 (t_add (o_t 59 rfl) (o_i (k:=.i64) (by decide)) h32 rfl rfl) hL fun a s e_ hL=>sx 13 (t_assign (o_t 60 rfl) rfl rfl) hL fun a s e_ hL=>en' ?_
    exact hKL17 k16 a s (Nat.lt_succ_self _) ⟨((data13.set (k14 : Int).toNat e24).set (k14 + 1 : Int).toNat e26),(k14 + 1),hL.keep (.cons (t:=0) rfl (fun _ _ h_=>h_) (.cons (t:=10) rfl nE (.cons (t:=13) rfl nE .nil))),h⟩
   ·replace h:=h.2 hb_
    refine wp_exit ?_
    exact J12 data13 a s (hL.keep (.cons (t:=0) rfl (fun _ _ h_=>h_) .nil)) h
  obtain ⟨k35,h⟩:=h
  refine lpg (fun k36 a s=>∃ (i33 : Int) (j34 : Int),Has (fun b=>v0.ownBlock = some b) 220 s0 a s [(0,(Pd.prow En.cls 51 v0 data_)),(1,(Pd.rep (En.int .i64) a_)),(4,(Pd.rep EnF211 cmp_)),(10,(Pd.rep (En.int .i64) i33)),(11,(Pd.rep (En.int .i64) j34))] ∧ slices_symMergeCmpFunc_api_Class.l2 data_ a_ cmp_ (slices_symMergeCmpFunc_api_Class.j2 data_ a_ r_) k36 i33 j34) k35 ⟨m_,b_,hL.keep (.cons (t:=0) rfl (fun _ _ h_=>h_) (.cons (t:=1) rfl nE (.cons (t:=4) rfl nE (.cons (t:=10) rfl nE (.cons (t:=11) rfl nE .nil))))),h⟩ ?_
  rintro k36 a s ⟨i33,j34,hL,h⟩ KL37 hKL37
  cases k36 with
  | zero=>exact h.elim
  | succ k36=>
  unfold slices_symMergeCmpFunc_api_Class.l2 at h
  refine wp_seq_k fun K38 hK38=>wp_seq_k fun K39 hK39=>rg (sx 31 (t_move (o_t 10 rfl) rfl rfl) hL fun a s e_ hL=>?_)
  refine sx 32 (t_move (o_t 11 rfl) rfl rfl) hL fun a s e_ hL=>sx 33 (t_lss (o_t 31 rfl) (o_t 32 rfl) rfl rfl) hL fun a s e_ hL=>en' (hK39 _ _ ?_)
  refine cnd hL rfl (fun hb_=>?_) (fun hb_=>?_)
  ·replace h:=h.1 hb_
   refine wp_skip ?_
   show K38 a s.w
   refine hK38 _ _ (wp_block ?_)
   refine wp_seq_k fun K40 hK40=>?_
   obtain ⟨h41,i42,h43,h⟩:=h
   refine rg (sx 34 (t_move (o_t 10 rfl) rfl rfl) hL fun a s e_ hL=>?_)
   refine sx 35 (t_move (o_t 11 rfl) rfl rfl) hL fun a s e_ hL=>sx 36 (t_add (o_t 34 rfl) (o_t 35 rfl) h41 rfl rfl) hL fun a s e_ hL=>sx 37 (t_cvt (o_t 36 rfl) Tryz.underlying3 Tryz.underlying133 rfl rfl) hL fun a s e_ hL=>sx 38 (t_shr (o_t 37 rfl) (o_i (k:=.u64) (by decide)) (by decide) rfl rfl) hL fun a s e_ hL=>sx 39 (h43 ▸ (t_cvt (o_t 38 rfl) Tryz.underlying133 Tryz.underlying3 rfl rfl)) hL fun a s e_ hL=>sx 12 (t_assign (o_t 39 rfl) rfl rfl) hL fun a s e_ hL=>en' (hK40 _ _ ?_)
   refine wp_seq_k fun K44 hK44=>?_
   obtain ⟨e45,h46,e47,h48,r49,h50,h⟩:=h
   refine rda follows 11 [(Pd.rep EnF211 cmp_),(Pd.prow En.cls 51 v0 data_),(Pd.rep (En.int .i64) i42),(Pd.optr En.cls 0 v0.ownBlock ((i42 : Int).toNat * En.cls.sz) e45),(Pd.rep En.cls e45),(Pd.prow En.cls 51 v0 data_),(Pd.rep (En.int .i64) a_),(Pd.optr En.cls 0 v0.ownBlock ((a_ : Int).toNat * En.cls.sz) e47),(Pd.rep En.cls e47),(Pd.rep (En.int .i64) r49),(Pd.rep En.bool (decide (r49 < 0)))] hL (by kernel_rfl) rfl rfl ?_ ?_
   ·refine AllT.cons (t_move (o_t 4 rfl) rfl rfl) ?_
    refine AllT.cons (t_move (o_t 0 rfl) rfl rfl) (AllT.cons (t_move (o_t 12 rfl) rfl rfl) ?_)
    refine AllT.cons (t_idxo (o_p (o_t 41 rfl)) (o_t 42 rfl) h46 Tryz.underlying36 ty51 rfl rfl) (AllT.cons (t_loado ty51 (o_t 43 rfl) rfl rfl) ?_)
    refine AllT.cons (t_move (o_t 0 rfl) rfl rfl) (AllT.cons (t_move (o_t 1 rfl) rfl rfl) ?_)
    refine AllT.cons (t_idxo (o_p (o_t 45 rfl)) (o_t 46 rfl) h48 Tryz.underlying36 ty51 rfl rfl) (AllT.cons (t_loado ty51 (o_t 47 rfl) rfl rfl) ?_)
    refine AllT.cons (t_callf (q:=(e45,e47,r49)) (o_t 40 rfl) h50 (xs:=[.tmp 44,.tmp 48]) (.cons (o_t 44 rfl) (.cons (o_t 48 rfl) .nil)) (fun _ _ _ h_=>h_) rfl rfl) (AllT.cons (t_lss (o_t 49 rfl) (o_i (k:=.i64) (by decide)) rfl rfl) ?_)
    exact AllT.nil
   intro a s e_ hL
   refine en' (hK44 _ _ ?_)
   refine cnd hL rfl (fun hb_=>?_) (fun hb_=>?_)
   ·replace h:=h.1 hb_
    obtain ⟨h51,h⟩:=h
    refine rg (sx 51 (t_move (o_t 12 rfl) rfl rfl) hL fun a s e_ hL=>?_)
    refine sx 52 (t_add (o_t 51 rfl) (o_i (k:=.i64) (by decide)) h51 rfl rfl) hL fun a s e_ hL=>sx 10 (t_assign (o_t 52 rfl) rfl rfl) hL fun a s e_ hL=>en' ?_
    exact hKL37 k36 a s (Nat.lt_succ_self _) ⟨(i42 + 1),j34,hL.keep (.cons (t:=0) rfl (fun _ _ h_=>h_) (.cons (t:=1) rfl nE (.cons (t:=4) rfl nE (.cons (t:=10) rfl nE (.cons (t:=11) rfl nE .nil))))),h⟩
   ·replace h:=h.2 hb_
    refine rg (sx 53 (t_move (o_t 12 rfl) rfl rfl) hL fun a s e_ hL=>?_)
    refine sx 11 (t_assign (o_t 53 rfl) rfl rfl) hL fun a s e_ hL=>en' ?_
    exact hKL37 k36 a s (Nat.lt_succ_self _) ⟨i33,i42,hL.keep (.cons (t:=0) rfl (fun _ _ h_=>h_) (.cons (t:=1) rfl nE (.cons (t:=4) rfl nE (.cons (t:=10) rfl nE (.cons (t:=11) rfl nE .nil))))),h⟩
  ·replace h:=h.2 hb_
   refine wp_exit ?_
   exact J8 i33 a s (hL.keep (.cons (t:=0) rfl (fun _ _ h_=>h_) (.cons (t:=1) rfl nE (.cons (t:=10) rfl nE .nil)))) h
 ·replace h:=h.2 hb_
  refine wp_skip ?_
  show K1 a s.w
  refine hK1 _ _ (wp_seq_k fun K52 hK52=>?_)
  refine wp_seq_k fun K53 hK53=>?_
  obtain ⟨h54,h⟩:=h
  refine rg (sx 77 (t_move (o_t 3 rfl) rfl rfl) hL fun a s e_ hL=>?_)
  refine sx 78 (t_move (o_t 2 rfl) rfl rfl) hL fun a s e_ hL=>sx 79 (t_sub (o_t 77 rfl) (o_t 78 rfl) h54 rfl rfl) hL fun a s e_ hL=>sx 80 (t_eqi (o_t 79 rfl) (o_i (k:=.i64) (by decide)) rfl rfl) hL fun a s e_ hL=>en' (hK53 _ _ ?_)
  refine cnd hL rfl (fun hb_=>?_) (fun hb_=>?_)
  ·replace h:=h.1 hb_
   refine wp_seq_k fun K55 hK55=>rg (sx 81 (t_move (o_t 1 rfl) rfl rfl) hL fun a s e_ hL=>?_)
   refine sx 14 (t_assign (o_t 81 rfl) rfl rfl) hL fun a s e_ hL=>en' (hK55 _ _ ?_)
   refine wp_seq_k fun K56 hK56=>rg (sx 82 (t_move (o_t 2 rfl) rfl rfl) hL fun a s e_ hL=>?_)
   refine sx 15 (t_assign (o_t 82 rfl) rfl rfl) hL fun a s e_ hL=>en' (hK56 _ _ ?_)
   refine wp_seq_k fun K57 hK57=>wp_block ?_
   have J59 : ∀ (i58 : Int) (a : Act) (s : St),Has (fun b=>v0.ownBlock = some b) 220 s0 a s [(0,(Pd.prow En.cls 51 v0 data_)),(2,(Pd.rep (En.int .i64) m_)),(14,(Pd.rep (En.int .i64) i58))] → ((slices_symMergeCmpFunc_api_Class.j4 data_ m_ r_) i58) → K57 a s.w:=by
    intro i58 a s hL h
    unfold slices_symMergeCmpFunc_api_Class.j4 at h
    show K57 a s.w
    refine hK57 _ _ (wp_seq_k fun K60 hK60=>?_)
    refine wp_seq_k fun K61 hK61=>rg (sx 107 (t_move (o_t 2 rfl) rfl rfl) hL fun a s e_ hL=>?_)
    refine sx 17 (t_assign (o_t 107 rfl) rfl rfl) hL fun a s e_ hL=>en' (hK61 _ _ ?_)
    refine wp_block ?_
    have J63 : ∀ (data62 : (List Cl)) (a : Act) (s : St),Has (fun b=>v0.ownBlock = some b) 220 s0 a s [(0,(Pd.prow En.cls 51 v0 data62))] → ((slices_symMergeCmpFunc_api_Class.j3 r_) data62) → K60 a s.w:=by
     intro data62 a s hL h
     unfold slices_symMergeCmpFunc_api_Class.j3 at h
     show K60 a s.w
     refine hK60 _ _ ?_
     subst h
     exact wp_ret (retm rfl hL (c:=0) rfl)
    obtain ⟨k66,h⟩:=h
    refine lpg (fun k67 a s=>∃ (data64 : (List Cl)) (k65 : Int),Has (fun b=>v0.ownBlock = some b) 220 s0 a s [(0,(Pd.prow En.cls 51 v0 data64)),(14,(Pd.rep (En.int .i64) i58)),(17,(Pd.rep (En.int .i64) k65))] ∧ slices_symMergeCmpFunc_api_Class.l3 i58 (slices_symMergeCmpFunc_api_Class.j3 r_) k67 data64 k65) k66 ⟨data_,m_,hL.keep (.cons (t:=0) rfl (fun _ _ h_=>h_) (.cons (t:=14) rfl nE (.cons (t:=17) rfl nE .nil))),h⟩ ?_
    rintro k67 a s ⟨data64,k65,hL,h⟩ KL68 hKL68
    cases k67 with
    | zero=>exact h.elim
    | succ k67=>
    unfold slices_symMergeCmpFunc_api_Class.l3 at h
    refine wp_seq_k fun K69 hK69=>wp_seq_k fun K70 hK70=>rg (sx 108 (t_move (o_t 17 rfl) rfl rfl) hL fun a s e_ hL=>?_)
    refine sx 109 (t_move (o_t 14 rfl) rfl rfl) hL fun a s e_ hL=>sx 110 (t_gtr (o_t 108 rfl) (o_t 109 rfl) rfl rfl) hL fun a s e_ hL=>en' (hK70 _ _ ?_)
    refine cnd hL rfl (fun hb_=>?_) (fun hb_=>?_)
    ·replace h:=h.1 hb_
     refine wp_skip ?_
     show K69 a s.w
     refine hK69 _ _ (wp_seq_k fun K71 hK71=>?_)
     refine wp_block ?_
     obtain ⟨h72,h73,e74,h75,e76,h77,e78,h79,e80,h81,h⟩:=h
     refine rdf 18 follows hL (by kernel_rfl) fun s e_ hL=>?_
     refine fl_take 2 115 hL (by rfl) (by kernel_rfl) (by kernel_rfl) (by kernel_rfl) (fun _ _ _ _ h=>h) (q:=(Pd.prow En.cls 51 v0 data64)) (y_move (o_t 0 rfl) rfl rfl) rfl rfl fun a hL=>?_
     refine fl_take 3 116 hL (by rfl) (by kernel_rfl) (by kernel_rfl) (by kernel_rfl) (fun _ _ _ _ h=>h) (q:=(Pd.rep (En.int .i64) k65)) (y_move (o_t 17 rfl) rfl rfl) rfl rfl fun a hL=>?_
     refine fl_take 4 117 hL (by rfl) (by kernel_rfl) (by kernel_rfl) (by kernel_rfl) (fun _ _ _ _ h=>h) (q:=(Pd.rep (En.int .i64) (k65 - 1))) (y_sub (o_t 116 rfl) (o_i (k:=.i64) (by decide)) h72 rfl rfl) rfl rfl fun a hL=>?_
     refine fl_go 15 [(Pd.prow En.cls 51 v0 data64),(Pd.rep (En.int .i64) k65),(Pd.prow En.cls 51 v0 data64),(Pd.rep (En.int .i64) k65),(Pd.rep (En.int .i64) (k65 - 1)),(Pd.prow En.cls 51 v0 data64),(Pd.rep (En.int .i64) k65),(Pd.rep (En.int .i64) (k65 - 1)),(Pd.optr En.cls 0 v0.ownBlock ((k65 - 1 : Int).toNat * En.cls.sz) e74),(Pd.rep En.cls e74),(Pd.prow En.cls 51 v0 data64),(Pd.rep (En.int .i64) k65),(Pd.optr En.cls 0 v0.ownBlock ((k65 : Int).toNat * En.cls.sz) e76),(Pd.rep En.cls e76),(Pd.optr En.cls 0 v0.ownBlock ((k65 : Int).toNat * En.cls.sz) e78)] [2,3,4] hL (by kernel_rfl) (by kernel_rfl) (by kernel_rfl) (.cons (i:=2) rfl rfl rfl rfl (.cons (i:=3) rfl rfl rfl rfl (.cons (i:=4) rfl rfl rfl rfl .nil))) rfl rfl ?_ ?_
     ·refine AllF.cons (t_move (o_t 0 rfl) rfl rfl) ?_
      refine AllF.cons (t_move (o_t 17 rfl) rfl rfl) (AllF.skip rfl ?_)
      refine AllF.skip rfl (AllF.skip rfl ?_)
      refine AllF.cons (t_move (o_t 0 rfl) rfl rfl) (AllF.cons (t_move (o_t 17 rfl) rfl rfl) ?_)
      refine AllF.cons (t_sub (o_t 119 rfl) (o_i (k:=.i64) (by decide)) h73 rfl rfl) (AllF.cons (t_idxo (o_p (o_t 118 rfl)) (o_t 120 rfl) h75 Tryz.underlying36 ty51 rfl rfl) ?_)
      refine AllF.cons (t_loado ty51 (o_t 121 rfl) rfl rfl) (AllF.cons (t_move (o_t 0 rfl) rfl rfl) ?_)
      refine AllF.cons (t_move (o_t 17 rfl) rfl rfl) (AllF.cons (t_idxo (o_p (o_t 123 rfl)) (o_t 124 rfl) h77 Tryz.underlying36 ty51 rfl rfl) ?_)
      refine AllF.cons (t_loado ty51 (o_t 125 rfl) rfl rfl) (AllF.cons (t_idxo (o_p (o_t 113 rfl)) (o_t 114 rfl) h79 Tryz.underlying36 ty51 rfl rfl) ?_)
      exact AllF.nil
     intro a s e_ hL
     refine st_storp (L':=[(0,(Pd.prow En.cls 51 v0 (data64.set (k65 : Int).toNat e74))),(14,(Pd.rep (En.int .i64) i58)),(17,(Pd.rep (En.int .i64) k65)),(115,(Pd.prow En.cls 51 v0 (data64.set (k65 : Int).toNat e74))),(117,(Pd.rep (En.int .i64) (k65 - 1))),(126,(Pd.rep En.cls e76))]) (off:=0) 0 (fun b h=>h) hL rfl h79 (o_t 127 rfl) (o_t 122 rfl) (sub_all _ _ _) ty51 rfl rfl rfl (.turn (t:=0) rfl (.cons (t:=14) rfl nE (.cons (t:=17) rfl nE (.turn (t:=115) rfl (.cons (t:=117) rfl nE (.cons (t:=126) rfl nE .nil)))))) fun s hL=>?_
     refine sx 128 (t_idxo (o_p (o_t 115 rfl)) (o_t 117 rfl) h81 Tryz.underlying36 ty51 rfl rfl) hL fun a s e_ hL=>st_storp (L':=[(0,(Pd.prow En.cls 51 v0 ((data64.set (k65 : Int).toNat e74).set (k65 - 1 : Int).toNat e76))),(14,(Pd.rep (En.int .i64) i58)),(17,(Pd.rep (En.int .i64) k65))]) (off:=0) 0 (fun b h=>h) hL rfl h81 (o_t 128 rfl) (o_t 126 rfl) (sub_all _ _ _) ty51 rfl rfl rfl (.turn (t:=0) rfl (.cons (t:=14) rfl nE (.cons (t:=17) rfl nE .nil))) fun s hL=>?_
     refine en' (hK71 _ _ ?_)
     obtain ⟨h82,h⟩:=h
     refine rg (sx 111 (t_move (o_t 17 rfl) rfl rfl) hL fun a s e_ hL=>?_)
     refine sx 112 (t_sub (o_t 111 rfl) (o_i (k:=.i64) (by decide)) h82 rfl rfl) hL fun a s e_ hL=>sx 17 (t_assign (o_t 112 rfl) rfl rfl) hL fun a s e_ hL=>en' ?_
     exact hKL68 k67 a s (Nat.lt_succ_self _) ⟨((data64.set (k65 : Int).toNat e74).set (k65 - 1 : Int).toNat e76),(k65 - 1),hL.keep (.cons (t:=0) rfl (fun _ _ h_=>h_) (.cons (t:=14) rfl nE (.cons (t:=17) rfl nE .nil))),h⟩
    ·replace h:=h.2 hb_
     refine wp_exit ?_
     exact J63 data64 a s (hL.keep (.cons (t:=0) rfl (fun _ _ h_=>h_) .nil)) h
   obtain ⟨k85,h⟩:=h
   refine lpg (fun k86 a s=>∃ (i83 : Int) (j84 : Int),Has (fun b=>v0.ownBlock = some b) 220 s0 a s [(0,(Pd.prow En.cls 51 v0 data_)),(2,(Pd.rep (En.int .i64) m_)),(4,(Pd.rep EnF211 cmp_)),(14,(Pd.rep (En.int .i64) i83)),(15,(Pd.rep (En.int .i64) j84))] ∧ slices_symMergeCmpFunc_api_Class.l4 data_ m_ cmp_ (slices_symMergeCmpFunc_api_Class.j4 data_ m_ r_) k86 i83 j84) k85 ⟨a_,m_,hL.keep (.cons (t:=0) rfl (fun _ _ h_=>h_) (.cons (t:=2) rfl nE (.cons (t:=4) rfl nE (.cons (t:=14) rfl nE (.cons (t:=15) rfl nE .nil))))),h⟩ ?_
   rintro k86 a s ⟨i83,j84,hL,h⟩ KL87 hKL87
   cases k86 with
   | zero=>exact h.elim
   | succ k86=>
   unfold slices_symMergeCmpFunc_api_Class.l4 at h
   refine wp_seq_k fun K88 hK88=>wp_seq_k fun K89 hK89=>rg (sx 83 (t_move (o_t 14 rfl) rfl rfl) hL fun a s e_ hL=>?_)
   refine sx 84 (t_move (o_t 15 rfl) rfl rfl) hL fun a s e_ hL=>sx 85 (t_lss (o_t 83 rfl) (o_t 84 rfl) rfl rfl) hL fun a s e_ hL=>en' (hK89 _ _ ?_)
   refine cnd hL rfl (fun hb_=>?_) (fun hb_=>?_)
   ·replace h:=h.1 hb_
    refine wp_skip ?_
    show K88 a s.w
    refine hK88 _ _ (wp_block ?_)
    refine wp_seq_k fun K90 hK90=>?_
    obtain ⟨h91,i92,h93,h⟩:=h
    refine rg (sx 86 (t_move (o_t 14 rfl) rfl rfl) hL fun a s e_ hL=>?_)
    refine sx 87 (t_move (o_t 15 rfl) rfl rfl) hL fun a s e_ hL=>sx 88 (t_add (o_t 86 rfl) (o_t 87 rfl) h91 rfl rfl) hL fun a s e_ hL=>sx 89 (t_cvt (o_t 88 rfl) Tryz.underlying3 Tryz.underlying133 rfl rfl) hL fun a s e_ hL=>sx 90 (t_shr (o_t 89 rfl) (o_i (k:=.u64) (by decide)) (by decide) rfl rfl) hL fun a s e_ hL=>sx 91 (h93 ▸ (t_cvt (o_t 90 rfl) Tryz.underlying133 Tryz.underlying3 rfl rfl)) hL fun a s e_ hL=>sx 16 (t_assign (o_t 91 rfl) rfl rfl) hL fun a s e_ hL=>en' (hK90 _ _ ?_)
    refine wp_seq_k fun K94 hK94=>?_
    obtain ⟨e95,h96,e97,h98,r99,h100,h⟩:=h
    refine rda follows 12 [(Pd.rep EnF211 cmp_),(Pd.prow En.cls 51 v0 data_),(Pd.rep (En.int .i64) m_),(Pd.optr En.cls 0 v0.ownBlock ((m_ : Int).toNat * En.cls.sz) e95),(Pd.rep En.cls e95),(Pd.prow En.cls 51 v0 data_),(Pd.rep (En.int .i64) i92),(Pd.optr En.cls 0 v0.ownBlock ((i92 : Int).toNat * En.cls.sz) e97),(Pd.rep En.cls e97),(Pd.rep (En.int .i64) r99),(Pd.rep En.bool (decide (r99 < 0))),(Pd.rep En.bool (!(decide (r99 < 0))))] hL (by kernel_rfl) rfl rfl ?_ ?_
    ·refine AllT.cons (t_move (o_t 4 rfl) rfl rfl) ?_
     refine AllT.cons (t_move (o_t 0 rfl) rfl rfl) (AllT.cons (t_move (o_t 2 rfl) rfl rfl) ?_)
     refine AllT.cons (t_idxo (o_p (o_t 93 rfl)) (o_t 94 rfl) h96 Tryz.underlying36 ty51 rfl rfl) (AllT.cons (t_loado ty51 (o_t 95 rfl) rfl rfl) ?_)
     refine AllT.cons (t_move (o_t 0 rfl) rfl rfl) (AllT.cons (t_move (o_t 16 rfl) rfl rfl) ?_)
     refine AllT.cons (t_idxo (o_p (o_t 97 rfl)) (o_t 98 rfl) h98 Tryz.underlying36 ty51 rfl rfl) (AllT.cons (t_loado ty51 (o_t 99 rfl) rfl rfl) ?_)
     refine AllT.cons (t_callf (q:=(e95,e97,r99)) (o_t 92 rfl) h100 (xs:=[.tmp 96,.tmp 100]) (.cons (o_t 96 rfl) (.cons (o_t 100 rfl) .nil)) (fun _ _ _ h_=>h_) rfl rfl) (AllT.cons (t_lss (o_t 101 rfl) (o_i (k:=.i64) (by decide)) rfl rfl) ?_)
     refine AllT.cons (t_not (o_t 102 rfl) rfl rfl) ?_
     exact AllT.nil
    intro a s e_ hL
    refine en' (hK94 _ _ ?_)
    refine cnd hL rfl (fun hb_=>?_) (fun hb_=>?_)
    ·replace h:=h.1 hb_
     obtain ⟨h101,h⟩:=h
     refine rg (sx 104 (t_move (o_t 16 rfl) rfl rfl) hL fun a s e_ hL=>?_)
     refine sx 105 (t_add (o_t 104 rfl) (o_i (k:=.i64) (by decide)) h101 rfl rfl) hL fun a s e_ hL=>sx 14 (t_assign (o_t 105 rfl) rfl rfl) hL fun a s e_ hL=>en' ?_
     exact hKL87 k86 a s (Nat.lt_succ_self _) ⟨(i92 + 1),j84,hL.keep (.cons (t:=0) rfl (fun _ _ h_=>h_) (.cons (t:=2) rfl nE (.cons (t:=4) rfl nE (.cons (t:=14) rfl nE (.cons (t:=15) rfl nE .nil))))),h⟩
    ·replace h:=h.2 hb_
     refine rg (sx 106 (t_move (o_t 16 rfl) rfl rfl) hL fun a s e_ hL=>?_)
     refine sx 15 (t_assign (o_t 106 rfl) rfl rfl) hL fun a s e_ hL=>en' ?_
     exact hKL87 k86 a s (Nat.lt_succ_self _) ⟨i83,i92,hL.keep (.cons (t:=0) rfl (fun _ _ h_=>h_) (.cons (t:=2) rfl nE (.cons (t:=4) rfl nE (.cons (t:=14) rfl nE (.cons (t:=15) rfl nE .nil))))),h⟩
   ·replace h:=h.2 hb_
    refine wp_exit ?_
    exact J59 i83 a s (hL.keep (.cons (t:=0) rfl (fun _ _ h_=>h_) (.cons (t:=2) rfl nE (.cons (t:=14) rfl nE .nil)))) h
  ·replace h:=h.2 hb_
   refine wp_skip ?_
   show K52 a s.w
   refine hK52 _ _ (wp_seq_k fun K102 hK102=>?_)
   obtain ⟨h103,i104,h105,h⟩:=h
   refine rg (sx 129 (t_move (o_t 1 rfl) rfl rfl) hL fun a s e_ hL=>?_)
   refine sx 130 (t_move (o_t 3 rfl) rfl rfl) hL fun a s e_ hL=>sx 131 (t_add (o_t 129 rfl) (o_t 130 rfl) h103 rfl rfl) hL fun a s e_ hL=>sx 132 (t_cvt (o_t 131 rfl) Tryz.underlying3 Tryz.underlying133 rfl rfl) hL fun a s e_ hL=>sx 133 (t_shr (o_t 132 rfl) (o_i (k:=.u64) (by decide)) (by decide) rfl rfl) hL fun a s e_ hL=>sx 134 (h105 ▸ (t_cvt (o_t 133 rfl) Tryz.underlying133 Tryz.underlying3 rfl rfl)) hL fun a s e_ hL=>sx 18 (t_assign (o_t 134 rfl) rfl rfl) hL fun a s e_ hL=>en' (hK102 _ _ ?_)
   refine wp_seq_k fun K106 hK106=>?_
   obtain ⟨h107,h⟩:=h
   refine rg (sx 135 (t_move (o_t 18 rfl) rfl rfl) hL fun a s e_ hL=>?_)
   refine sx 136 (t_move (o_t 2 rfl) rfl rfl) hL fun a s e_ hL=>sx 137 (t_add (o_t 135 rfl) (o_t 136 rfl) h107 rfl rfl) hL fun a s e_ hL=>sx 19 (t_assign (o_t 137 rfl) rfl rfl) hL fun a s e_ hL=>en' (hK106 _ _ ?_)
   refine wp_seq_k fun K108 hK108=>rg (sx 20 (t_assign (o_i (k:=.i64) (by decide)) rfl rfl) hL fun a s e_ hL=>?_)
   refine sx 21 (t_assign (o_i (k:=.i64) (by decide)) rfl rfl) hL fun a s e_ hL=>en' (hK108 _ _ ?_)
   refine wp_seq_k fun K109 hK109=>wp_seq_k fun K110 hK110=>rg (sx 138 (t_move (o_t 2 rfl) rfl rfl) hL fun a s e_ hL=>?_)
   refine sx 139 (t_move (o_t 18 rfl) rfl rfl) hL fun a s e_ hL=>sx 140 (t_gtr (o_t 138 rfl) (o_t 139 rfl) rfl rfl) hL fun a s e_ hL=>en' (hK110 _ _ ?_)
   have J113 : ∀ (start111 : Int) (r112 : Int) (a : Act) (s : St),Has (fun b=>v0.ownBlock = some b) 220 s0 a s [(0,(Pd.prow En.cls 51 v0 data_)),(1,(Pd.rep (En.int .i64) a_)),(2,(Pd.rep (En.int .i64) m_)),(3,(Pd.rep (En.int .i64) b_)),(4,(Pd.rep EnF211 cmp_)),(18,(Pd.rep (En.int .i64) i104)),(19,(Pd.rep (En.int .i64) (i104 + m_))),(20,(Pd.rep (En.int .i64) start111)),(21,(Pd.rep (En.int .i64) r112))] → ((slices_symMergeCmpFunc_api_Class.j8 (slices_symMergeCmpFunc_api_Class.n k_) data_ a_ m_ b_ cmp_ r_ i104) start111 r112) → K109 a s.w:=by
    intro start111 r112 a s hL h
    unfold slices_symMergeCmpFunc_api_Class.j8 at h
    show K109 a s.w
    refine hK109 _ _ (wp_seq_k fun K114 hK114=>?_)
    obtain ⟨h115,h⟩:=h
    refine rg (sx 147 (t_move (o_t 19 rfl) rfl rfl) hL fun a s e_ hL=>?_)
    refine sx 148 (t_sub (o_t 147 rfl) (o_i (k:=.i64) (by decide)) h115 rfl rfl) hL fun a s e_ hL=>sx 22 (t_assign (o_t 148 rfl) rfl rfl) hL fun a s e_ hL=>en' (hK114 _ _ ?_)
    refine wp_seq_k fun K116 hK116=>wp_block ?_
    have J118 : ∀ (start117 : Int) (a : Act) (s : St),Has (fun b=>v0.ownBlock = some b) 220 s0 a s [(0,(Pd.prow En.cls 51 v0 data_)),(1,(Pd.rep (En.int .i64) a_)),(2,(Pd.rep (En.int .i64) m_)),(3,(Pd.rep (En.int .i64) b_)),(4,(Pd.rep EnF211 cmp_)),(18,(Pd.rep (En.int .i64) i104)),(19,(Pd.rep (En.int .i64) (i104 + m_))),(20,(Pd.rep (En.int .i64) start117))] → ((slices_symMergeCmpFunc_api_Class.j7 (slices_symMergeCmpFunc_api_Class.n k_) data_ a_ m_ b_ cmp_ r_ i104) start117) → K116 a s.w:=by
     intro start117 a s hL h
     unfold slices_symMergeCmpFunc_api_Class.j7 at h
     show K116 a s.w
     refine hK116 _ _ (wp_seq_k fun K119 hK119=>?_)
     obtain ⟨h120,h⟩:=h
     refine rg (sx 175 (t_move (o_t 19 rfl) rfl rfl) hL fun a s e_ hL=>?_)
     refine sx 176 (t_move (o_t 20 rfl) rfl rfl) hL fun a s e_ hL=>sx 177 (t_sub (o_t 175 rfl) (o_t 176 rfl) h120 rfl rfl) hL fun a s e_ hL=>sx 24 (t_assign (o_t 177 rfl) rfl rfl) hL fun a s e_ hL=>en' (hK119 _ _ ?_)
     refine wp_seq_k fun K121 hK121=>wp_seq_k fun K122 hK122=>?_
     obtain ⟨b123,h124,h⟩:=h
     refine rg (sx 178 (t_move (o_t 20 rfl) rfl rfl) hL fun a s e_ hL=>?_)
     refine sx 179 (t_move (o_t 2 rfl) rfl rfl) hL fun a s e_ hL=>sx 180 (t_lss (o_t 178 rfl) (o_t 179 rfl) rfl rfl) hL fun a s e_ hL=>sx 181 (t_move (o_t 180 rfl) rfl rfl) hL fun a s e_ hL=>sx 182 (t_g1 rfl rfl rfl (fun hc_=>t_move (o_t 2 rfl) rfl rfl)) hL fun a s e_ hL=>sx 183 (t_g1 rfl rfl rfl (fun hc_=>t_move (o_t 24 rfl) rfl rfl)) hL fun a s e_ hL=>sx 184 (t_g1 rfl rfl rfl (fun hc_=>t_lss (o_w hc_ 182 rfl) (o_w hc_ 183 rfl) rfl rfl)) hL fun a s e_ hL=>sx 185 (h124 ▸ (t_and (o_t 181 rfl) (fun hc2_=>(o_w hc2_ 184 rfl)) rfl rfl)) hL fun a s e_ hL=>en' (hK122 _ _ ?_)
     have J126 : ∀ (data125 : (List Cl)) (a : Act) (s : St),Has (fun b=>v0.ownBlock = some b) 220 s0 a s [(0,(Pd.prow En.cls 51 v0 data125)),(1,(Pd.rep (En.int .i64) a_)),(3,(Pd.rep (En.int .i64) b_)),(4,(Pd.rep EnF211 cmp_)),(18,(Pd.rep (En.int .i64) i104)),(20,(Pd.rep (En.int .i64) start117)),(24,(Pd.rep (En.int .i64) ((i104 + m_) - start117)))] → ((slices_symMergeCmpFunc_api_Class.j6 (slices_symMergeCmpFunc_api_Class.n k_) a_ m_ b_ cmp_ r_ i104 start117) data125) → K121 a s.w:=by
      intro data125 a s hL h
      unfold slices_symMergeCmpFunc_api_Class.j6 at h
      show K121 a s.w
      refine hK121 _ _ (wp_seq_k fun K127 hK127=>?_)
      refine wp_seq_k fun K128 hK128=>?_
      obtain ⟨b129,h130,h⟩:=h
      refine rg (sx 192 (t_move (o_t 1 rfl) rfl rfl) hL fun a s e_ hL=>?_)
      refine sx 193 (t_move (o_t 20 rfl) rfl rfl) hL fun a s e_ hL=>sx 194 (t_lss (o_t 192 rfl) (o_t 193 rfl) rfl rfl) hL fun a s e_ hL=>sx 195 (t_move (o_t 194 rfl) rfl rfl) hL fun a s e_ hL=>sx 196 (t_g1 rfl rfl rfl (fun hc_=>t_move (o_t 20 rfl) rfl rfl)) hL fun a s e_ hL=>sx 197 (t_g1 rfl rfl rfl (fun hc_=>t_move (o_t 18 rfl) rfl rfl)) hL fun a s e_ hL=>sx 198 (t_g1 rfl rfl rfl (fun hc_=>t_lss (o_w hc_ 196 rfl) (o_w hc_ 197 rfl) rfl rfl)) hL fun a s e_ hL=>sx 199 (h130 ▸ (t_and (o_t 195 rfl) (fun hc2_=>(o_w hc2_ 198 rfl)) rfl rfl)) hL fun a s e_ hL=>en' (hK128 _ _ ?_)
      have J132 : ∀ (data131 : (List Cl)) (a : Act) (s : St),Has (fun b=>v0.ownBlock = some b) 220 s0 a s [(0,(Pd.prow En.cls 51 v0 data131)),(3,(Pd.rep (En.int .i64) b_)),(4,(Pd.rep EnF211 cmp_)),(18,(Pd.rep (En.int .i64) i104)),(24,(Pd.rep (En.int .i64) ((i104 + m_) - start117)))] → ((slices_symMergeCmpFunc_api_Class.j5 (slices_symMergeCmpFunc_api_Class.n k_) m_ b_ cmp_ r_ i104 start117) data131) → K127 a s.w:=by
       intro data131 a s hL h
       unfold slices_symMergeCmpFunc_api_Class.j5 at h
       show K127 a s.w
       refine hK127 _ _ (wp_seq_k fun K133 hK133=>?_)
       obtain ⟨b134,h135,h⟩:=h
       refine rg (sx 206 (t_move (o_t 18 rfl) rfl rfl) hL fun a s e_ hL=>?_)
       refine sx 207 (t_move (o_t 24 rfl) rfl rfl) hL fun a s e_ hL=>sx 208 (t_lss (o_t 206 rfl) (o_t 207 rfl) rfl rfl) hL fun a s e_ hL=>sx 209 (t_move (o_t 208 rfl) rfl rfl) hL fun a s e_ hL=>sx 210 (t_g1 rfl rfl rfl (fun hc_=>t_move (o_t 24 rfl) rfl rfl)) hL fun a s e_ hL=>sx 211 (t_g1 rfl rfl rfl (fun hc_=>t_move (o_t 3 rfl) rfl rfl)) hL fun a s e_ hL=>sx 212 (t_g1 rfl rfl rfl (fun hc_=>t_lss (o_w hc_ 210 rfl) (o_w hc_ 211 rfl) rfl rfl)) hL fun a s e_ hL=>sx 213 (h135 ▸ (t_and (o_t 209 rfl) (fun hc2_=>(o_w hc2_ 212 rfl)) rfl rfl)) hL fun a s e_ hL=>en' (hK133 _ _ ?_)
       refine cnd hL rfl (fun hb_=>?_) (fun hb_=>?_)
       ·replace h:=h.1 hb_
        obtain ⟨r136,h137,h⟩:=h
        refine rg (sx 214 (t_move (o_t 0 rfl) rfl rfl) hL fun a s e_ hL=>?_)
        refine sx 215 (t_move (o_t 18 rfl) rfl rfl) hL fun a s e_ hL=>sx 216 (t_move (o_t 24 rfl) rfl rfl) hL fun a s e_ hL=>sx 217 (t_move (o_t 3 rfl) rfl rfl) hL fun a s e_ hL=>sx 218 (t_move (o_t 4 rfl) rfl rfl) hL fun a s e_ hL=>st_callm (L':=[(0,(Pd.prow En.cls 51 v0 r136))]) 219 (fun v0=>ih_ v0 h137) hL (fun b h=>h) (o_t 214 rfl) (zs:=[.tmp 215,.tmp 216,.tmp 217,.tmp 218]) (.cons (o_t 215 rfl) (.cons (o_t 216 rfl) (.cons (o_t 217 rfl) (.cons (o_t 218 rfl) .nil)))) rfl rfl rfl rfl (.turn (t:=0) rfl .nil) fun a s hL=>?_
        refine en' ?_
        subst h
        exact retm rfl hL (c:=0) rfl
       ·replace h:=h.2 hb_
        refine wp_skip ?_
        subst h
        exact retm rfl hL (c:=0) rfl
      refine cnd hL rfl (fun hb_=>?_) (fun hb_=>?_)
      ·replace h:=h.1 hb_
       obtain ⟨r138,h139,h⟩:=h
       refine rg (sx 200 (t_move (o_t 0 rfl) rfl rfl) hL fun a s e_ hL=>?_)
       refine sx 201 (t_move (o_t 1 rfl) rfl rfl) hL fun a s e_ hL=>sx 202 (t_move (o_t 20 rfl) rfl rfl) hL fun a s e_ hL=>sx 203 (t_move (o_t 18 rfl) rfl rfl) hL fun a s e_ hL=>sx 204 (t_move (o_t 4 rfl) rfl rfl) hL fun a s e_ hL=>st_callm (L':=[(0,(Pd.prow En.cls 51 v0 r138)),(3,(Pd.rep (En.int .i64) b_)),(4,(Pd.rep EnF211 cmp_)),(18,(Pd.rep (En.int .i64) i104)),(24,(Pd.rep (En.int .i64) ((i104 + m_) - start117)))]) 205 (fun v0=>ih_ v0 h139) hL (fun b h=>h) (o_t 200 rfl) (zs:=[.tmp 201,.tmp 202,.tmp 203,.tmp 204]) (.cons (o_t 201 rfl) (.cons (o_t 202 rfl) (.cons (o_t 203 rfl) (.cons (o_t 204 rfl) .nil)))) rfl rfl rfl rfl (.turn (t:=0) rfl (.cons (t:=3) rfl nE (.cons (t:=4) rfl nE (.cons (t:=18) rfl nE (.cons (t:=24) rfl nE .nil))))) fun a s hL=>?_
       refine en' ?_
       exact J132 r138 a s (hL.keep (.cons (t:=0) rfl (fun _ _ h_=>h_) (.cons (t:=3) rfl nE (.cons (t:=4) rfl nE (.cons (t:=18) rfl nE (.cons (t:=24) rfl nE .nil)))))) h
      ·replace h:=h.2 hb_
       refine wp_skip ?_
       exact J132 data125 a s (hL.keep (.cons (t:=0) rfl (fun _ _ h_=>h_) (.cons (t:=3) rfl nE (.cons (t:=4) rfl nE (.cons (t:=18) rfl nE (.cons (t:=24) rfl nE .nil)))))) h
     refine cnd hL rfl (fun hb_=>?_) (fun hb_=>?_)
     ·replace h:=h.1 hb_
      obtain ⟨r140,h141,h⟩:=h
      refine rg (sx 186 (t_move (o_t 0 rfl) rfl rfl) hL fun a s e_ hL=>?_)
      refine sx 187 (t_move (o_t 20 rfl) rfl rfl) hL fun a s e_ hL=>sx 188 (t_move (o_t 2 rfl) rfl rfl) hL fun a s e_ hL=>sx 189 (t_move (o_t 24 rfl) rfl rfl) hL fun a s e_ hL=>sx 190 (t_move (o_t 4 rfl) rfl rfl) hL fun a s e_ hL=>st_callm (L':=[(0,(Pd.prow En.cls 51 v0 r140)),(1,(Pd.rep (En.int .i64) a_)),(3,(Pd.rep (En.int .i64) b_)),(4,(Pd.rep EnF211 cmp_)),(18,(Pd.rep (En.int .i64) i104)),(20,(Pd.rep (En.int .i64) start117)),(24,(Pd.rep (En.int .i64) ((i104 + m_) - start117)))]) 191 (fun v0=>slices_rotateCmpFunc_api_Class_ok v0 h141) hL (fun b h=>h) (o_t 186 rfl) (zs:=[.tmp 187,.tmp 188,.tmp 189,.tmp 190]) (.cons (o_t 187 rfl) (.cons (o_t 188 rfl) (.cons (o_t 189 rfl) (.cons (o_t 190 rfl) .nil)))) rfl rfl rfl rfl (.turn (t:=0) rfl (.cons (t:=1) rfl nE (.cons (t:=3) rfl nE (.cons (t:=4) rfl nE (.cons (t:=18) rfl nE (.cons (t:=20) rfl nE (.cons (t:=24) rfl nE .nil))))))) fun a s hL=>?_
      refine en' ?_
      exact J126 r140 a s (hL.keep (.cons (t:=0) rfl (fun _ _ h_=>h_) (.cons (t:=1) rfl nE (.cons (t:=3) rfl nE (.cons (t:=4) rfl nE (.cons (t:=18) rfl nE (.cons (t:=20) rfl nE (.cons (t:=24) rfl nE .nil)))))))) h
     ·replace h:=h.2 hb_
      refine wp_skip ?_
      exact J126 data_ a s (hL.keep (.cons (t:=0) rfl (fun _ _ h_=>h_) (.cons (t:=1) rfl nE (.cons (t:=3) rfl nE (.cons (t:=4) rfl nE (.cons (t:=18) rfl nE (.cons (t:=20) rfl nE (.cons (t:=24) rfl nE .nil)))))))) h
    obtain ⟨k144,h⟩:=h
    refine lpg (fun k145 a s=>∃ (start142 : Int) (r143 : Int),Has (fun b=>v0.ownBlock = some b) 220 s0 a s [(0,(Pd.prow En.cls 51 v0 data_)),(1,(Pd.rep (En.int .i64) a_)),(2,(Pd.rep (En.int .i64) m_)),(3,(Pd.rep (En.int .i64) b_)),(4,(Pd.rep EnF211 cmp_)),(18,(Pd.rep (En.int .i64) i104)),(19,(Pd.rep (En.int .i64) (i104 + m_))),(20,(Pd.rep (En.int .i64) start142)),(21,(Pd.rep (En.int .i64) r143)),(22,(Pd.rep (En.int .i64) ((i104 + m_) - 1)))] ∧ slices_symMergeCmpFunc_api_Class.l5 data_ m_ cmp_ i104 (slices_symMergeCmpFunc_api_Class.j7 (slices_symMergeCmpFunc_api_Class.n k_) data_ a_ m_ b_ cmp_ r_ i104) k145 start142 r143) k144 ⟨start111,r112,hL.keep (.cons (t:=0) rfl (fun _ _ h_=>h_) (.cons (t:=1) rfl nE (.cons (t:=2) rfl nE (.cons (t:=3) rfl nE (.cons (t:=4) rfl nE (.cons (t:=18) rfl nE (.cons (t:=19) rfl nE (.cons (t:=20) rfl nE (.cons (t:=21) rfl nE (.cons (t:=22) rfl nE .nil)))))))))),h⟩ ?_
    rintro k145 a s ⟨start142,r143,hL,h⟩ KL146 hKL146
    cases k145 with
    | zero=>exact h.elim
    | succ k145=>
    unfold slices_symMergeCmpFunc_api_Class.l5 at h
    refine wp_seq_k fun K147 hK147=>wp_seq_k fun K148 hK148=>rg (sx 149 (t_move (o_t 20 rfl) rfl rfl) hL fun a s e_ hL=>?_)
    refine sx 150 (t_move (o_t 21 rfl) rfl rfl) hL fun a s e_ hL=>sx 151 (t_lss (o_t 149 rfl) (o_t 150 rfl) rfl rfl) hL fun a s e_ hL=>en' (hK148 _ _ ?_)
    refine cnd hL rfl (fun hb_=>?_) (fun hb_=>?_)
    ·replace h:=h.1 hb_
     refine wp_skip ?_
     show K147 a s.w
     refine hK147 _ _ (wp_block ?_)
     refine wp_seq_k fun K149 hK149=>?_
     obtain ⟨h150,i151,h152,h⟩:=h
     refine rg (sx 152 (t_move (o_t 20 rfl) rfl rfl) hL fun a s e_ hL=>?_)
     refine sx 153 (t_move (o_t 21 rfl) rfl rfl) hL fun a s e_ hL=>sx 154 (t_add (o_t 152 rfl) (o_t 153 rfl) h150 rfl rfl) hL fun a s e_ hL=>sx 155 (t_cvt (o_t 154 rfl) Tryz.underlying3 Tryz.underlying133 rfl rfl) hL fun a s e_ hL=>sx 156 (t_shr (o_t 155 rfl) (o_i (k:=.u64) (by decide)) (by decide) rfl rfl) hL fun a s e_ hL=>sx 157 (h152 ▸ (t_cvt (o_t 156 rfl) Tryz.underlying133 Tryz.underlying3 rfl rfl)) hL fun a s e_ hL=>sx 23 (t_assign (o_t 157 rfl) rfl rfl) hL fun a s e_ hL=>en' (hK149 _ _ ?_)
     refine wp_seq_k fun K153 hK153=>?_
     obtain ⟨h154,e155,h156,e157,h158,r159,h160,h⟩:=h
     refine rda follows 14 [(Pd.rep EnF211 cmp_),(Pd.prow En.cls 51 v0 data_),(Pd.rep (En.int .i64) ((i104 + m_) - 1)),(Pd.rep (En.int .i64) i151),(Pd.rep (En.int .i64) (((i104 + m_) - 1) - i151)),(Pd.optr En.cls 0 v0.ownBlock ((((i104 + m_) - 1) - i151 : Int).toNat * En.cls.sz) e155),(Pd.rep En.cls e155),(Pd.prow En.cls 51 v0 data_),(Pd.rep (En.int .i64) i151),(Pd.optr En.cls 0 v0.ownBlock ((i151 : Int).toNat * En.cls.sz) e157),(Pd.rep En.cls e157),(Pd.rep (En.int .i64) r159),(Pd.rep En.bool (decide (r159 < 0))),(Pd.rep En.bool (!(decide (r159 < 0))))] hL (by kernel_rfl) rfl rfl ?_ ?_
     ·refine AllT.cons (t_move (o_t 4 rfl) rfl rfl) ?_
      refine AllT.cons (t_move (o_t 0 rfl) rfl rfl) (AllT.cons (t_move (o_t 22 rfl) rfl rfl) ?_)
      refine AllT.cons (t_move (o_t 23 rfl) rfl rfl) (AllT.cons (t_sub (o_t 160 rfl) (o_t 161 rfl) h154 rfl rfl) ?_)
      refine AllT.cons (t_idxo (o_p (o_t 159 rfl)) (o_t 162 rfl) h156 Tryz.underlying36 ty51 rfl rfl) (AllT.cons (t_loado ty51 (o_t 163 rfl) rfl rfl) ?_)
      refine AllT.cons (t_move (o_t 0 rfl) rfl rfl) (AllT.cons (t_move (o_t 23 rfl) rfl rfl) ?_)
      refine AllT.cons (t_idxo (o_p (o_t 165 rfl)) (o_t 166 rfl) h158 Tryz.underlying36 ty51 rfl rfl) (AllT.cons (t_loado ty51 (o_t 167 rfl) rfl rfl) ?_)
      refine AllT.cons (t_callf (q:=(e155,e157,r159)) (o_t 158 rfl) h160 (xs:=[.tmp 164,.tmp 168]) (.cons (o_t 164 rfl) (.cons (o_t 168 rfl) .nil)) (fun _ _ _ h_=>h_) rfl rfl) (AllT.cons (t_lss (o_t 169 rfl) (o_i (k:=.i64) (by decide)) rfl rfl) ?_)
      refine AllT.cons (t_not (o_t 170 rfl) rfl rfl) ?_
      exact AllT.nil
     intro a s e_ hL
     refine en' (hK153 _ _ ?_)
     refine cnd hL rfl (fun hb_=>?_) (fun hb_=>?_)
     ·replace h:=h.1 hb_
      obtain ⟨h161,h⟩:=h
      refine rg (sx 172 (t_move (o_t 23 rfl) rfl rfl) hL fun a s e_ hL=>?_)
      refine sx 173 (t_add (o_t 172 rfl) (o_i (k:=.i64) (by decide)) h161 rfl rfl) hL fun a s e_ hL=>sx 20 (t_assign (o_t 173 rfl) rfl rfl) hL fun a s e_ hL=>en' ?_
      exact hKL146 k145 a s (Nat.lt_succ_self _) ⟨(i151 + 1),r143,hL.keep (.cons (t:=0) rfl (fun _ _ h_=>h_) (.cons (t:=1) rfl nE (.cons (t:=2) rfl nE (.cons (t:=3) rfl nE (.cons (t:=4) rfl nE (.cons (t:=18) rfl nE (.cons (t:=19) rfl nE (.cons (t:=20) rfl nE (.cons (t:=21) rfl nE (.cons (t:=22) rfl nE .nil)))))))))),h⟩
     ·replace h:=h.2 hb_
      refine rg (sx 174 (t_move (o_t 23 rfl) rfl rfl) hL fun a s e_ hL=>?_)
      refine sx 21 (t_assign (o_t 174 rfl) rfl rfl) hL fun a s e_ hL=>en' ?_
      exact hKL146 k145 a s (Nat.lt_succ_self _) ⟨start142,i151,hL.keep (.cons (t:=0) rfl (fun _ _ h_=>h_) (.cons (t:=1) rfl nE (.cons (t:=2) rfl nE (.cons (t:=3) rfl nE (.cons (t:=4) rfl nE (.cons (t:=18) rfl nE (.cons (t:=19) rfl nE (.cons (t:=20) rfl nE (.cons (t:=21) rfl nE (.cons (t:=22) rfl nE .nil)))))))))),h⟩
    ·replace h:=h.2 hb_
     refine wp_exit ?_
     exact J118 start142 a s (hL.keep (.cons (t:=0) rfl (fun _ _ h_=>h_) (.cons (t:=1) rfl nE (.cons (t:=2) rfl nE (.cons (t:=3) rfl nE (.cons (t:=4) rfl nE (.cons (t:=18) rfl nE (.cons (t:=19) rfl nE (.cons (t:=20) rfl nE .nil))))))))) h
   refine cnd hL rfl (fun hb_=>?_) (fun hb_=>?_)
   ·replace h:=h.1 hb_
    refine wp_seq_k fun K162 hK162=>?_
    obtain ⟨h163,h⟩:=h
    refine rg (sx 141 (t_move (o_t 19 rfl) rfl rfl) hL fun a s e_ hL=>?_)
    refine sx 142 (t_move (o_t 3 rfl) rfl rfl) hL fun a s e_ hL=>sx 143 (t_sub (o_t 141 rfl) (o_t 142 rfl) h163 rfl rfl) hL fun a s e_ hL=>sx 20 (t_assign (o_t 143 rfl) rfl rfl) hL fun a s e_ hL=>en' (hK162 _ _ ?_)
    refine rg (sx 144 (t_move (o_t 18 rfl) rfl rfl) hL fun a s e_ hL=>?_)
    refine sx 21 (t_assign (o_t 144 rfl) rfl rfl) hL fun a s e_ hL=>en' ?_
    exact J113 ((i104 + m_) - b_) i104 a s (hL.keep (.cons (t:=0) rfl (fun _ _ h_=>h_) (.cons (t:=1) rfl nE (.cons (t:=2) rfl nE (.cons (t:=3) rfl nE (.cons (t:=4) rfl nE (.cons (t:=18) rfl nE (.cons (t:=19) rfl nE (.cons (t:=20) rfl nE (.cons (t:=21) rfl nE .nil)))))))))) h
   ·replace h:=h.2 hb_
    refine wp_seq_k fun K164 hK164=>rg (sx 145 (t_move (o_t 1 rfl) rfl rfl) hL fun a s e_ hL=>?_)
    refine sx 20 (t_assign (o_t 145 rfl) rfl rfl) hL fun a s e_ hL=>en' (hK164 _ _ ?_)
    refine rg (sx 146 (t_move (o_t 2 rfl) rfl rfl) hL fun a s e_ hL=>?_)
    refine sx 21 (t_assign (o_t 146 rfl) rfl rfl) hL fun a s e_ hL=>en' ?_
    exact J113 a_ m_ a s (hL.keep (.cons (t:=0) rfl (fun _ _ h_=>h_) (.cons (t:=1) rfl nE (.cons (t:=2) rfl nE (.cons (t:=3) rfl nE (.cons (t:=4) rfl nE (.cons (t:=18) rfl nE (.cons (t:=19) rfl nE (.cons (t:=20) rfl nE (.cons (t:=21) rfl nE .nil)))))))))) h
theorem slices_symMergeCmpFunc_api_Class_ok (v0 : Value) {data_ : (List Cl)} {a_ : Int} {m_ : Int} {b_ : Int} {cmp_ : (Cl × Cl × Int → Prop)} {r_ : (List Cl)} (h : slices_symMergeCmpFunc_api_Class data_ a_ m_ b_ cmp_ r_) : Fm Tryz.prog 186 (fun b=>v0.ownBlock = some b) [(Pd.prow En.cls 51 v0 data_),(Pd.rep (En.int .i64) a_),(Pd.rep (En.int .i64) m_),(Pd.rep (En.int .i64) b_),(Pd.rep EnF211 cmp_)] (fun _ s' _=>(Pd.prow En.cls 51 v0 r_).p s' v0):=by
 obtain ⟨k_,h⟩:=h
 exact slices_symMergeCmpFunc_api_Class.n_ok k_ v0 h
end Go.Proofs.YtahgmdbioafmbaaGreatDoor.V
namespace Go.Proofs.YtahgmdbioafmbaaGreatDoor.V
open Go
set_option linter.unusedVariables false
set_option maxRecDepth 100000
theorem slices_stableCmpFunc_api_Class_ok (v0 : Value) {data_ : (List Cl)} {nv_ : Int} {cmp_ : (Cl × Cl × Int → Prop)} {r_ : (List Cl)} (h : slices_stableCmpFunc_api_Class data_ nv_ cmp_ r_) : Fm Tryz.prog 179 (fun b=>v0.ownBlock = some b) [(Pd.prow En.cls 51 v0 data_),(Pd.rep (En.int .i64) nv_),(Pd.rep EnF211 cmp_)] (fun _ s' _=>(Pd.prow En.cls 51 v0 r_).p s' v0):=by
 unfold slices_stableCmpFunc_api_Class at h
 refine fm_of Tryz.func179 rfl Tryz.ntmps179 (by rfl) (by simp) fun s0 a hL=>?_
 refine wp_seq_k fun K1 hK1=>rg (sx 6 (t_assign (o_i (k:=.i64) (by decide)) rfl rfl) hL fun a s e_ hL=>?_)
 refine en' (hK1 _ _ ?_)
 refine wp_seq_k fun K2 hK2=>rg (sx 10 (t_move (o_t 6 rfl) rfl rfl) hL fun a s e_ hL=>?_)
 refine sx 7 (t_assign (o_i (k:=.i64) (by decide)) rfl rfl) hL fun a s e_ hL=>sx 8 (t_assign (o_t 10 rfl) rfl rfl) hL fun a s e_ hL=>en' (hK2 _ _ ?_)
 refine wp_seq_k fun K3 hK3=>wp_block ?_
 have J6 : ∀ (data4 : (List Cl)) (a5 : Int) (a : Act) (s : St),Has (fun b=>v0.ownBlock = some b) 63 s0 a s [(0,(Pd.prow En.cls 51 v0 data4)),(1,(Pd.rep (En.int .i64) nv_)),(2,(Pd.rep EnF211 cmp_)),(6,(Pd.rep (En.int .i64) 20)),(7,(Pd.rep (En.int .i64) a5))] → ((slices_stableCmpFunc_api_Class.j3 nv_ cmp_ r_) data4 a5) → K3 a s.w:=by
  intro data4 a5 a s hL h
  unfold slices_stableCmpFunc_api_Class.j3 at h
  show K3 a s.w
  refine hK3 _ _ (wp_seq_k fun K7 hK7=>?_)
  obtain ⟨r8,h9,h⟩:=h
  refine rg (sx 23 (t_move (o_t 0 rfl) rfl rfl) hL fun a s e_ hL=>?_)
  refine sx 24 (t_move (o_t 7 rfl) rfl rfl) hL fun a s e_ hL=>sx 25 (t_move (o_t 1 rfl) rfl rfl) hL fun a s e_ hL=>sx 26 (t_move (o_t 2 rfl) rfl rfl) hL fun a s e_ hL=>st_callm (L':=[(0,(Pd.prow En.cls 51 v0 r8)),(1,(Pd.rep (En.int .i64) nv_)),(2,(Pd.rep EnF211 cmp_)),(6,(Pd.rep (En.int .i64) 20))]) 27 (fun v0=>slices_insertionSortCmpFunc_api_Class_ok v0 h9) hL (fun b h=>h) (o_t 23 rfl) (zs:=[.tmp 24,.tmp 25,.tmp 26]) (.cons (o_t 24 rfl) (.cons (o_t 25 rfl) (.cons (o_t 26 rfl) .nil))) rfl rfl rfl rfl (.turn (t:=0) rfl (.cons (t:=1) rfl nE (.cons (t:=2) rfl nE (.cons (t:=6) rfl nE .nil)))) fun a s hL=>?_
  refine en' (hK7 _ _ ?_)
  refine wp_block ?_
  have J11 : ∀ (data10 : (List Cl)) (a : Act) (s : St),Has (fun b=>v0.ownBlock = some b) 63 s0 a s [(0,(Pd.prow En.cls 51 v0 data10))] → ((slices_stableCmpFunc_api_Class.j1 r_) data10) → (bodyPost Tryz.prog Tryz.f179 (Pst (fun b=>v0.ownBlock = some b) (fun _ s' _=>(Pd.prow En.cls 51 v0 r_).p s' v0) s0) .normal) a s.w:=by
   intro data10 a s hL h
   unfold slices_stableCmpFunc_api_Class.j1 at h
   subst h
   exact retm rfl hL (c:=0) rfl
  obtain ⟨k14,h⟩:=h
  refine lpg (fun k15 a s=>∃ (data12 : (List Cl)) (blockSize13 : Int),Has (fun b=>v0.ownBlock = some b) 63 s0 a s [(0,(Pd.prow En.cls 51 v0 data12)),(1,(Pd.rep (En.int .i64) nv_)),(2,(Pd.rep EnF211 cmp_)),(6,(Pd.rep (En.int .i64) blockSize13))] ∧ slices_stableCmpFunc_api_Class.l1 nv_ cmp_ (slices_stableCmpFunc_api_Class.j1 r_) k15 data12 blockSize13) k14 ⟨r8,20,hL.keep (.cons (t:=0) rfl (fun _ _ h_=>h_) (.cons (t:=1) rfl nE (.cons (t:=2) rfl nE (.cons (t:=6) rfl nE .nil)))),h⟩ ?_
  rintro k15 a s ⟨data12,blockSize13,hL,h⟩ KL16 hKL16
  cases k15 with
  | zero=>exact h.elim
  | succ k15=>
  unfold slices_stableCmpFunc_api_Class.l1 at h
  refine wp_seq_k fun K17 hK17=>wp_seq_k fun K18 hK18=>rg (sx 28 (t_move (o_t 6 rfl) rfl rfl) hL fun a s e_ hL=>?_)
  refine sx 29 (t_move (o_t 1 rfl) rfl rfl) hL fun a s e_ hL=>sx 30 (t_lss (o_t 28 rfl) (o_t 29 rfl) rfl rfl) hL fun a s e_ hL=>en' (hK18 _ _ ?_)
  refine cnd hL rfl (fun hb_=>?_) (fun hb_=>?_)
  ·replace h:=h.1 hb_
   refine wp_skip ?_
   show K17 a s.w
   refine hK17 _ _ (wp_block ?_)
   refine wp_seq_k fun K19 hK19=>?_
   obtain ⟨h20,h⟩:=h
   refine rg (sx 31 (t_move (o_t 6 rfl) rfl rfl) hL fun a s e_ hL=>?_)
   refine sx 32 (t_mul (o_i (k:=.i64) (by decide)) (o_t 31 rfl) h20 rfl rfl) hL fun a s e_ hL=>sx 7 (t_assign (o_i (k:=.i64) (by decide)) rfl rfl) hL fun a s e_ hL=>sx 8 (t_assign (o_t 32 rfl) rfl rfl) hL fun a s e_ hL=>en' (hK19 _ _ ?_)
   refine wp_seq_k fun K21 hK21=>wp_block ?_
   have J24 : ∀ (data22 : (List Cl)) (a23 : Int) (a : Act) (s : St),Has (fun b=>v0.ownBlock = some b) 63 s0 a s [(0,(Pd.prow En.cls 51 v0 data22)),(1,(Pd.rep (En.int .i64) nv_)),(2,(Pd.rep EnF211 cmp_)),(6,(Pd.rep (En.int .i64) blockSize13)),(7,(Pd.rep (En.int .i64) a23))] → ((slices_stableCmpFunc_api_Class.j2 (slices_stableCmpFunc_api_Class.l1 nv_ cmp_ (slices_stableCmpFunc_api_Class.j1 r_) k15) nv_ cmp_ blockSize13) data22 a23) → K21 a s.w:=by
    intro data22 a23 a s hL h
    unfold slices_stableCmpFunc_api_Class.j2 at h
    show K21 a s.w
    refine hK21 _ _ (wp_seq_k fun K25 hK25=>?_)
    refine wp_seq_k fun K26 hK26=>?_
    obtain ⟨h27,h⟩:=h
    refine rg (sx 49 (t_move (o_t 7 rfl) rfl rfl) hL fun a s e_ hL=>?_)
    refine sx 50 (t_move (o_t 6 rfl) rfl rfl) hL fun a s e_ hL=>sx 51 (t_add (o_t 49 rfl) (o_t 50 rfl) h27 rfl rfl) hL fun a s e_ hL=>sx 9 (t_assign (o_t 51 rfl) rfl rfl) hL fun a s e_ hL=>en' (hK26 _ _ ?_)
    refine wp_seq_k fun K28 hK28=>rg (sx 52 (t_move (o_t 9 rfl) rfl rfl) hL fun a s e_ hL=>?_)
    refine sx 53 (t_move (o_t 1 rfl) rfl rfl) hL fun a s e_ hL=>sx 54 (t_lss (o_t 52 rfl) (o_t 53 rfl) rfl rfl) hL fun a s e_ hL=>en' (hK28 _ _ ?_)
    refine cnd hL rfl (fun hb_=>?_) (fun hb_=>?_)
    ·replace h:=h.1 hb_
     obtain ⟨r29,h30,h⟩:=h
     refine rg (sx 55 (t_move (o_t 0 rfl) rfl rfl) hL fun a s e_ hL=>?_)
     refine sx 56 (t_move (o_t 7 rfl) rfl rfl) hL fun a s e_ hL=>sx 57 (t_move (o_t 9 rfl) rfl rfl) hL fun a s e_ hL=>sx 58 (t_move (o_t 1 rfl) rfl rfl) hL fun a s e_ hL=>sx 59 (t_move (o_t 2 rfl) rfl rfl) hL fun a s e_ hL=>st_callm (L':=[(0,(Pd.prow En.cls 51 v0 r29)),(1,(Pd.rep (En.int .i64) nv_)),(2,(Pd.rep EnF211 cmp_)),(6,(Pd.rep (En.int .i64) blockSize13))]) 60 (fun v0=>slices_symMergeCmpFunc_api_Class_ok v0 h30) hL (fun b h=>h) (o_t 55 rfl) (zs:=[.tmp 56,.tmp 57,.tmp 58,.tmp 59]) (.cons (o_t 56 rfl) (.cons (o_t 57 rfl) (.cons (o_t 58 rfl) (.cons (o_t 59 rfl) .nil)))) rfl rfl rfl rfl (.turn (t:=0) rfl (.cons (t:=1) rfl nE (.cons (t:=2) rfl nE (.cons (t:=6) rfl nE .nil)))) fun a s hL=>?_
     refine en' (hK25 _ _ ?_)
     obtain ⟨h31,h⟩:=h
     refine rg (sx 61 (t_move (o_t 6 rfl) rfl rfl) hL fun a s e_ hL=>?_)
     refine sx 62 (t_mul (o_t 61 rfl) (o_i (k:=.i64) (by decide)) h31 rfl rfl) hL fun a s e_ hL=>sx 6 (t_assign (o_t 62 rfl) rfl rfl) hL fun a s e_ hL=>en' ?_
     exact hKL16 k15 a s (Nat.lt_succ_self _) ⟨r29,(blockSize13 * 2),hL.keep (.cons (t:=0) rfl (fun _ _ h_=>h_) (.cons (t:=1) rfl nE (.cons (t:=2) rfl nE (.cons (t:=6) rfl nE .nil)))),h⟩
    ·replace h:=h.2 hb_
     refine wp_skip ?_
     show K25 a s.w
     refine hK25 _ _ ?_
     obtain ⟨h32,h⟩:=h
     refine rg (sx 61 (t_move (o_t 6 rfl) rfl rfl) hL fun a s e_ hL=>?_)
     refine sx 62 (t_mul (o_t 61 rfl) (o_i (k:=.i64) (by decide)) h32 rfl rfl) hL fun a s e_ hL=>sx 6 (t_assign (o_t 62 rfl) rfl rfl) hL fun a s e_ hL=>en' ?_
     exact hKL16 k15 a s (Nat.lt_succ_self _) ⟨data22,(blockSize13 * 2),hL.keep (.cons (t:=0) rfl (fun _ _ h_=>h_) (.cons (t:=1) rfl nE (.cons (t:=2) rfl nE (.cons (t:=6) rfl nE .nil)))),h⟩
   obtain ⟨k36,h⟩:=h
   refine lpg (fun k37 a s=>∃ (data33 : (List Cl)) (a34 : Int) (b35 : Int),Has (fun b=>v0.ownBlock = some b) 63 s0 a s [(0,(Pd.prow En.cls 51 v0 data33)),(1,(Pd.rep (En.int .i64) nv_)),(2,(Pd.rep EnF211 cmp_)),(6,(Pd.rep (En.int .i64) blockSize13)),(7,(Pd.rep (En.int .i64) a34)),(8,(Pd.rep (En.int .i64) b35))] ∧ slices_stableCmpFunc_api_Class.l2 nv_ cmp_ blockSize13 (slices_stableCmpFunc_api_Class.j2 (slices_stableCmpFunc_api_Class.l1 nv_ cmp_ (slices_stableCmpFunc_api_Class.j1 r_) k15) nv_ cmp_ blockSize13) k37 data33 a34 b35) k36 ⟨data12,0,(2 * blockSize13),hL.keep (.cons (t:=0) rfl (fun _ _ h_=>h_) (.cons (t:=1) rfl nE (.cons (t:=2) rfl nE (.cons (t:=6) rfl nE (.cons (t:=7) rfl nE (.cons (t:=8) rfl nE .nil)))))),h⟩ ?_
   rintro k37 a s ⟨data33,a34,b35,hL,h⟩ KL38 hKL38
   cases k37 with
   | zero=>exact h.elim
   | succ k37=>
   unfold slices_stableCmpFunc_api_Class.l2 at h
   refine wp_seq_k fun K39 hK39=>wp_seq_k fun K40 hK40=>rg (sx 33 (t_move (o_t 8 rfl) rfl rfl) hL fun a s e_ hL=>?_)
   refine sx 34 (t_move (o_t 1 rfl) rfl rfl) hL fun a s e_ hL=>sx 35 (t_leq (o_t 33 rfl) (o_t 34 rfl) rfl rfl) hL fun a s e_ hL=>en' (hK40 _ _ ?_)
   refine cnd hL rfl (fun hb_=>?_) (fun hb_=>?_)
   ·replace h:=h.1 hb_
    refine wp_skip ?_
    show K39 a s.w
    refine hK39 _ _ (wp_block ?_)
    refine wp_seq_k fun K41 hK41=>?_
    obtain ⟨h42,r43,h44,h⟩:=h
    refine rg (sx 36 (t_move (o_t 0 rfl) rfl rfl) hL fun a s e_ hL=>?_)
    refine sx 37 (t_move (o_t 7 rfl) rfl rfl) hL fun a s e_ hL=>sx 38 (t_move (o_t 7 rfl) rfl rfl) hL fun a s e_ hL=>sx 39 (t_move (o_t 6 rfl) rfl rfl) hL fun a s e_ hL=>sx 40 (t_add (o_t 38 rfl) (o_t 39 rfl) h42 rfl rfl) hL fun a s e_ hL=>sx 41 (t_move (o_t 8 rfl) rfl rfl) hL fun a s e_ hL=>sx 42 (t_move (o_t 2 rfl) rfl rfl) hL fun a s e_ hL=>st_callm (L':=[(0,(Pd.prow En.cls 51 v0 r43)),(1,(Pd.rep (En.int .i64) nv_)),(2,(Pd.rep EnF211 cmp_)),(6,(Pd.rep (En.int .i64) blockSize13)),(8,(Pd.rep (En.int .i64) b35))]) 43 (fun v0=>slices_symMergeCmpFunc_api_Class_ok v0 h44) hL (fun b h=>h) (o_t 36 rfl) (zs:=[.tmp 37,.tmp 40,.tmp 41,.tmp 42]) (.cons (o_t 37 rfl) (.cons (o_t 40 rfl) (.cons (o_t 41 rfl) (.cons (o_t 42 rfl) .nil)))) rfl rfl rfl rfl (.turn (t:=0) rfl (.cons (t:=1) rfl nE (.cons (t:=2) rfl nE (.cons (t:=6) rfl nE (.cons (t:=8) rfl nE .nil))))) fun a s hL=>?_
    refine en' (hK41 _ _ ?_)
    refine wp_seq_k fun K45 hK45=>rg (sx 44 (t_move (o_t 8 rfl) rfl rfl) hL fun a s e_ hL=>?_)
    refine sx 7 (t_assign (o_t 44 rfl) rfl rfl) hL fun a s e_ hL=>en' (hK45 _ _ ?_)
    obtain ⟨h46,h47,h⟩:=h
    refine rg (sx 45 (t_move (o_t 8 rfl) rfl rfl) hL fun a s e_ hL=>?_)
    refine sx 46 (t_move (o_t 6 rfl) rfl rfl) hL fun a s e_ hL=>sx 47 (t_mul (o_i (k:=.i64) (by decide)) (o_t 46 rfl) h46 rfl rfl) hL fun a s e_ hL=>sx 48 (t_add (o_t 45 rfl) (o_t 47 rfl) h47 rfl rfl) hL fun a s e_ hL=>sx 8 (t_assign (o_t 48 rfl) rfl rfl) hL fun a s e_ hL=>en' ?_
    exact hKL38 k37 a s (Nat.lt_succ_self _) ⟨r43,b35,(b35 + (2 * blockSize13)),hL.keep (.cons (t:=0) rfl (fun _ _ h_=>h_) (.cons (t:=1) rfl nE (.cons (t:=2) rfl nE (.cons (t:=6) rfl nE (.cons (t:=7) rfl nE (.cons (t:=8) rfl nE .nil)))))),h⟩
   ·replace h:=h.2 hb_
    refine wp_exit ?_
    exact J24 data33 a34 a s (hL.keep (.cons (t:=0) rfl (fun _ _ h_=>h_) (.cons (t:=1) rfl nE (.cons (t:=2) rfl nE (.cons (t:=6) rfl nE (.cons (t:=7) rfl nE .nil)))))) h
  ·replace h:=h.2 hb_
   refine wp_exit ?_
   exact J11 data12 a s (hL.keep (.cons (t:=0) rfl (fun _ _ h_=>h_) .nil)) h
 obtain ⟨k51,h⟩:=h
 refine lpg (fun k52 a s=>∃ (data48 : (List Cl)) (a49 : Int) (b50 : Int),Has (fun b=>v0.ownBlock = some b) 63 s0 a s [(0,(Pd.prow En.cls 51 v0 data48)),(1,(Pd.rep (En.int .i64) nv_)),(2,(Pd.rep EnF211 cmp_)),(6,(Pd.rep (En.int .i64) 20)),(7,(Pd.rep (En.int .i64) a49)),(8,(Pd.rep (En.int .i64) b50))] ∧ slices_stableCmpFunc_api_Class.l3 nv_ cmp_ (slices_stableCmpFunc_api_Class.j3 nv_ cmp_ r_) k52 data48 a49 b50) k51 ⟨data_,0,20,hL.keep (.cons (t:=0) rfl (fun _ _ h_=>h_) (.cons (t:=1) rfl nE (.cons (t:=2) rfl nE (.cons (t:=6) rfl nE (.cons (t:=7) rfl nE (.cons (t:=8) rfl nE .nil)))))),h⟩ ?_
 rintro k52 a s ⟨data48,a49,b50,hL,h⟩ KL53 hKL53
 cases k52 with
 | zero=>exact h.elim
 | succ k52=>
 unfold slices_stableCmpFunc_api_Class.l3 at h
 refine wp_seq_k fun K54 hK54=>wp_seq_k fun K55 hK55=>rg (sx 11 (t_move (o_t 8 rfl) rfl rfl) hL fun a s e_ hL=>?_)
 refine sx 12 (t_move (o_t 1 rfl) rfl rfl) hL fun a s e_ hL=>sx 13 (t_leq (o_t 11 rfl) (o_t 12 rfl) rfl rfl) hL fun a s e_ hL=>en' (hK55 _ _ ?_)
 refine cnd hL rfl (fun hb_=>?_) (fun hb_=>?_)
 ·replace h:=h.1 hb_
  refine wp_skip ?_
  show K54 a s.w
  refine hK54 _ _ (wp_block ?_)
  refine wp_seq_k fun K56 hK56=>?_
  obtain ⟨r57,h58,h⟩:=h
  refine rg (sx 14 (t_move (o_t 0 rfl) rfl rfl) hL fun a s e_ hL=>?_)
  refine sx 15 (t_move (o_t 7 rfl) rfl rfl) hL fun a s e_ hL=>sx 16 (t_move (o_t 8 rfl) rfl rfl) hL fun a s e_ hL=>sx 17 (t_move (o_t 2 rfl) rfl rfl) hL fun a s e_ hL=>st_callm (L':=[(0,(Pd.prow En.cls 51 v0 r57)),(1,(Pd.rep (En.int .i64) nv_)),(2,(Pd.rep EnF211 cmp_)),(6,(Pd.rep (En.int .i64) 20)),(8,(Pd.rep (En.int .i64) b50))]) 18 (fun v0=>slices_insertionSortCmpFunc_api_Class_ok v0 h58) hL (fun b h=>h) (o_t 14 rfl) (zs:=[.tmp 15,.tmp 16,.tmp 17]) (.cons (o_t 15 rfl) (.cons (o_t 16 rfl) (.cons (o_t 17 rfl) .nil))) rfl rfl rfl rfl (.turn (t:=0) rfl (.cons (t:=1) rfl nE (.cons (t:=2) rfl nE (.cons (t:=6) rfl nE (.cons (t:=8) rfl nE .nil))))) fun a s hL=>?_
  refine en' (hK56 _ _ ?_)
  refine wp_seq_k fun K59 hK59=>rg (sx 19 (t_move (o_t 8 rfl) rfl rfl) hL fun a s e_ hL=>?_)
  refine sx 7 (t_assign (o_t 19 rfl) rfl rfl) hL fun a s e_ hL=>en' (hK59 _ _ ?_)
  obtain ⟨h60,h⟩:=h
  refine rg (sx 20 (t_move (o_t 8 rfl) rfl rfl) hL fun a s e_ hL=>?_)
  refine sx 21 (t_move (o_t 6 rfl) rfl rfl) hL fun a s e_ hL=>sx 22 (t_add (o_t 20 rfl) (o_t 21 rfl) h60 rfl rfl) hL fun a s e_ hL=>sx 8 (t_assign (o_t 22 rfl) rfl rfl) hL fun a s e_ hL=>en' ?_
  exact hKL53 k52 a s (Nat.lt_succ_self _) ⟨r57,b50,(b50 + 20),hL.keep (.cons (t:=0) rfl (fun _ _ h_=>h_) (.cons (t:=1) rfl nE (.cons (t:=2) rfl nE (.cons (t:=6) rfl nE (.cons (t:=7) rfl nE (.cons (t:=8) rfl nE .nil)))))),h⟩
 ·replace h:=h.2 hb_
  refine wp_exit ?_
  exact J6 data48 a49 a s (hL.keep (.cons (t:=0) rfl (fun _ _ h_=>h_) (.cons (t:=1) rfl nE (.cons (t:=2) rfl nE (.cons (t:=6) rfl nE (.cons (t:=7) rfl nE .nil)))))) h
theorem slices_SortStableFunc_api_Class_api_Class_ok (v0 : Value) {x_ : (List Cl)} {cmp_ : (Cl × Cl × Int → Prop)} {r_ : (List Cl)} (h : slices_SortStableFunc_api_Class_api_Class x_ cmp_ r_) : Fm Tryz.prog 166 (fun b=>v0.ownBlock = some b) [(Pd.prow En.cls 51 v0 x_),(Pd.rep EnF211 cmp_)] (fun _ s' _=>(Pd.prow En.cls 51 v0 r_).p s' v0):=by
 unfold slices_SortStableFunc_api_Class_api_Class at h
 refine fm_of Tryz.func166 rfl Tryz.ntmps166 (by rfl) (by simp) fun s0 a hL=>?_
 obtain ⟨r1,h2,h⟩:=h
 refine rg (sx 4 (t_move (o_t 0 rfl) rfl rfl) hL fun a s e_ hL=>?_)
 refine sx 5 (t_move (o_t 0 rfl) rfl rfl) hL fun a s e_ hL=>sx 6 (t_leno (o_p (o_t 5 rfl)) Tryz.underlying36 rfl rfl) hL fun a s e_ hL=>sx 7 (t_move (o_t 1 rfl) rfl rfl) hL fun a s e_ hL=>st_callm (L':=[(0,(Pd.prow En.cls 51 v0 r1))]) 8 (fun v0=>slices_stableCmpFunc_api_Class_ok v0 h2) hL (fun b h=>h) (o_t 4 rfl) (zs:=[.tmp 6,.tmp 7]) (.cons (o_t 6 rfl) (.cons (o_t 7 rfl) .nil)) rfl rfl rfl rfl (.turn (t:=0) rfl .nil) fun a s hL=>?_
 refine en' ?_
 subst h
 exact retm rfl hL (c:=0) rfl
end Go.Proofs.YtahgmdbioafmbaaGreatDoor.V
namespace Go.Proofs.YtahgmdbioafmbaaGreatDoor.V
open Go
set_option linter.unusedVariables false
def class_Has (a_ : Cl) (cv_ : Int) (r_ : Bool) : Prop:=(0 ≤ (cv_ / 64) ∧ (cv_ / 64) < 4) ∧ ∃ b4 : Bool,b4 = ((andI (shrI (Cl.w a_ (cv_ / 64)) (cv_ % 64)) 1) == 1) ∧ r_ = b4
def ref01_Of.j1 (r_ : Cl) (a8 : Cl) : Prop:=r_ = a8
def ref01_Of.j2 (L1_ : Cl → Int → Prop) (w13 : Int) (a23 : Cl) : Prop:=(InR .i64 (w13 + 1)) ∧ L1_ a23 (w13 + 1)
def ref01_Of.l2 (l_ : (List Bool)) (w13 : Int) (X2 : Cl → Prop) : Nat → Cl → Int → Int → Prop
 | 0,_,_,_=>False
 | k_0 + 1,a27,bit28,i29=>((decide (i29 < 64)) = true → (InR .i64 (64 * w13)) ∧ (InR .i64 ((64 * w13) + i29)) ∧ ∃ e41 : Bool,at? l_ ((64 * w13) + i29) = some e41 ∧ ((e41) = true → (0 ≤ w13 ∧ w13 < 4) ∧ (0 ≤ w13 ∧ w13 < 4) ∧ (InR .i64 (i29 + 1)) ∧ ref01_Of.l2 l_ w13 X2 k_0 (Cl.setw a27 w13 (IntKind.wrap .u64 ((Cl.w a27 w13) + bit28))) (IntKind.wrap .u64 (bit28 * 2)) (i29 + 1)) ∧ ((e41) = false → (InR .i64 (i29 + 1)) ∧ ref01_Of.l2 l_ w13 X2 k_0 a27 (IntKind.wrap .u64 (bit28 * 2)) (i29 + 1))) ∧ ((decide (i29 < 64)) = false → X2 a27)
def ref01_Of.l1 (l_ : (List Bool)) (X1 : Cl → Prop) : Nat → Cl → Int → Prop
 | 0,_,_=>False
 | k_0 + 1,a12,w13=>((decide (w13 < 4)) = true → ∃ k30,ref01_Of.l2 l_ w13 (ref01_Of.j2 (ref01_Of.l1 l_ X1 k_0) w13) k30 a12 1 0) ∧ ((decide (w13 < 4)) = false → X1 a12)
def ref01_Of (l_ : (List Bool)) (r_ : Cl) : Prop:=∃ k14,ref01_Of.l1 l_ (ref01_Of.j1 r_) k14 (0#256) 0
def ref01_Row.j1 (r_ : Cl) (l8 : (List Bool)) : Prop:=∃ r15 : Cl,ref01_Of l8 r15 ∧ r_ = r15
def ref01_Row.l1 (to_ : Int) (X1 : (List Bool) → Prop) : Nat → (List Bool) → Int → Prop
 | 0,_,_=>False
 | k_0 + 1,l17,i19=>((decide (i19 ≤ to_)) = true → ∃ e27 : Bool,at? l17 i19 = some e27 ∧ (InR .i64 (i19 + 1)) ∧ ref01_Row.l1 to_ X1 k_0 (l17.set (i19 : Int).toNat true) (i19 + 1)) ∧ ((decide (i19 ≤ to_)) = false → X1 l17)
def ref01_Row (from_ : Int) (to_ : Int) (r_ : Cl) : Prop:=∃ k20,ref01_Row.l1 to_ (ref01_Row.j1 r_) k20 (List.replicate 256 false) from_
def class_Add.j1 (r_ : Cl) (a7 : Cl) : Prop:=r_ = a7
def class_Add.l1 (list_ : (List Int)) (X1 : Cl → Prop) : Nat → Cl → Int → Prop
 | 0,_,_=>False
 | k_0 + 1,a11,v12=>((decide (v12 < (list_.length : Int))) = true → ∃ e21 : Int,at? list_ v12 = some e21 ∧ (0 ≤ (e21 / 64) ∧ (e21 / 64) < 4) ∧ (0 ≤ (e21 / 64) ∧ (e21 / 64) < 4) ∧ (InR .i64 (v12 + 1)) ∧ class_Add.l1 list_ X1 k_0 (Cl.setw a11 (e21 / 64) (orI (Cl.w a11 (e21 / 64)) (shlI 1 (e21 % 64)))) (v12 + 1)) ∧ ((decide (v12 < (list_.length : Int))) = false → X1 a11)
def class_Add (a_ : Cl) (list_ : (List Int)) (r_ : Cl) : Prop:=∃ k13,class_Add.l1 list_ (class_Add.j1 r_) k13 a_ 0
def class_Of.j1 (r_ : Cl) (a8 : Cl) : Prop:=r_ = a8
def class_Of.l1 (from_ : Int) (to_ : Int) (X1 : Cl → Prop) : Nat → Cl → Int → Prop
 | 0,_,_=>False
 | k_0 + 1,a12,v13=>((decide (v13 < 256)) = true → ∃ b24 : Bool,b24 = ((decide (from_ ≤ v13 % 256)) && (decide (v13 % 256 ≤ to_))) ∧ ((b24) = true → ∃ r26 : Cl,class_Add a12 [v13 % 256] r26 ∧ (InR .i64 (v13 + 1)) ∧ class_Of.l1 from_ to_ X1 k_0 r26 (v13 + 1)) ∧ ((b24) = false → (InR .i64 (v13 + 1)) ∧ class_Of.l1 from_ to_ X1 k_0 a12 (v13 + 1))) ∧ ((decide (v13 < 256)) = false → X1 a12)
def class_Of (from_ : Int) (to_ : Int) (r_ : Cl) : Prop:=∃ k14,class_Of.l1 from_ to_ (class_Of.j1 r_) k14 (0#256) 0
def class_Not.j1 (r_ : Cl) (a7 : Cl) : Prop:=r_ = a7
def class_Not.l1 (X1 : Cl → Prop) : Nat → Cl → Int → Prop
 | 0,_,_=>False
 | k_0 + 1,a11,v12=>((decide (v12 < 4)) = true → (0 ≤ v12 ∧ v12 < 4) ∧ (0 ≤ v12 ∧ v12 < 4) ∧ (InR .i64 (v12 + 1)) ∧ class_Not.l1 X1 k_0 (Cl.setw a11 v12 (xorI 18446744073709551615 (Cl.w a11 v12))) (v12 + 1)) ∧ ((decide (v12 < 4)) = false → X1 a11)
def class_Not (a_ : Cl) (r_ : Cl) : Prop:=∃ k13,class_Not.l1 (class_Not.j1 r_) k13 a_ 0
def class_Both.j1 (r_ : Cl) (a7 : Cl) : Prop:=r_ = a7
def class_Both.l1 (b_ : Cl) (X1 : Cl → Prop) : Nat → Cl → Int → Prop
 | 0,_,_=>False
 | k_0 + 1,a11,v12=>((decide (v12 < 4)) = true → (0 ≤ v12 ∧ v12 < 4) ∧ (0 ≤ v12 ∧ v12 < 4) ∧ (0 ≤ v12 ∧ v12 < 4) ∧ (InR .i64 (v12 + 1)) ∧ class_Both.l1 b_ X1 k_0 (Cl.setw a11 v12 (andI (Cl.w a11 v12) (Cl.w b_ v12))) (v12 + 1)) ∧ ((decide (v12 < 4)) = false → X1 a11)
def class_Both (a_ : Cl) (b_ : Cl) (r_ : Cl) : Prop:=∃ k13,class_Both.l1 b_ (class_Both.j1 r_) k13 a_ 0
def class_Count.j1 (r_ : Int) (n5 : Int) : Prop:=r_ = n5
def class_Count.l1 (a_ : Cl) (X1 : Int → Prop) : Nat → Int → Int → Prop
 | 0,_,_=>False
 | k_0 + 1,n8,v9=>((decide (v9 < 256)) = true → ∃ r18 : Bool,class_Has a_ (v9 % 256) r18 ∧ ((r18) = true → (InR .i64 (n8 + 1)) ∧ (InR .i64 (v9 + 1)) ∧ class_Count.l1 a_ X1 k_0 (n8 + 1) (v9 + 1)) ∧ ((r18) = false → (InR .i64 (v9 + 1)) ∧ class_Count.l1 a_ X1 k_0 n8 (v9 + 1))) ∧ ((decide (v9 < 256)) = false → X1 n8)
def class_Count (a_ : Cl) (r_ : Int) : Prop:=∃ k10,class_Count.l1 a_ (class_Count.j1 r_) k10 0 0
def class_Least.j1 (r_ : (Int × Bool)) : Prop:=r_ = (0,false)
def class_Least.l1 (a_ : Cl) (r_ : (Int × Bool)) (X1 : Prop) : Nat → Int → Prop
 | 0,_=>False
 | k_0 + 1,v6=>((decide (v6 < 256)) = true → ∃ r15 : Bool,class_Has a_ (v6 % 256) r15 ∧ ((r15) = true → r_ = (v6 % 256,true)) ∧ ((r15) = false → (InR .i64 (v6 + 1)) ∧ class_Least.l1 a_ r_ X1 k_0 (v6 + 1))) ∧ ((decide (v6 < 256)) = false → X1)
def class_Least (a_ : Cl) (r_ : (Int × Bool)) : Prop:=∃ k7,class_Least.l1 a_ r_ (class_Least.j1 r_) k7 0
def ref01_Has.j1 (r_ : Bool) (w7 : Int) : Prop:=r_ = ((w7 % 2) == 1)
def ref01_Has.l1 (cv_ : Int) (X1 : Int → Prop) : Nat → Int → Int → Prop
 | 0,_,_=>False
 | k_0 + 1,w10,i11=>(0 ≤ cv_) ∧ ((decide (i11 < cv_ % 64)) = true → (InR .i64 (i11 + 1)) ∧ ref01_Has.l1 cv_ X1 k_0 (w10 / 2) (i11 + 1)) ∧ ((decide (i11 < cv_ % 64)) = false → X1 w10)
def ref01_Has (a_ : Cl) (cv_ : Int) (r_ : Bool) : Prop:=(0 ≤ cv_) ∧ (0 ≤ (cv_ / 64) ∧ (cv_ / 64) < 4) ∧ ∃ k12,ref01_Has.l1 cv_ (ref01_Has.j1 r_) k12 (Cl.w a_ (cv_ / 64)) 0
end Go.Proofs.YtahgmdbioafmbaaGreatDoor.V
namespace Go.Proofs.YtahgmdbioafmbaaGreatDoor.V
open Go
set_option linter.unusedVariables false
set_option maxRecDepth 100000
theorem class_Has_ok {a_ : Cl} {cv_ : Int} {r_ : Bool} (h : class_Has a_ cv_ r_) : Fn Tryz.prog 137 [(Pd.rep En.cls a_),(Pd.rep (En.int .u8) cv_)] (Rq (Pd.rep En.bool r_)):=by
 unfold class_Has at h
 refine fn_of Tryz.func137 rfl Tryz.ntmps137 (by rfl) (by simp) fun s0 a hL=>?_
 refine wp_seq_k fun K1 hK1=>rg (sx 2 (t_box (o_t 0 rfl) rfl rfl) hL fun a s e_ hL=>?_)
 refine sx 4 (t_assign o_b rfl rfl) hL fun a s e_ hL=>en' (hK1 _ _ ?_)
 refine wp_seq_k fun K2 hK2=>?_
 obtain ⟨h3,b4,h5,h⟩:=h
 refine rg (sx 5 (t_move (o_t 1 rfl) rfl rfl) hL fun a s e_ hL=>?_)
 refine sx 6 (t_quou (o_t 5 rfl) (o_i (k:=.u8) (by decide)) (by decide) (by decide) rfl rfl) hL fun a s e_ hL=>sx 7 (t_idxc (o_t 2 rfl) (o_t 6 rfl) h3 Tryz.underlying51 (by rfl) rfl rfl) hL fun a s e_ hL=>sx 8 (t_load ty49 (o_t 7 rfl) rfl rfl) hL fun a s e_ hL=>sx 9 (t_move (o_t 1 rfl) rfl rfl) hL fun a s e_ hL=>sx 10 (t_remu (o_t 9 rfl) (o_i (k:=.u8) (by decide)) (by decide) (by decide) rfl rfl) hL fun a s e_ hL=>sx 11 (t_shr (o_t 8 rfl) (o_t 10 rfl) (by decide) rfl rfl) hL fun a s e_ hL=>sx 12 (t_andb (o_t 11 rfl) (o_i (k:=.u64) (by decide)) rfl rfl) hL fun a s e_ hL=>sx 13 (h5 ▸ (t_eqi (o_t 12 rfl) (o_i (k:=.u64) (by decide)) rfl rfl)) hL fun a s e_ hL=>sx 4 (t_assign (o_t 13 rfl) rfl rfl) hL fun a s e_ hL=>?_
 refine en' (hK2 _ _ ?_)
 subst h
 exact wp_ret (retq rfl hL rfl)
theorem ref01_Of_ok {l_ : (List Bool)} {r_ : Cl} (h : ref01_Of l_ r_) : Fn Tryz.prog 83 [(Pd.rep (En.slice En.bool) l_)] (Rq (Pd.rep En.cls r_)):=by
 unfold ref01_Of at h
 refine fn_of Tryz.func83 rfl Tryz.ntmps83 (by rfl) (by simp) fun s0 a hL=>?_
 refine wp_seq_k fun K1 hK1=>rg (st_alloc En.cls (z:=(0#256)) 2 hL tyz51 rfl rfl rfl rfl fun a s g2 hg_ hL=>?_)
 refine en' (hK1 _ _ ?_)
 refine wp_seq_k fun K3 hK3=>rg ?_
 have lt_d5:=hL.blt 2 rfl
 refine st_alloc En.cls (z:=(0#256)) 3 hL tyz51 rfl rfl rfl rfl fun a s g4 hg_ hL=>?_
 have d5 : Dis (some g4) (some g2):=Dis.newg hg_ lt_d5
 refine en' (hK3 _ _ ?_)
 refine wp_seq_k fun K6 hK6=>wp_seq_k fun K7 hK7=>rg (sx 4 (t_assign (o_i (k:=.i64) (by decide)) rfl rfl) hL fun a s e_ hL=>?_)
 refine en' (hK7 _ _ ?_)
 refine wp_block ?_
 have J9 : ∀ (a8 : Cl) (a : Act) (s : St),Has N0 32 s0 a s [(2,(Pd.box En.cls s0.w.heap.size g2 (0#256))),(3,(Pd.box En.cls s0.w.heap.size g4 a8))] → Dis (some g2) (some g4) → ((ref01_Of.j1 r_) a8) → K6 a s.w:=by
  intro a8 a s hL d10 h
  unfold ref01_Of.j1 at h
  show K6 a s.w
  refine hK6 _ _ (wp_seq_k fun K11 hK11=>?_)
  refine rg (sx 31 (t_loadb ty51 (o_t 3 rfl) rfl rfl) hL fun a s e_ hL=>?_)
  refine st_stb (L':=[]) 2 hL rfl (o_t 31 rfl) ty51 rfl rfl rfl .nil fun s hL=>?_
  refine en' (hK11 _ _ ?_)
  subst h
  exact wp_ret (retb rfl ty51 hL rfl)
 obtain ⟨k14,h⟩:=h
 refine lpg (fun k15 a s=>∃ (a12 : Cl) (w13 : Int),Has N0 32 s0 a s [(0,(Pd.rep (En.slice En.bool) l_)),(2,(Pd.box En.cls s0.w.heap.size g2 (0#256))),(3,(Pd.box En.cls s0.w.heap.size g4 a12)),(4,(Pd.rep (En.int .i64) w13))] ∧ Dis (some g2) (some g4) ∧ ref01_Of.l1 l_ (ref01_Of.j1 r_) k15 a12 w13) k14 ⟨(0#256),0,hL.keep (.cons (t:=0) rfl nE (.cons (t:=2) rfl (fun _ _ h_=>h_) (.cons (t:=3) rfl (fun _ _ h_=>h_) (.cons (t:=4) rfl nE .nil)))),(Dis.symm d5),h⟩ ?_
 rintro k15 a s ⟨a12,w13,hL,d17,h⟩ KL16 hKL16
 cases k15 with
 | zero=>exact h.elim
 | succ k15=>
 unfold ref01_Of.l1 at h
 refine wp_seq_k fun K18 hK18=>wp_seq_k fun K19 hK19=>rg (sx 7 (t_move (o_t 4 rfl) rfl rfl) hL fun a s e_ hL=>?_)
 refine sx 8 (t_lss (o_t 7 rfl) (o_i (k:=.i64) (by decide)) rfl rfl) hL fun a s e_ hL=>en' (hK19 _ _ ?_)
 refine cnd hL rfl (fun hb_=>?_) (fun hb_=>?_)
 ·replace h:=h.1 hb_
  refine wp_skip ?_
  show K18 a s.w
  refine hK18 _ _ (wp_seq_k fun K20 hK20=>?_)
  refine wp_block (wp_seq_k fun K21 hK21=>?_)
  refine rg (sx 5 (t_assign (o_i (k:=.u64) (by decide)) rfl rfl) hL fun a s e_ hL=>?_)
  refine en' (hK21 _ _ ?_)
  refine wp_seq_k fun K22 hK22=>rg (sx 6 (t_assign (o_i (k:=.i64) (by decide)) rfl rfl) hL fun a s e_ hL=>?_)
  refine en' (hK22 _ _ ?_)
  refine wp_block ?_
  have J24 : ∀ (a23 : Cl) (a : Act) (s : St),Has N0 32 s0 a s [(0,(Pd.rep (En.slice En.bool) l_)),(2,(Pd.box En.cls s0.w.heap.size g2 (0#256))),(3,(Pd.box En.cls s0.w.heap.size g4 a23)),(4,(Pd.rep (En.int .i64) w13))] → Dis (some g2) (some g4) → ((ref01_Of.j2 (ref01_Of.l1 l_ (ref01_Of.j1 r_) k15) w13) a23) → K20 a s.w:=by
   intro a23 a s hL d25 h
   unfold ref01_Of.j2 at h
   show K20 a s.w
   refine hK20 _ _ ?_
   obtain ⟨h26,h⟩:=h
   refine rg (sx 9 (t_move (o_t 4 rfl) rfl rfl) hL fun a s e_ hL=>?_)
   refine sx 10 (t_add (o_t 9 rfl) (o_i (k:=.i64) (by decide)) h26 rfl rfl) hL fun a s e_ hL=>sx 4 (t_assign (o_t 10 rfl) rfl rfl) hL fun a s e_ hL=>en' ?_
   exact hKL16 k15 a s (Nat.lt_succ_self _) ⟨a23,(w13 + 1),hL.keep (.cons (t:=0) rfl nE (.cons (t:=2) rfl (fun _ _ h_=>h_) (.cons (t:=3) rfl (fun _ _ h_=>h_) (.cons (t:=4) rfl nE .nil)))),d25,h⟩
  obtain ⟨k30,h⟩:=h
  refine lpg (fun k31 a s=>∃ (a27 : Cl) (bit28 : Int) (i29 : Int),Has N0 32 s0 a s [(0,(Pd.rep (En.slice En.bool) l_)),(2,(Pd.box En.cls s0.w.heap.size g2 (0#256))),(3,(Pd.box En.cls s0.w.heap.size g4 a27)),(4,(Pd.rep (En.int .i64) w13)),(5,(Pd.rep (En.int .u64) bit28)),(6,(Pd.rep (En.int .i64) i29))] ∧ Dis (some g2) (some g4) ∧ ref01_Of.l2 l_ w13 (ref01_Of.j2 (ref01_Of.l1 l_ (ref01_Of.j1 r_) k15) w13) k31 a27 bit28 i29) k30 ⟨a12,1,0,hL.keep (.cons (t:=0) rfl nE (.cons (t:=2) rfl (fun _ _ h_=>h_) (.cons (t:=3) rfl (fun _ _ h_=>h_) (.cons (t:=4) rfl nE (.cons (t:=5) rfl nE (.cons (t:=6) rfl nE .nil)))))),d17,h⟩ ?_
  rintro k31 a s ⟨a27,bit28,i29,hL,d33,h⟩ KL32 hKL32
  cases k31 with
  | zero=>exact h.elim
  | succ k31=>
  unfold ref01_Of.l2 at h
  refine wp_seq_k fun K34 hK34=>wp_seq_k fun K35 hK35=>rg (sx 11 (t_move (o_t 6 rfl) rfl rfl) hL fun a s e_ hL=>?_)
  refine sx 12 (t_lss (o_t 11 rfl) (o_i (k:=.i64) (by decide)) rfl rfl) hL fun a s e_ hL=>en' (hK35 _ _ ?_)
  refine cnd hL rfl (fun hb_=>?_) (fun hb_=>?_)
  ·replace h:=h.1 hb_
   refine wp_skip ?_
   show K34 a s.w
   refine hK34 _ _ (wp_seq_k fun K36 hK36=>?_)
   refine wp_block (wp_seq_k fun K37 hK37=>?_)
   refine wp_seq_k fun K38 hK38=>?_
   obtain ⟨h39,h40,e41,h42,h⟩:=h
   refine rg (sx 15 (t_move (o_t 0 rfl) rfl rfl) hL fun a s e_ hL=>?_)
   refine sx 16 (t_move (o_t 4 rfl) rfl rfl) hL fun a s e_ hL=>sx 17 (t_mul (o_i (k:=.i64) (by decide)) (o_t 16 rfl) h39 rfl rfl) hL fun a s e_ hL=>sx 18 (t_move (o_t 6 rfl) rfl rfl) hL fun a s e_ hL=>sx 19 (t_add (o_t 17 rfl) (o_t 18 rfl) h40 rfl rfl) hL fun a s e_ hL=>sx 20 (t_idx (o_t 15 rfl) (o_t 19 rfl) h42 Tryz.underlying119 ty4 rfl rfl) hL fun a s e_ hL=>sx 21 (t_load ty4 (o_t 20 rfl) rfl rfl) hL fun a s e_ hL=>en' (hK38 _ _ ?_)
   refine cnd hL rfl (fun hb_=>?_) (fun hb_=>?_)
   ·replace h:=h.1 hb_
    obtain ⟨h43,h44,h⟩:=h
    refine rg (sx 22 (t_move (o_t 4 rfl) rfl rfl) hL fun a s e_ hL=>?_)
    refine sx 23 (t_move (o_t 4 rfl) rfl rfl) hL fun a s e_ hL=>sx 24 (t_idxcb (o_t 3 rfl) (o_t 23 rfl) h43 Tryz.underlying51 (by rfl) rfl rfl) hL fun a s e_ hL=>sx 25 (t_loado ty49 (o_t 24 rfl) rfl rfl) hL fun a s e_ hL=>sx 26 (t_move (o_t 5 rfl) rfl rfl) hL fun a s e_ hL=>sx 27 (t_addw (o_t 25 rfl) (o_t 26 rfl) rfl rfl) hL fun a s e_ hL=>sx 28 (t_idxcb (o_t 3 rfl) (o_t 22 rfl) h44 Tryz.underlying51 (by rfl) rfl rfl) hL fun a s e_ hL=>st_stob (L':=[(0,(Pd.rep (En.slice En.bool) l_)),(2,(Pd.box En.cls s0.w.heap.size g2 (0#256))),(4,(Pd.rep (En.int .i64) w13)),(5,(Pd.rep (En.int .u64) bit28)),(6,(Pd.rep (En.int .i64) i29))]) 3 hL rfl (o_t 28 rfl) (o_t 27 rfl) (sub_cls h44) ty49 rfl rfl rfl (.cons (t:=0) rfl nE (.cons (t:=2) rfl (Dis.bx d33) (.cons (t:=4) rfl nE (.cons (t:=5) rfl nE (.cons (t:=6) rfl nE .nil))))) fun s hL=>?_
    refine en' (hK37 _ _ ?_)
    refine rg (sx 29 (t_move (o_t 5 rfl) rfl rfl) hL fun a s e_ hL=>?_)
    refine sx 30 (t_mulw (o_t 29 rfl) (o_i (k:=.u64) (by decide)) rfl rfl) hL fun a s e_ hL=>sx 5 (t_assign (o_t 30 rfl) rfl rfl) hL fun a s e_ hL=>en' (hK36 _ _ ?_)
    obtain ⟨h45,h⟩:=h
    refine rg (sx 13 (t_move (o_t 6 rfl) rfl rfl) hL fun a s e_ hL=>?_)
    refine sx 14 (t_add (o_t 13 rfl) (o_i (k:=.i64) (by decide)) h45 rfl rfl) hL fun a s e_ hL=>sx 6 (t_assign (o_t 14 rfl) rfl rfl) hL fun a s e_ hL=>en' ?_
    exact hKL32 k31 a s (Nat.lt_succ_self _) ⟨(Cl.setw a27 w13 (IntKind.wrap .u64 ((Cl.w a27 w13) + bit28))),(IntKind.wrap .u64 (bit28 * 2)),(i29 + 1),hL.keep (.cons (t:=0) rfl nE (.cons (t:=2) rfl (fun _ _ h_=>h_) (.cons (t:=3) rfl (fun _ _ h_=>h_) (.cons (t:=4) rfl nE (.cons (t:=5) rfl nE (.cons (t:=6) rfl nE .nil)))))),d33,h⟩
   ·replace h:=h.2 hb_
    refine wp_skip ?_
    show K37 a s.w
    refine hK37 _ _ (rg ?_)
    refine sx 29 (t_move (o_t 5 rfl) rfl rfl) hL fun a s e_ hL=>sx 30 (t_mulw (o_t 29 rfl) (o_i (k:=.u64) (by decide)) rfl rfl) hL fun a s e_ hL=>sx 5 (t_assign (o_t 30 rfl) rfl rfl) hL fun a s e_ hL=>en' (hK36 _ _ ?_)
    obtain ⟨h46,h⟩:=h
    refine rg (sx 13 (t_move (o_t 6 rfl) rfl rfl) hL fun a s e_ hL=>?_)
    refine sx 14 (t_add (o_t 13 rfl) (o_i (k:=.i64) (by decide)) h46 rfl rfl) hL fun a s e_ hL=>sx 6 (t_assign (o_t 14 rfl) rfl rfl) hL fun a s e_ hL=>en' ?_
    exact hKL32 k31 a s (Nat.lt_succ_self _) ⟨a27,(IntKind.wrap .u64 (bit28 * 2)),(i29 + 1),hL.keep (.cons (t:=0) rfl nE (.cons (t:=2) rfl (fun _ _ h_=>h_) (.cons (t:=3) rfl (fun _ _ h_=>h_) (.cons (t:=4) rfl nE (.cons (t:=5) rfl nE (.cons (t:=6) rfl nE .nil)))))),d33,h⟩
  ·replace h:=h.2 hb_
   refine wp_exit ?_
   exact J24 a27 a s (hL.keep (.cons (t:=0) rfl nE (.cons (t:=2) rfl (fun _ _ h_=>h_) (.cons (t:=3) rfl (fun _ _ h_=>h_) (.cons (t:=4) rfl nE .nil))))) d33 h
 ·replace h:=h.2 hb_
  refine wp_exit ?_
  exact J9 a12 a s (hL.keep (.cons (t:=2) rfl (fun _ _ h_=>h_) (.cons (t:=3) rfl (fun _ _ h_=>h_) .nil))) d17 h
theorem ref01_Row_ok {from_ : Int} {to_ : Int} {r_ : Cl} (h : ref01_Row from_ to_ r_) : Fn Tryz.prog 47 [(Pd.rep (En.int .u8) from_),(Pd.rep (En.int .u8) to_)] (Rq (Pd.rep En.cls r_)):=by
 unfold ref01_Row at h
 refine fn_of Tryz.func47 rfl Tryz.ntmps47 (by rfl) (by simp) fun s0 a hL=>?_
 refine wp_seq_k fun K1 hK1=>rg (st_alloc En.cls (z:=(0#256)) 4 hL tyz51 rfl rfl rfl rfl fun a s g2 hg_ hL=>?_)
 refine en' (hK1 _ _ ?_)
 refine wp_seq_k fun K3 hK3=>rg ?_
 have lt_d5:=hL.blt 4 rfl
 refine st_make En.bool (z:=false) (m:=256) 7 hL (o_i (k:=.i64) (by decide)) (o_i (k:=.i64) (by decide)) (by decide) Tryz.underlying119 ty4 tyz4 rfl rfl rfl rfl fun a s g4 hg_ hL=>?_
 have d5 : Dis (some g4) (some g2):=Dis.newg hg_ lt_d5
 refine sx 5 (t_assign (o_t 7 rfl) rfl rfl) hL fun a s e_ hL=>en' (hK3 _ _ ?_)
 refine wp_seq_k fun K6 hK6=>wp_seq_k fun K7 hK7=>rg (sx 8 (t_move (o_t 0 rfl) rfl rfl) hL fun a s e_ hL=>?_)
 refine sx 9 (t_up (o_t 8 rfl) (by decide) Tryz.underlying5 Tryz.underlying3 rfl rfl) hL fun a s e_ hL=>sx 6 (t_assign (o_t 9 rfl) rfl rfl) hL fun a s e_ hL=>en' (hK7 _ _ ?_)
 refine wp_block ?_
 have J10 : ∀ (l8 : (List Bool)) (og9 : Option Nat) (a : Act) (s : St),Has N0 21 s0 a s [(4,(Pd.box En.cls s0.w.heap.size g2 (0#256))),(5,(Pd.row En.bool s0.w.heap.size 4 og9 l8))] → Dis (some g2) og9 → ((ref01_Row.j1 r_) l8) → K6 a s.w:=by
  intro l8 og9 a s hL d11 h
  unfold ref01_Row.j1 at h
  show K6 a s.w
  refine hK6 _ _ (wp_seq_k fun K12 hK12=>?_)
  obtain ⟨s14,h13,hL⟩:=hL.freeze (L':=[(4,(Pd.box En.cls s0.w.heap.size g2 (0#256)))]) 5 rfl (.cons (t:=4) rfl (Dis.bx d11) .nil)
  rw [← h13]
  clear h13
  generalize s14 = s at *
  obtain ⟨r15,h16,h⟩:=h
  refine rg (sx 19 (t_move (o_t 5 rfl) rfl rfl) hL fun a s e_ hL=>?_)
  refine sx 20 (t_call (ref01_Of_ok h16) (xs:=[.tmp 19]) (.cons (o_t 19 rfl) .nil) rfl rfl) hL fun a s e_ hL=>st_stb (L':=[]) 4 hL rfl (o_t 20 rfl) ty51 rfl rfl rfl .nil fun s hL=>?_
  refine en' (hK12 _ _ ?_)
  subst h
  exact wp_ret (retb rfl ty51 hL rfl)
 obtain ⟨k20,h⟩:=h
 refine lpg (fun k21 a s=>∃ (l17 : (List Bool)) (i19 : Int) (og18 : Option Nat),Has N0 21 s0 a s [(1,(Pd.rep (En.int .u8) to_)),(4,(Pd.box En.cls s0.w.heap.size g2 (0#256))),(5,(Pd.row En.bool s0.w.heap.size 4 og18 l17)),(6,(Pd.rep (En.int .i64) i19))] ∧ Dis (some g2) og18 ∧ ref01_Row.l1 to_ (ref01_Row.j1 r_) k21 l17 i19) k20 ⟨(List.replicate 256 false),from_,(some g4),hL.keep (.cons (t:=1) rfl nE (.cons (t:=4) rfl (fun _ _ h_=>h_) (.cons (t:=5) rfl (fun _ _ h_=>h_) (.cons (t:=6) rfl nE .nil)))),(Dis.symm d5),h⟩ ?_
 rintro k21 a s ⟨l17,i19,og18,hL,d23,h⟩ KL22 hKL22
 cases k21 with
 | zero=>exact h.elim
 | succ k21=>
 unfold ref01_Row.l1 at h
 refine wp_seq_k fun K24 hK24=>wp_seq_k fun K25 hK25=>rg (sx 10 (t_move (o_t 6 rfl) rfl rfl) hL fun a s e_ hL=>?_)
 refine sx 11 (t_move (o_t 1 rfl) rfl rfl) hL fun a s e_ hL=>sx 12 (t_up (o_t 11 rfl) (by decide) Tryz.underlying5 Tryz.underlying3 rfl rfl) hL fun a s e_ hL=>sx 13 (t_leq (o_t 10 rfl) (o_t 12 rfl) rfl rfl) hL fun a s e_ hL=>en' (hK25 _ _ ?_)
 refine cnd hL rfl (fun hb_=>?_) (fun hb_=>?_)
 ·replace h:=h.1 hb_
  refine wp_skip ?_
  show K24 a s.w
  refine hK24 _ _ (wp_seq_k fun K26 hK26=>?_)
  refine wp_block ?_
  obtain ⟨e27,h28,h⟩:=h
  refine rg (sx 16 (t_move (o_t 5 rfl) rfl rfl) hL fun a s e_ hL=>?_)
  refine sx 17 (t_move (o_t 6 rfl) rfl rfl) hL fun a s e_ hL=>sx 18 (t_idxo (o_t 16 rfl) (o_t 17 rfl) h28 Tryz.underlying119 ty4 rfl rfl) hL fun a s e_ hL=>st_stor (L':=[(1,(Pd.rep (En.int .u8) to_)),(4,(Pd.box En.cls s0.w.heap.size g2 (0#256))),(5,(Pd.row En.bool s0.w.heap.size 4 og18 (l17.set (i19 : Int).toNat true))),(6,(Pd.rep (En.int .i64) i19))]) (off:=0) 5 hL rfl h28 (o_t 18 rfl) o_b (sub_all _ _ _) ty4 rfl rfl rfl (.cons (t:=1) rfl nE (.cons (t:=4) rfl (Dis.bx d23) (.turn (t:=5) rfl (.cons (t:=6) rfl nE .nil)))) fun s hL=>?_
  refine en' (hK26 _ _ ?_)
  obtain ⟨h29,h⟩:=h
  refine rg (sx 14 (t_move (o_t 6 rfl) rfl rfl) hL fun a s e_ hL=>?_)
  refine sx 15 (t_add (o_t 14 rfl) (o_i (k:=.i64) (by decide)) h29 rfl rfl) hL fun a s e_ hL=>sx 6 (t_assign (o_t 15 rfl) rfl rfl) hL fun a s e_ hL=>en' ?_
  exact hKL22 k21 a s (Nat.lt_succ_self _) ⟨(l17.set (i19 : Int).toNat true),(i19 + 1),og18,hL.keep (.cons (t:=1) rfl nE (.cons (t:=4) rfl (fun _ _ h_=>h_) (.cons (t:=5) rfl (fun _ _ h_=>h_) (.cons (t:=6) rfl nE .nil)))),d23,h⟩
 ·replace h:=h.2 hb_
  refine wp_exit ?_
  exact J10 l17 og18 a s (hL.keep (.cons (t:=4) rfl (fun _ _ h_=>h_) (.cons (t:=5) rfl (fun _ _ h_=>h_) .nil))) d23 h
theorem class_Add_ok {a_ : Cl} {list_ : (List Int)} {r_ : Cl} (h : class_Add a_ list_ r_) : Fn Tryz.prog 138 [(Pd.rep En.cls a_),(Pd.rep (En.slice (En.int .u8)) list_)] (Rq (Pd.rep En.cls r_)):=by
 unfold class_Add at h
 refine fn_of Tryz.func138 rfl Tryz.ntmps138 (by rfl) (by simp) fun s0 a hL=>?_
 refine wp_seq_k fun K1 hK1=>rg (st_boxm 2 hL (o_t 0 rfl) rfl rfl rfl rfl fun a s g2 hg_ hL=>?_)
 have lt_d4:=hL.blt 2 rfl
 refine st_alloc En.cls (z:=(0#256)) 4 hL tyz51 rfl rfl rfl rfl fun a s g3 hg_ hL=>?_
 have d4 : Dis (some g3) (some g2):=Dis.newg hg_ lt_d4
 refine en' (hK1 _ _ ?_)
 refine wp_seq_k fun K5 hK5=>wp_seq_k fun K6 hK6=>rg (sx 7 (t_move (o_t 1 rfl) rfl rfl) hL fun a s e_ hL=>?_)
 refine sx 8 (t_len (o_t 7 rfl) Tryz.underlying26 rfl rfl) hL fun a s e_ hL=>sx 9 (t_move (o_i (k:=.i64) (by decide)) rfl rfl) hL fun a s e_ hL=>en' (hK6 _ _ ?_)
 refine wp_block ?_
 have J8 : ∀ (a7 : Cl) (a : Act) (s : St),Has N0 24 s0 a s [(2,(Pd.box En.cls s0.w.heap.size g2 a7)),(4,(Pd.box En.cls s0.w.heap.size g3 (0#256)))] → Dis (some g2) (some g3) → ((class_Add.j1 r_) a7) → K5 a s.w:=by
  intro a7 a s hL d9 h
  unfold class_Add.j1 at h
  show K5 a s.w
  refine hK5 _ _ (wp_seq_k fun K10 hK10=>?_)
  refine rg (sx 23 (t_loadb ty51 (o_t 2 rfl) rfl rfl) hL fun a s e_ hL=>?_)
  refine st_stb (L':=[]) 4 hL rfl (o_t 23 rfl) ty51 rfl rfl rfl .nil fun s hL=>?_
  refine en' (hK10 _ _ ?_)
  subst h
  exact wp_ret (retb rfl ty51 hL rfl)
 obtain ⟨k13,h⟩:=h
 refine lpg (fun k14 a s=>∃ (a11 : Cl) (v12 : Int),Has N0 24 s0 a s [(2,(Pd.box En.cls s0.w.heap.size g2 a11)),(4,(Pd.box En.cls s0.w.heap.size g3 (0#256))),(7,(Pd.rep (En.slice (En.int .u8)) list_)),(8,(Pd.rep (En.int .i64) (list_.length : Int))),(9,(Pd.rep (En.int .i64) v12))] ∧ Dis (some g2) (some g3) ∧ class_Add.l1 list_ (class_Add.j1 r_) k14 a11 v12) k13 ⟨a_,0,hL.keep (.cons (t:=2) rfl (fun _ _ h_=>h_) (.cons (t:=4) rfl (fun _ _ h_=>h_) (.cons (t:=7) rfl nE (.cons (t:=8) rfl nE (.cons (t:=9) rfl nE .nil))))),(Dis.symm d4),h⟩ ?_
 rintro k14 a s ⟨a11,v12,hL,d16,h⟩ KL15 hKL15
 cases k14 with
 | zero=>exact h.elim
 | succ k14=>
 unfold class_Add.l1 at h
 refine wp_seq_k fun K17 hK17=>rg (sx 10 (t_lss (o_t 9 rfl) (o_t 8 rfl) rfl rfl) hL fun a s e_ hL=>?_)
 refine en' (hK17 _ _ ?_)
 refine wp_seq_k fun K18 hK18=>cnd hL rfl (fun hb_=>?_) (fun hb_=>?_)
 ·replace h:=h.1 hb_
  refine wp_skip ?_
  show K18 a s.w
  refine hK18 _ _ (wp_seq_k fun K19 hK19=>?_)
  refine wp_block (wp_seq_k fun K20 hK20=>?_)
  obtain ⟨e21,h22,h⟩:=h
  refine rg (sx 11 (t_idx (o_t 7 rfl) (o_t 9 rfl) h22 Tryz.underlying26 ty5 rfl rfl) hL fun a s e_ hL=>?_)
  refine sx 12 (t_load ty5 (o_t 11 rfl) rfl rfl) hL fun a s e_ hL=>sx 6 (t_assign (o_t 12 rfl) rfl rfl) hL fun a s e_ hL=>en' (hK20 _ _ ?_)
  obtain ⟨h23,h24,h⟩:=h
  refine rg (sx 13 (t_move (o_t 6 rfl) rfl rfl) hL fun a s e_ hL=>?_)
  refine sx 14 (t_quou (o_t 13 rfl) (o_i (k:=.u8) (by decide)) (by decide) (by decide) rfl rfl) hL fun a s e_ hL=>sx 15 (t_idxcb (o_t 2 rfl) (o_t 14 rfl) h23 Tryz.underlying51 (by rfl) rfl rfl) hL fun a s e_ hL=>sx 16 (t_loado ty49 (o_t 15 rfl) rfl rfl) hL fun a s e_ hL=>sx 17 (t_move (o_t 6 rfl) rfl rfl) hL fun a s e_ hL=>sx 18 (t_remu (o_t 17 rfl) (o_i (k:=.u8) (by decide)) (by decide) (by decide) rfl rfl) hL fun a s e_ hL=>sx 19 (t_shl (o_i (k:=.u64) (by decide)) (o_t 18 rfl) (by decide) rfl rfl) hL fun a s e_ hL=>sx 20 (t_orb (o_t 16 rfl) (o_t 19 rfl) rfl rfl) hL fun a s e_ hL=>sx 21 (t_idxcb (o_t 2 rfl) (o_t 14 rfl) h24 Tryz.underlying51 (by rfl) rfl rfl) hL fun a s e_ hL=>st_stob (L':=[(4,(Pd.box En.cls s0.w.heap.size g3 (0#256))),(7,(Pd.rep (En.slice (En.int .u8)) list_)),(8,(Pd.rep (En.int .i64) (list_.length : Int))),(9,(Pd.rep (En.int .i64) v12))]) 2 hL rfl (o_t 21 rfl) (o_t 20 rfl) (sub_cls h24) ty49 rfl rfl rfl (.cons (t:=4) rfl (Dis.bx d4) (.cons (t:=7) rfl nE (.cons (t:=8) rfl nE (.cons (t:=9) rfl nE .nil)))) fun s hL=>?_
  refine en' (hK19 _ _ ?_)
  obtain ⟨h25,h⟩:=h
  refine rg (sx 22 (t_add (o_t 9 rfl) (o_i (k:=.i64) (by decide)) h25 rfl rfl) hL fun a s e_ hL=>?_)
  refine sx 9 (t_move (o_t 22 rfl) rfl rfl) hL fun a s e_ hL=>en' ?_
  exact hKL15 k14 a s (Nat.lt_succ_self _) ⟨(Cl.setw a11 (e21 / 64) (orI (Cl.w a11 (e21 / 64)) (shlI 1 (e21 % 64)))),(v12 + 1),hL.keep (.cons (t:=2) rfl (fun _ _ h_=>h_) (.cons (t:=4) rfl (fun _ _ h_=>h_) (.cons (t:=7) rfl nE (.cons (t:=8) rfl nE (.cons (t:=9) rfl nE .nil))))),d16,h⟩
 ·replace h:=h.2 hb_
  refine wp_exit ?_
  exact J8 a11 a s (hL.keep (.cons (t:=2) rfl (fun _ _ h_=>h_) (.cons (t:=4) rfl (fun _ _ h_=>h_) .nil))) d16 h
theorem class_Of_ok {from_ : Int} {to_ : Int} {r_ : Cl} (h : class_Of from_ to_ r_) : Fn Tryz.prog 105 [(Pd.rep (En.int .u8) from_),(Pd.rep (En.int .u8) to_)] (Rq (Pd.rep En.cls r_)):=by
 unfold class_Of at h
 refine fn_of Tryz.func105 rfl Tryz.ntmps105 (by rfl) (by simp) fun s0 a hL=>?_
 refine wp_seq_k fun K1 hK1=>rg (st_alloc En.cls (z:=(0#256)) 4 hL tyz51 rfl rfl rfl rfl fun a s g2 hg_ hL=>?_)
 refine en' (hK1 _ _ ?_)
 refine wp_seq_k fun K3 hK3=>rg ?_
 have lt_d5:=hL.blt 4 rfl
 refine st_alloc En.cls (z:=(0#256)) 5 hL tyz51 rfl rfl rfl rfl fun a s g4 hg_ hL=>?_
 have d5 : Dis (some g4) (some g2):=Dis.newg hg_ lt_d5
 refine en' (hK3 _ _ ?_)
 refine wp_seq_k fun K6 hK6=>wp_seq_k fun K7 hK7=>rg (sx 8 (t_move (o_i (k:=.i64) (by decide)) rfl rfl) hL fun a s e_ hL=>?_)
 refine en' (hK7 _ _ ?_)
 refine wp_block ?_
 have J9 : ∀ (a8 : Cl) (a : Act) (s : St),Has N0 27 s0 a s [(4,(Pd.box En.cls s0.w.heap.size g2 (0#256))),(5,(Pd.box En.cls s0.w.heap.size g4 a8))] → Dis (some g2) (some g4) → ((class_Of.j1 r_) a8) → K6 a s.w:=by
  intro a8 a s hL d10 h
  unfold class_Of.j1 at h
  show K6 a s.w
  refine hK6 _ _ (wp_seq_k fun K11 hK11=>?_)
  refine rg (sx 26 (t_loadb ty51 (o_t 5 rfl) rfl rfl) hL fun a s e_ hL=>?_)
  refine st_stb (L':=[]) 4 hL rfl (o_t 26 rfl) ty51 rfl rfl rfl .nil fun s hL=>?_
  refine en' (hK11 _ _ ?_)
  subst h
  exact wp_ret (retb rfl ty51 hL rfl)
 obtain ⟨k14,h⟩:=h
 refine lpg (fun k15 a s=>∃ (a12 : Cl) (v13 : Int),Has N0 27 s0 a s [(0,(Pd.rep (En.int .u8) from_)),(1,(Pd.rep (En.int .u8) to_)),(4,(Pd.box En.cls s0.w.heap.size g2 (0#256))),(5,(Pd.box En.cls s0.w.heap.size g4 a12)),(8,(Pd.rep (En.int .i64) v13))] ∧ Dis (some g2) (some g4) ∧ class_Of.l1 from_ to_ (class_Of.j1 r_) k15 a12 v13) k14 ⟨(0#256),0,hL.keep (.cons (t:=0) rfl nE (.cons (t:=1) rfl nE (.cons (t:=4) rfl (fun _ _ h_=>h_) (.cons (t:=5) rfl (fun _ _ h_=>h_) (.cons (t:=8) rfl nE .nil))))),(Dis.symm d5),h⟩ ?_
 rintro k15 a s ⟨a12,v13,hL,d17,h⟩ KL16 hKL16
 cases k15 with
 | zero=>exact h.elim
 | succ k15=>
 unfold class_Of.l1 at h
 refine wp_seq_k fun K18 hK18=>rg (sx 9 (t_lss (o_t 8 rfl) (o_i (k:=.i64) (by decide)) rfl rfl) hL fun a s e_ hL=>?_)
 refine en' (hK18 _ _ ?_)
 refine wp_seq_k fun K19 hK19=>cnd hL rfl (fun hb_=>?_) (fun hb_=>?_)
 ·replace h:=h.1 hb_
  refine wp_skip ?_
  show K19 a s.w
  refine hK19 _ _ (wp_seq_k fun K20 hK20=>?_)
  refine wp_block (wp_seq_k fun K21 hK21=>?_)
  refine rg (sx 10 (t_move (o_t 8 rfl) rfl rfl) hL fun a s e_ hL=>?_)
  refine sx 6 (t_assign (o_t 10 rfl) rfl rfl) hL fun a s e_ hL=>en' (hK21 _ _ ?_)
  refine wp_seq_k fun K22 hK22=>rg (sx 11 (t_move (o_t 6 rfl) rfl rfl) hL fun a s e_ hL=>?_)
  refine sx 12 (t_u8 (o_t 11 rfl) Tryz.underlying3 Tryz.underlying5 rfl rfl) hL fun a s e_ hL=>sx 7 (t_assign (o_t 12 rfl) rfl rfl) hL fun a s e_ hL=>en' (hK22 _ _ ?_)
  refine wp_seq_k fun K23 hK23=>?_
  obtain ⟨b24,h25,h⟩:=h
  refine rg (sx 13 (t_move (o_t 7 rfl) rfl rfl) hL fun a s e_ hL=>?_)
  refine sx 14 (t_move (o_t 0 rfl) rfl rfl) hL fun a s e_ hL=>sx 15 (t_geq (o_t 13 rfl) (o_t 14 rfl) rfl rfl) hL fun a s e_ hL=>sx 16 (t_move (o_t 15 rfl) rfl rfl) hL fun a s e_ hL=>sx 17 (t_g1 rfl rfl rfl (fun hc_=>t_move (o_t 7 rfl) rfl rfl)) hL fun a s e_ hL=>sx 18 (t_g1 rfl rfl rfl (fun hc_=>t_move (o_t 1 rfl) rfl rfl)) hL fun a s e_ hL=>sx 19 (t_g1 rfl rfl rfl (fun hc_=>t_leq (o_w hc_ 17 rfl) (o_w hc_ 18 rfl) rfl rfl)) hL fun a s e_ hL=>sx 20 (h25 ▸ (t_and (o_t 16 rfl) (fun hc2_=>(o_w hc2_ 19 rfl)) rfl rfl)) hL fun a s e_ hL=>en' (hK23 _ _ ?_)
  refine cnd hL rfl (fun hb_=>?_) (fun hb_=>?_)
  ·replace h:=h.1 hb_
   obtain ⟨r26,h27,h⟩:=h
   refine rg (sx 21 (t_loadb ty51 (o_t 5 rfl) rfl rfl) hL fun a s e_ hL=>?_)
   refine sx 22 (t_move (o_t 7 rfl) rfl rfl) hL fun a s e_ hL=>sx 23 (t_lit (xs:=[.tmp 22]) (.cons (o_t 22 rfl) .nil) Tryz.underlying26 ty5 rfl rfl (by decide) rfl rfl) hL fun a s e_ hL=>sx 24 (t_call (class_Add_ok h27) (xs:=[.tmp 21,.tmp 23]) (.cons (o_t 21 rfl) (.cons (o_t 23 rfl) .nil)) rfl rfl) hL fun a s e_ hL=>st_stb (L':=[(0,(Pd.rep (En.int .u8) from_)),(1,(Pd.rep (En.int .u8) to_)),(4,(Pd.box En.cls s0.w.heap.size g2 (0#256))),(8,(Pd.rep (En.int .i64) v13))]) 5 hL rfl (o_t 24 rfl) ty51 rfl rfl rfl (.cons (t:=0) rfl nE (.cons (t:=1) rfl nE (.cons (t:=4) rfl (Dis.bx d17) (.cons (t:=8) rfl nE .nil)))) fun s hL=>?_
   refine en' (hK20 _ _ ?_)
   obtain ⟨h28,h⟩:=h
   refine rg (sx 25 (t_add (o_t 8 rfl) (o_i (k:=.i64) (by decide)) h28 rfl rfl) hL fun a s e_ hL=>?_)
   refine sx 8 (t_move (o_t 25 rfl) rfl rfl) hL fun a s e_ hL=>en' ?_
   exact hKL16 k15 a s (Nat.lt_succ_self _) ⟨r26,(v13 + 1),hL.keep (.cons (t:=0) rfl nE (.cons (t:=1) rfl nE (.cons (t:=4) rfl (fun _ _ h_=>h_) (.cons (t:=5) rfl (fun _ _ h_=>h_) (.cons (t:=8) rfl nE .nil))))),d17,h⟩
  ·replace h:=h.2 hb_
   refine wp_skip ?_
   show K20 a s.w
   refine hK20 _ _ ?_
   obtain ⟨h29,h⟩:=h
   refine rg (sx 25 (t_add (o_t 8 rfl) (o_i (k:=.i64) (by decide)) h29 rfl rfl) hL fun a s e_ hL=>?_)
   refine sx 8 (t_move (o_t 25 rfl) rfl rfl) hL fun a s e_ hL=>en' ?_
   exact hKL16 k15 a s (Nat.lt_succ_self _) ⟨a12,(v13 + 1),hL.keep (.cons (t:=0) rfl nE (.cons (t:=1) rfl nE (.cons (t:=4) rfl (fun _ _ h_=>h_) (.cons (t:=5) rfl (fun _ _ h_=>h_) (.cons (t:=8) rfl nE .nil))))),d17,h⟩
 ·replace h:=h.2 hb_
  refine wp_exit ?_
  exact J9 a12 a s (hL.keep (.cons (t:=4) rfl (fun _ _ h_=>h_) (.cons (t:=5) rfl (fun _ _ h_=>h_) .nil))) d17 h
theorem class_Not_ok {a_ : Cl} {r_ : Cl} (h : class_Not a_ r_) : Fn Tryz.prog 135 [(Pd.rep En.cls a_)] (Rq (Pd.rep En.cls r_)):=by
 unfold class_Not at h
 refine fn_of Tryz.func135 rfl Tryz.ntmps135 (by rfl) (by simp) fun s0 a hL=>?_
 refine wp_seq_k fun K1 hK1=>rg (st_boxm 1 hL (o_t 0 rfl) rfl rfl rfl rfl fun a s g2 hg_ hL=>?_)
 have lt_d4:=hL.blt 1 rfl
 refine st_alloc En.cls (z:=(0#256)) 2 hL tyz51 rfl rfl rfl rfl fun a s g3 hg_ hL=>?_
 have d4 : Dis (some g3) (some g2):=Dis.newg hg_ lt_d4
 refine en' (hK1 _ _ ?_)
 refine wp_seq_k fun K5 hK5=>wp_seq_k fun K6 hK6=>rg (sx 4 (t_move (o_i (k:=.i64) (by decide)) rfl rfl) hL fun a s e_ hL=>?_)
 refine en' (hK6 _ _ ?_)
 refine wp_block ?_
 have J8 : ∀ (a7 : Cl) (a : Act) (s : St),Has N0 15 s0 a s [(1,(Pd.box En.cls s0.w.heap.size g2 a7)),(2,(Pd.box En.cls s0.w.heap.size g3 (0#256)))] → Dis (some g2) (some g3) → ((class_Not.j1 r_) a7) → K5 a s.w:=by
  intro a7 a s hL d9 h
  unfold class_Not.j1 at h
  show K5 a s.w
  refine hK5 _ _ (wp_seq_k fun K10 hK10=>?_)
  refine rg (sx 14 (t_loadb ty51 (o_t 1 rfl) rfl rfl) hL fun a s e_ hL=>?_)
  refine st_stb (L':=[]) 2 hL rfl (o_t 14 rfl) ty51 rfl rfl rfl .nil fun s hL=>?_
  refine en' (hK10 _ _ ?_)
  subst h
  exact wp_ret (retb rfl ty51 hL rfl)
 obtain ⟨k13,h⟩:=h
 refine lpg (fun k14 a s=>∃ (a11 : Cl) (v12 : Int),Has N0 15 s0 a s [(1,(Pd.box En.cls s0.w.heap.size g2 a11)),(2,(Pd.box En.cls s0.w.heap.size g3 (0#256))),(4,(Pd.rep (En.int .i64) v12))] ∧ Dis (some g2) (some g3) ∧ class_Not.l1 (class_Not.j1 r_) k14 a11 v12) k13 ⟨a_,0,hL.keep (.cons (t:=1) rfl (fun _ _ h_=>h_) (.cons (t:=2) rfl (fun _ _ h_=>h_) (.cons (t:=4) rfl nE .nil))),(Dis.symm d4),h⟩ ?_
 rintro k14 a s ⟨a11,v12,hL,d16,h⟩ KL15 hKL15
 cases k14 with
 | zero=>exact h.elim
 | succ k14=>
 unfold class_Not.l1 at h
 refine wp_seq_k fun K17 hK17=>rg (sx 5 (t_lss (o_t 4 rfl) (o_i (k:=.i64) (by decide)) rfl rfl) hL fun a s e_ hL=>?_)
 refine en' (hK17 _ _ ?_)
 refine wp_seq_k fun K18 hK18=>cnd hL rfl (fun hb_=>?_) (fun hb_=>?_)
 ·replace h:=h.1 hb_
  refine wp_skip ?_
  show K18 a s.w
  refine hK18 _ _ (wp_seq_k fun K19 hK19=>?_)
  refine wp_block (wp_seq_k fun K20 hK20=>?_)
  refine rg (sx 6 (t_move (o_t 4 rfl) rfl rfl) hL fun a s e_ hL=>?_)
  refine sx 3 (t_assign (o_t 6 rfl) rfl rfl) hL fun a s e_ hL=>en' (hK20 _ _ ?_)
  obtain ⟨h21,h22,h⟩:=h
  refine rg (sx 7 (t_move (o_t 3 rfl) rfl rfl) hL fun a s e_ hL=>?_)
  refine sx 8 (t_move (o_t 3 rfl) rfl rfl) hL fun a s e_ hL=>sx 9 (t_idxcb (o_t 1 rfl) (o_t 8 rfl) h21 Tryz.underlying51 (by rfl) rfl rfl) hL fun a s e_ hL=>sx 10 (t_loado ty49 (o_t 9 rfl) rfl rfl) hL fun a s e_ hL=>sx 11 (t_com (o_t 10 rfl) rfl rfl) hL fun a s e_ hL=>sx 12 (t_idxcb (o_t 1 rfl) (o_t 7 rfl) h22 Tryz.underlying51 (by rfl) rfl rfl) hL fun a s e_ hL=>st_stob (L':=[(2,(Pd.box En.cls s0.w.heap.size g3 (0#256))),(4,(Pd.rep (En.int .i64) v12))]) 1 hL rfl (o_t 12 rfl) (o_t 11 rfl) (sub_cls h22) ty49 rfl rfl rfl (.cons (t:=2) rfl (Dis.bx d4) (.cons (t:=4) rfl nE .nil)) fun s hL=>?_
  refine en' (hK19 _ _ ?_)
  obtain ⟨h23,h⟩:=h
  refine rg (sx 13 (t_add (o_t 4 rfl) (o_i (k:=.i64) (by decide)) h23 rfl rfl) hL fun a s e_ hL=>?_)
  refine sx 4 (t_move (o_t 13 rfl) rfl rfl) hL fun a s e_ hL=>en' ?_
  exact hKL15 k14 a s (Nat.lt_succ_self _) ⟨(Cl.setw a11 v12 (xorI 18446744073709551615 (Cl.w a11 v12))),(v12 + 1),hL.keep (.cons (t:=1) rfl (fun _ _ h_=>h_) (.cons (t:=2) rfl (fun _ _ h_=>h_) (.cons (t:=4) rfl nE .nil))),d16,h⟩
 ·replace h:=h.2 hb_
  refine wp_exit ?_
  exact J8 a11 a s (hL.keep (.cons (t:=1) rfl (fun _ _ h_=>h_) (.cons (t:=2) rfl (fun _ _ h_=>h_) .nil))) d16 h
theorem class_Both_ok {a_ : Cl} {b_ : Cl} {r_ : Cl} (h : class_Both a_ b_ r_) : Fn Tryz.prog 163 [(Pd.rep En.cls a_),(Pd.rep En.cls b_)] (Rq (Pd.rep En.cls r_)):=by
 unfold class_Both at h
 refine fn_of Tryz.func163 rfl Tryz.ntmps163 (by rfl) (by simp) fun s0 a hL=>?_
 refine wp_seq_k fun K1 hK1=>rg (st_boxm 2 hL (o_t 0 rfl) rfl rfl rfl rfl fun a s g2 hg_ hL=>?_)
 refine sx 3 (t_box (o_t 1 rfl) rfl rfl) hL fun a s e_ hL=>?_
 have lt_d4:=hL.blt 2 rfl
 refine st_alloc En.cls (z:=(0#256)) 4 hL tyz51 rfl rfl rfl rfl fun a s g3 hg_ hL=>?_
 have d4 : Dis (some g3) (some g2):=Dis.newg hg_ lt_d4
 refine en' (hK1 _ _ ?_)
 refine wp_seq_k fun K5 hK5=>wp_seq_k fun K6 hK6=>rg (sx 6 (t_move (o_i (k:=.i64) (by decide)) rfl rfl) hL fun a s e_ hL=>?_)
 refine en' (hK6 _ _ ?_)
 refine wp_block ?_
 have J8 : ∀ (a7 : Cl) (a : Act) (s : St),Has N0 19 s0 a s [(2,(Pd.box En.cls s0.w.heap.size g2 a7)),(4,(Pd.box En.cls s0.w.heap.size g3 (0#256)))] → Dis (some g2) (some g3) → ((class_Both.j1 r_) a7) → K5 a s.w:=by
  intro a7 a s hL d9 h
  unfold class_Both.j1 at h
  show K5 a s.w
  refine hK5 _ _ (wp_seq_k fun K10 hK10=>?_)
  refine rg (sx 18 (t_loadb ty51 (o_t 2 rfl) rfl rfl) hL fun a s e_ hL=>?_)
  refine st_stb (L':=[]) 4 hL rfl (o_t 18 rfl) ty51 rfl rfl rfl .nil fun s hL=>?_
  refine en' (hK10 _ _ ?_)
  subst h
  exact wp_ret (retb rfl ty51 hL rfl)
 obtain ⟨k13,h⟩:=h
 refine lpg (fun k14 a s=>∃ (a11 : Cl) (v12 : Int),Has N0 19 s0 a s [(2,(Pd.box En.cls s0.w.heap.size g2 a11)),(3,(Pd.ptr En.cls b_)),(4,(Pd.box En.cls s0.w.heap.size g3 (0#256))),(6,(Pd.rep (En.int .i64) v12))] ∧ Dis (some g2) (some g3) ∧ class_Both.l1 b_ (class_Both.j1 r_) k14 a11 v12) k13 ⟨a_,0,hL.keep (.cons (t:=2) rfl (fun _ _ h_=>h_) (.cons (t:=3) rfl nE (.cons (t:=4) rfl (fun _ _ h_=>h_) (.cons (t:=6) rfl nE .nil)))),(Dis.symm d4),h⟩ ?_
 rintro k14 a s ⟨a11,v12,hL,d16,h⟩ KL15 hKL15
 cases k14 with
 | zero=>exact h.elim
 | succ k14=>
 unfold class_Both.l1 at h
 refine wp_seq_k fun K17 hK17=>rg (sx 7 (t_lss (o_t 6 rfl) (o_i (k:=.i64) (by decide)) rfl rfl) hL fun a s e_ hL=>?_)
 refine en' (hK17 _ _ ?_)
 refine wp_seq_k fun K18 hK18=>cnd hL rfl (fun hb_=>?_) (fun hb_=>?_)
 ·replace h:=h.1 hb_
  refine wp_skip ?_
  show K18 a s.w
  refine hK18 _ _ (wp_seq_k fun K19 hK19=>?_)
  refine wp_block (wp_seq_k fun K20 hK20=>?_)
  refine rg (sx 8 (t_move (o_t 6 rfl) rfl rfl) hL fun a s e_ hL=>?_)
  refine sx 5 (t_assign (o_t 8 rfl) rfl rfl) hL fun a s e_ hL=>en' (hK20 _ _ ?_)
  obtain ⟨h21,h22,h23,h⟩:=h
  refine rda follows 8 [(Pd.rep (En.int .i64) v12),(Pd.optr (En.int .u64) s0.w.heap.size (some g2) (v12.toNat) (Cl.w a11 v12)),(Pd.rep (En.int .u64) (Cl.w a11 v12)),(Pd.rep (En.int .i64) v12),(Pd.ptr (En.int .u64) (Cl.w b_ v12)),(Pd.rep (En.int .u64) (Cl.w b_ v12)),(Pd.rep (En.int .u64) (andI (Cl.w a11 v12) (Cl.w b_ v12))),(Pd.optr (En.int .u64) s0.w.heap.size (some g2) (v12.toNat) (Cl.w a11 v12))] hL (by kernel_rfl) rfl rfl ?_ ?_
  ·refine AllT.cons (t_move (o_t 5 rfl) rfl rfl) ?_
   refine AllT.cons (t_idxcb (o_t 2 rfl) (o_t 9 rfl) h21 Tryz.underlying51 (by rfl) rfl rfl) (AllT.cons (t_loado ty49 (o_t 10 rfl) rfl rfl) ?_)
   refine AllT.cons (t_move (o_t 5 rfl) rfl rfl) (AllT.cons (t_idxc (o_t 3 rfl) (o_t 12 rfl) h22 Tryz.underlying51 (by rfl) rfl rfl) ?_)
   refine AllT.cons (t_load ty49 (o_t 13 rfl) rfl rfl) (AllT.cons (t_andb (o_t 11 rfl) (o_t 14 rfl) rfl rfl) ?_)
   refine AllT.cons (t_idxcb (o_t 2 rfl) (o_t 9 rfl) h23 Tryz.underlying51 (by rfl) rfl rfl) ?_
   exact AllT.nil
  intro a s e_ hL
  refine st_stob (L':=[(3,(Pd.ptr En.cls b_)),(4,(Pd.box En.cls s0.w.heap.size g3 (0#256))),(6,(Pd.rep (En.int .i64) v12))]) 2 hL rfl (o_t 16 rfl) (o_t 15 rfl) (sub_cls h23) ty49 rfl rfl rfl (.cons (t:=3) rfl nE (.cons (t:=4) rfl (Dis.bx d4) (.cons (t:=6) rfl nE .nil))) fun s hL=>?_
  refine en' (hK19 _ _ ?_)
  obtain ⟨h24,h⟩:=h
  refine rg (sx 17 (t_add (o_t 6 rfl) (o_i (k:=.i64) (by decide)) h24 rfl rfl) hL fun a s e_ hL=>?_)
  refine sx 6 (t_move (o_t 17 rfl) rfl rfl) hL fun a s e_ hL=>en' ?_
  exact hKL15 k14 a s (Nat.lt_succ_self _) ⟨(Cl.setw a11 v12 (andI (Cl.w a11 v12) (Cl.w b_ v12))),(v12 + 1),hL.keep (.cons (t:=2) rfl (fun _ _ h_=>h_) (.cons (t:=3) rfl nE (.cons (t:=4) rfl (fun _ _ h_=>h_) (.cons (t:=6) rfl nE .nil)))),d16,h⟩
 ·replace h:=h.2 hb_
  refine wp_exit ?_
  exact J8 a11 a s (hL.keep (.cons (t:=2) rfl (fun _ _ h_=>h_) (.cons (t:=4) rfl (fun _ _ h_=>h_) .nil))) d16 h
theorem class_Count_ok {a_ : Cl} {r_ : Int} (h : class_Count a_ r_) : Fn Tryz.prog 164 [(Pd.rep En.cls a_)] (Rq (Pd.rep (En.int .i64) r_)):=by
 unfold class_Count at h
 refine fn_of Tryz.func164 rfl Tryz.ntmps164 (by rfl) (by simp) fun s0 a hL=>?_
 refine wp_seq_k fun K1 hK1=>rg (sx 1 (t_box (o_t 0 rfl) rfl rfl) hL fun a s e_ hL=>?_)
 refine sx 2 (t_assign (o_i (k:=.i64) (by decide)) rfl rfl) hL fun a s e_ hL=>en' (hK1 _ _ ?_)
 refine wp_seq_k fun K2 hK2=>rg (sx 3 (t_assign (o_i (k:=.i64) (by decide)) rfl rfl) hL fun a s e_ hL=>?_)
 refine en' (hK2 _ _ ?_)
 refine wp_seq_k fun K3 hK3=>wp_seq_k fun K4 hK4=>rg (sx 5 (t_move (o_i (k:=.i64) (by decide)) rfl rfl) hL fun a s e_ hL=>?_)
 refine en' (hK4 _ _ ?_)
 refine wp_block ?_
 have J6 : ∀ (n5 : Int) (a : Act) (s : St),Has N0 16 s0 a s [(3,(Pd.rep (En.int .i64) n5))] → ((class_Count.j1 r_) n5) → K3 a s.w:=by
  intro n5 a s hL h
  unfold class_Count.j1 at h
  show K3 a s.w
  refine hK3 _ _ (wp_seq_k fun K7 hK7=>?_)
  refine rg (sx 15 (t_move (o_t 3 rfl) rfl rfl) hL fun a s e_ hL=>?_)
  refine sx 2 (t_assign (o_t 15 rfl) rfl rfl) hL fun a s e_ hL=>en' (hK7 _ _ ?_)
  subst h
  exact wp_ret (retq rfl hL rfl)
 obtain ⟨k10,h⟩:=h
 refine lpg (fun k11 a s=>∃ (n8 : Int) (v9 : Int),Has N0 16 s0 a s [(1,(Pd.ptr En.cls a_)),(3,(Pd.rep (En.int .i64) n8)),(5,(Pd.rep (En.int .i64) v9))] ∧ class_Count.l1 a_ (class_Count.j1 r_) k11 n8 v9) k10 ⟨0,0,hL.keep (.cons (t:=1) rfl nE (.cons (t:=3) rfl nE (.cons (t:=5) rfl nE .nil))),h⟩ ?_
 rintro k11 a s ⟨n8,v9,hL,h⟩ KL12 hKL12
 cases k11 with
 | zero=>exact h.elim
 | succ k11=>
 unfold class_Count.l1 at h
 refine wp_seq_k fun K13 hK13=>rg (sx 6 (t_lss (o_t 5 rfl) (o_i (k:=.i64) (by decide)) rfl rfl) hL fun a s e_ hL=>?_)
 refine en' (hK13 _ _ ?_)
 refine wp_seq_k fun K14 hK14=>cnd hL rfl (fun hb_=>?_) (fun hb_=>?_)
 ·replace h:=h.1 hb_
  refine wp_skip ?_
  show K14 a s.w
  refine hK14 _ _ (wp_seq_k fun K15 hK15=>?_)
  refine wp_block (wp_seq_k fun K16 hK16=>?_)
  refine rg (sx 7 (t_move (o_t 5 rfl) rfl rfl) hL fun a s e_ hL=>?_)
  refine sx 4 (t_assign (o_t 7 rfl) rfl rfl) hL fun a s e_ hL=>en' (hK16 _ _ ?_)
  refine wp_seq_k fun K17 hK17=>?_
  obtain ⟨r18,h19,h⟩:=h
  refine rg (sx 8 (t_load ty51 (o_t 1 rfl) rfl rfl) hL fun a s e_ hL=>?_)
  refine sx 9 (t_move (o_t 4 rfl) rfl rfl) hL fun a s e_ hL=>sx 10 (t_u8 (o_t 9 rfl) Tryz.underlying3 Tryz.underlying5 rfl rfl) hL fun a s e_ hL=>sx 11 (t_call (class_Has_ok h19) (xs:=[.tmp 8,.tmp 10]) (.cons (o_t 8 rfl) (.cons (o_t 10 rfl) .nil)) rfl rfl) hL fun a s e_ hL=>en' (hK17 _ _ ?_)
  refine cnd hL rfl (fun hb_=>?_) (fun hb_=>?_)
  ·replace h:=h.1 hb_
   obtain ⟨h20,h⟩:=h
   refine rg (sx 12 (t_move (o_t 3 rfl) rfl rfl) hL fun a s e_ hL=>?_)
   refine sx 13 (t_add (o_t 12 rfl) (o_i (k:=.i64) (by decide)) h20 rfl rfl) hL fun a s e_ hL=>sx 3 (t_assign (o_t 13 rfl) rfl rfl) hL fun a s e_ hL=>en' (hK15 _ _ ?_)
   obtain ⟨h21,h⟩:=h
   refine rg (sx 14 (t_add (o_t 5 rfl) (o_i (k:=.i64) (by decide)) h21 rfl rfl) hL fun a s e_ hL=>?_)
   refine sx 5 (t_move (o_t 14 rfl) rfl rfl) hL fun a s e_ hL=>en' ?_
   exact hKL12 k11 a s (Nat.lt_succ_self _) ⟨(n8 + 1),(v9 + 1),hL.keep (.cons (t:=1) rfl nE (.cons (t:=3) rfl nE (.cons (t:=5) rfl nE .nil))),h⟩
  ·replace h:=h.2 hb_
   refine wp_skip ?_
   show K15 a s.w
   refine hK15 _ _ ?_
   obtain ⟨h22,h⟩:=h
   refine rg (sx 14 (t_add (o_t 5 rfl) (o_i (k:=.i64) (by decide)) h22 rfl rfl) hL fun a s e_ hL=>?_)
   refine sx 5 (t_move (o_t 14 rfl) rfl rfl) hL fun a s e_ hL=>en' ?_
   exact hKL12 k11 a s (Nat.lt_succ_self _) ⟨n8,(v9 + 1),hL.keep (.cons (t:=1) rfl nE (.cons (t:=3) rfl nE (.cons (t:=5) rfl nE .nil))),h⟩
 ·replace h:=h.2 hb_
  refine wp_exit ?_
  exact J6 n8 a s (hL.keep (.cons (t:=3) rfl nE .nil)) h
theorem class_Least_ok {a_ : Cl} {r_ : (Int × Bool)} (h : class_Least a_ r_) : Fn Tryz.prog 104 [(Pd.rep En.cls a_)] (Rq2 (Pd.rep (En.int .u8) r_.1) (Pd.rep En.bool r_.2)):=by
 unfold class_Least at h
 refine fn_of Tryz.func104 rfl Tryz.ntmps104 (by rfl) (by simp) fun s0 a hL=>?_
 refine wp_seq_k fun K1 hK1=>rg (sx 1 (t_box (o_t 0 rfl) rfl rfl) hL fun a s e_ hL=>?_)
 refine sx 2 (t_assign (o_i (k:=.u8) (by decide)) rfl rfl) hL fun a s e_ hL=>sx 3 (t_assign o_b rfl rfl) hL fun a s e_ hL=>en' (hK1 _ _ ?_)
 refine wp_seq_k fun K2 hK2=>wp_seq_k fun K3 hK3=>rg (sx 5 (t_move (o_i (k:=.i64) (by decide)) rfl rfl) hL fun a s e_ hL=>?_)
 refine en' (hK3 _ _ ?_)
 refine wp_block ?_
 have J4 : ∀ (a : Act) (s : St),Has N0 15 s0 a s [] → ((class_Least.j1 r_)) → K2 a s.w:=by
  intro a s hL h
  unfold class_Least.j1 at h
  show K2 a s.w
  refine hK2 _ _ (wp_seq_k fun K5 hK5=>?_)
  refine rg (sx 2 (t_assign (o_i (k:=.u8) (by decide)) rfl rfl) hL fun a s e_ hL=>?_)
  refine sx 3 (t_assign o_b rfl rfl) hL fun a s e_ hL=>en' (hK5 _ _ ?_)
  subst h
  exact wp_ret (ret2 rfl hL rfl rfl)
 obtain ⟨k7,h⟩:=h
 refine lpg (fun k8 a s=>∃ (v6 : Int),Has N0 15 s0 a s [(1,(Pd.ptr En.cls a_)),(5,(Pd.rep (En.int .i64) v6))] ∧ class_Least.l1 a_ r_ (class_Least.j1 r_) k8 v6) k7 ⟨0,hL.keep (.cons (t:=1) rfl nE (.cons (t:=5) rfl nE .nil)),h⟩ ?_
 rintro k8 a s ⟨v6,hL,h⟩ KL9 hKL9
 cases k8 with
 | zero=>exact h.elim
 | succ k8=>
 unfold class_Least.l1 at h
 refine wp_seq_k fun K10 hK10=>rg (sx 6 (t_lss (o_t 5 rfl) (o_i (k:=.i64) (by decide)) rfl rfl) hL fun a s e_ hL=>?_)
 refine en' (hK10 _ _ ?_)
 refine wp_seq_k fun K11 hK11=>cnd hL rfl (fun hb_=>?_) (fun hb_=>?_)
 ·replace h:=h.1 hb_
  refine wp_skip ?_
  show K11 a s.w
  refine hK11 _ _ (wp_seq_k fun K12 hK12=>?_)
  refine wp_block (wp_seq_k fun K13 hK13=>?_)
  refine rg (sx 7 (t_move (o_t 5 rfl) rfl rfl) hL fun a s e_ hL=>?_)
  refine sx 4 (t_assign (o_t 7 rfl) rfl rfl) hL fun a s e_ hL=>en' (hK13 _ _ ?_)
  refine wp_seq_k fun K14 hK14=>?_
  obtain ⟨r15,h16,h⟩:=h
  refine rg (sx 8 (t_load ty51 (o_t 1 rfl) rfl rfl) hL fun a s e_ hL=>?_)
  refine sx 9 (t_move (o_t 4 rfl) rfl rfl) hL fun a s e_ hL=>sx 10 (t_u8 (o_t 9 rfl) Tryz.underlying3 Tryz.underlying5 rfl rfl) hL fun a s e_ hL=>sx 11 (t_call (class_Has_ok h16) (xs:=[.tmp 8,.tmp 10]) (.cons (o_t 8 rfl) (.cons (o_t 10 rfl) .nil)) rfl rfl) hL fun a s e_ hL=>en' (hK14 _ _ ?_)
  refine cnd hL rfl (fun hb_=>?_) (fun hb_=>?_)
  ·replace h:=h.1 hb_
   refine wp_seq_k fun K17 hK17=>rg (sx 12 (t_move (o_t 4 rfl) rfl rfl) hL fun a s e_ hL=>?_)
   refine sx 13 (t_u8 (o_t 12 rfl) Tryz.underlying3 Tryz.underlying5 rfl rfl) hL fun a s e_ hL=>sx 2 (t_assign (o_t 13 rfl) rfl rfl) hL fun a s e_ hL=>sx 3 (t_assign o_b rfl rfl) hL fun a s e_ hL=>en' (hK17 _ _ ?_)
   subst h
   exact wp_ret (ret2 rfl hL rfl rfl)
  ·replace h:=h.2 hb_
   refine wp_skip ?_
   show K12 a s.w
   refine hK12 _ _ ?_
   obtain ⟨h18,h⟩:=h
   refine rg (sx 14 (t_add (o_t 5 rfl) (o_i (k:=.i64) (by decide)) h18 rfl rfl) hL fun a s e_ hL=>?_)
   refine sx 5 (t_move (o_t 14 rfl) rfl rfl) hL fun a s e_ hL=>en' ?_
   exact hKL9 k8 a s (Nat.lt_succ_self _) ⟨(v6 + 1),hL.keep (.cons (t:=1) rfl nE (.cons (t:=5) rfl nE .nil)),h⟩
 ·replace h:=h.2 hb_
  refine wp_exit ?_
  exact J4 a s (hL.keep .nil) h
theorem ref01_Has_ok {a_ : Cl} {cv_ : Int} {r_ : Bool} (h : ref01_Has a_ cv_ r_) : Fn Tryz.prog 108 [(Pd.rep En.cls a_),(Pd.rep (En.int .u8) cv_)] (Rq (Pd.rep En.bool r_)):=by
 unfold ref01_Has at h
 refine fn_of Tryz.func108 rfl Tryz.ntmps108 (by rfl) (by simp) fun s0 a hL=>?_
 refine wp_seq_k fun K1 hK1=>rg (sx 2 (t_box (o_t 0 rfl) rfl rfl) hL fun a s e_ hL=>?_)
 refine sx 4 (t_assign o_b rfl rfl) hL fun a s e_ hL=>en' (hK1 _ _ ?_)
 refine wp_seq_k fun K2 hK2=>?_
 obtain ⟨h3,h4,h⟩:=h
 refine rg (sx 7 (t_move (o_t 1 rfl) rfl rfl) hL fun a s e_ hL=>?_)
 refine sx 8 (t_up (o_t 7 rfl) (by decide) Tryz.underlying5 Tryz.underlying3 rfl rfl) hL fun a s e_ hL=>sx 9 (t_quo (o_t 8 rfl) (o_i (k:=.i64) (by decide)) h3 (by decide) rfl rfl) hL fun a s e_ hL=>sx 10 (t_idxc (o_t 2 rfl) (o_t 9 rfl) h4 Tryz.underlying51 (by rfl) rfl rfl) hL fun a s e_ hL=>sx 11 (t_load ty49 (o_t 10 rfl) rfl rfl) hL fun a s e_ hL=>sx 5 (t_assign (o_t 11 rfl) rfl rfl) hL fun a s e_ hL=>en' (hK2 _ _ ?_)
 refine wp_seq_k fun K5 hK5=>wp_seq_k fun K6 hK6=>rg (sx 6 (t_assign (o_i (k:=.i64) (by decide)) rfl rfl) hL fun a s e_ hL=>?_)
 refine en' (hK6 _ _ ?_)
 refine wp_block ?_
 have J8 : ∀ (w7 : Int) (a : Act) (s : St),Has N0 24 s0 a s [(5,(Pd.rep (En.int .u64) w7))] → ((ref01_Has.j1 r_) w7) → K5 a s.w:=by
  intro w7 a s hL h
  unfold ref01_Has.j1 at h
  show K5 a s.w
  refine hK5 _ _ (wp_seq_k fun K9 hK9=>?_)
  refine rg (sx 21 (t_move (o_t 5 rfl) rfl rfl) hL fun a s e_ hL=>?_)
  refine sx 22 (t_remu (o_t 21 rfl) (o_i (k:=.u64) (by decide)) (by decide) (by decide) rfl rfl) hL fun a s e_ hL=>sx 23 (t_eqi (o_t 22 rfl) (o_i (k:=.u64) (by decide)) rfl rfl) hL fun a s e_ hL=>sx 4 (t_assign (o_t 23 rfl) rfl rfl) hL fun a s e_ hL=>en' (hK9 _ _ ?_)
  subst h
  exact wp_ret (retq rfl hL rfl)
 obtain ⟨k12,h⟩:=h
 refine lpg (fun k13 a s=>∃ (w10 : Int) (i11 : Int),Has N0 24 s0 a s [(1,(Pd.rep (En.int .u8) cv_)),(5,(Pd.rep (En.int .u64) w10)),(6,(Pd.rep (En.int .i64) i11))] ∧ ref01_Has.l1 cv_ (ref01_Has.j1 r_) k13 w10 i11) k12 ⟨(Cl.w a_ (cv_ / 64)),0,hL.keep (.cons (t:=1) rfl nE (.cons (t:=5) rfl nE (.cons (t:=6) rfl nE .nil))),h⟩ ?_
 rintro k13 a s ⟨w10,i11,hL,h⟩ KL14 hKL14
 cases k13 with
 | zero=>exact h.elim
 | succ k13=>
 unfold ref01_Has.l1 at h
 refine wp_seq_k fun K15 hK15=>wp_seq_k fun K16 hK16=>?_
 obtain ⟨h17,h⟩:=h
 refine rg (sx 12 (t_move (o_t 6 rfl) rfl rfl) hL fun a s e_ hL=>?_)
 refine sx 13 (t_move (o_t 1 rfl) rfl rfl) hL fun a s e_ hL=>sx 14 (t_up (o_t 13 rfl) (by decide) Tryz.underlying5 Tryz.underlying3 rfl rfl) hL fun a s e_ hL=>sx 15 (t_rem (o_t 14 rfl) (o_i (k:=.i64) (by decide)) h17 (by decide) rfl rfl) hL fun a s e_ hL=>sx 16 (t_lss (o_t 12 rfl) (o_t 15 rfl) rfl rfl) hL fun a s e_ hL=>en' (hK16 _ _ ?_)
 refine cnd hL rfl (fun hb_=>?_) (fun hb_=>?_)
 ·replace h:=h.1 hb_
  refine wp_skip ?_
  show K15 a s.w
  refine hK15 _ _ (wp_seq_k fun K18 hK18=>?_)
  refine wp_block (rg ?_)
  refine sx 19 (t_move (o_t 5 rfl) rfl rfl) hL fun a s e_ hL=>sx 20 (t_quou (o_t 19 rfl) (o_i (k:=.u64) (by decide)) (by decide) (by decide) rfl rfl) hL fun a s e_ hL=>sx 5 (t_assign (o_t 20 rfl) rfl rfl) hL fun a s e_ hL=>en' (hK18 _ _ ?_)
  obtain ⟨h19,h⟩:=h
  refine rg (sx 17 (t_move (o_t 6 rfl) rfl rfl) hL fun a s e_ hL=>?_)
  refine sx 18 (t_add (o_t 17 rfl) (o_i (k:=.i64) (by decide)) h19 rfl rfl) hL fun a s e_ hL=>sx 6 (t_assign (o_t 18 rfl) rfl rfl) hL fun a s e_ hL=>en' ?_
  exact hKL14 k13 a s (Nat.lt_succ_self _) ⟨(w10 / 2),(i11 + 1),hL.keep (.cons (t:=1) rfl nE (.cons (t:=5) rfl nE (.cons (t:=6) rfl nE .nil))),h⟩
 ·replace h:=h.2 hb_
  refine wp_exit ?_
  exact J8 w10 a s (hL.keep (.cons (t:=5) rfl nE .nil)) h
end Go.Proofs.YtahgmdbioafmbaaGreatDoor.V
