/-
  The texts that the law's proof needs, part 1.
-/
import Derived.Deep.LoopGhost
import Derived.KernelRfl
import Derived.Laws.AppendOwnNone
import Derived.Laws.StructEq
import Derived.Laws.Tables
import Derived.Lib.Hide
import Derived.Lib.ItoaNum
import Derived.Maps.Keyed
import Derived.Maps.RangeRun
import Derived.OpenShut
import Derived.Orders
import Derived.ProofKit
import Derived.Test.YtaknifhhnhcchaaDoorChecked
import Derived.WalkKit

namespace Go.Proofs.YtaknifhhnhcchaaDoor.V
theorem J {α:Sort _}{a:α}:a=a:=rfl
open Go
def gdat0:List Bool:=[false,false,true,false,false,false,false,false,true,true]
def gtab:List (Nat × List Value):=[(1,(List.range 20).map fun i=>Value.int .u64 ((10 ^ i:Nat):Int)),(0,gdat0.map Value.bool)]
def fidV:Option Nat→Value
 | some f=>.func (.func f) #[] #[]
 | none=>.nilFunc
def Fmst (es:Array MapEntry) (clock:Nat) (ys:List (Int × Option Nat)):Prop:=
 Go.MapKept.Stamped es clock∧es.toList.length=ys.length∧∀(i:Nat) (e:MapEntry) (p:Int × Option Nat),es.toList[i]?=some e→ys[i]?=some p→e.key = .int .i64 p.1∧(-9223372036854775808≤p.1∧p.1≤9223372036854775807)∧e.val=fidV p.2
def gmap:List (Nat × List (Int × Option Nat)):=[]
set_option linter.unusedVariables false
structure St where
 w:World
 X:Nat→Prop
 lt:∀b,X b→b<w.heap.size
class Dr (u:outParam Bool) where
 R:World→World→Prop
 eq:∀{w w':World},w'.drawn=w.drawn→R w w'
 succ:∀{w w':World},w'.drawn=w.drawn+1→R w w'
 trans:∀{a b c:World},R a b→R b c→R a c
instance (priority:=low) dNone:Dr false:=⟨fun _ _=>True,fun _=>trivial,fun _=>trivial,fun _ _=>trivial⟩
@[reducible] def dLe:Dr true:=⟨fun w w'=>w.drawn≤w'.drawn,fun h=>Nat.le_of_eq h.symm,fun h=>by omega,fun h k=>Nat.le_trans h k⟩
theorem DR.kit {w w':World}:dNone.R w w':=trivial
section
variable {u : Bool} [Dr u]
def DR (w w':World):Prop:=Dr.R w w'
theorem DR.eq {w w':World} (h:w'.drawn=w.drawn):DR w w':=Dr.eq h
theorem DR.succ {w w':World} (h:w'.drawn=w.drawn+1):DR w w':=Dr.succ h
theorem DR.trans {a b c:World} (h:DR a b) (k:DR b c):DR a c:=Dr.trans h k
structure Mv (T:Nat→Prop) (s s':St):Prop where
 dr:DR s.w s'.w
 os:s'.w.os=s.w.os
 tape:s'.w.tape=s.w.tape
 output:s'.w.output=s.w.output
 size:s.w.heap.size≤s'.w.heap.size
 blk:∀b,b<s.w.heap.size→¬ T b→s'.w.heap[b]?=s.w.heap[b]?
 tx:∀b,T b→s.X b
 xx:∀b,s'.X b→s.X b∨s.w.heap.size≤b
structure Ex (s s':St):Prop where
 mv:Mv (fun _=>False) s s'
 keep:∀b,s.X b→s'.X b
theorem Mv.refl (T:Nat→Prop) (s:St) (h:∀b,T b→s.X b):Mv T s s:=⟨DR.eq rfl,rfl,rfl,rfl,Nat.le_refl _,fun _ _ _=>rfl,h,fun _ h=>.inl h⟩
theorem Ex.refl (s:St):Ex s s:=⟨Mv.refl _ s (fun _ h=>h.elim),fun _ h=>h⟩
theorem Ex.trans {a b c:St} (h:Ex a b) (k:Ex b c):Ex a c:=
 ⟨⟨h.mv.dr.trans k.mv.dr,k.mv.os.trans h.mv.os,k.mv.tape.trans h.mv.tape,k.mv.output.trans h.mv.output,Nat.le_trans h.mv.size k.mv.size,
  fun i hi hn=>(k.mv.blk i (Nat.lt_of_lt_of_le hi h.mv.size) hn).trans (h.mv.blk i hi hn),fun _ h=>h.elim,
  fun i hi=>(k.mv.xx i hi).elim (fun j=>h.mv.xx i j) (fun j=>.inr (Nat.le_trans h.mv.size j))⟩,fun i hi=>k.keep i (h.keep i hi)⟩
def Gl (s:St):Prop:=(∀p∈gtab,¬ s.X p.1∧∃t fr,s.w.heap[p.1]?=some (.cells p.2.toArray t fr)) ∧
 ∀p∈gmap,¬ s.X p.1∧∃m t fr es clock ys,s.w.heap[p.1]?=some (.cells #[.map (some m)] t fr)∧¬ s.X m∧s.w.heap[m]?=some (.map es clock)∧Fmst es clock ys∧ys.Perm p.2
theorem Gl.mv {T:Nat→Prop} {s s':St} (h:Gl s) (m:Mv T s s'):Gl s':=by
 have key:∀b o,¬ s.X b→s.w.heap[b]?=some o→¬ s'.X b∧s'.w.heap[b]?=some o:=fun b o h1 h2=>by
  have hlt:b<s.w.heap.size:=(Array.getElem?_eq_some_iff.1 h2).1;refine ⟨fun hx=>(m.xx _ hx).elim h1 (fun hk=>by omega), ?_⟩;rw [m.blk _ hlt (fun ht=>h1 (m.tx _ ht))];exact h2
 refine ⟨fun p hp=>?_,fun p hp=>?_⟩
 ·obtain ⟨h1,t,fr,h2⟩:=h.1 p hp;obtain ⟨k1,k2⟩:=key _ _ h1 h2;exact ⟨k1,t,fr,k2⟩
 ·obtain ⟨h1,b,t,fr,es,clock,ys,h2,h3,h4,h5,h6⟩:=h.2 p hp;obtain ⟨k1,k2⟩:=key _ _ h1 h2;obtain ⟨k3,k4⟩:=key _ _ h3 h4;exact ⟨k1,b,t,fr,es,clock,ys,k2,k3,k4,h5,h6⟩
abbrev N0:Nat→Prop:=fun _=>False
structure Fr (M:Nat→Prop) (s s':St):Prop where
 mv:Mv M s s'
 keep:∀b,s.X b→s'.X b
theorem Fr.ex {s s':St} (h:Fr N0 s s'):Ex s s':=⟨h.mv,h.keep⟩
theorem Fr.refl {M:Nat→Prop} {s:St} (h:∀b,M b→s.X b):Fr M s s:=⟨Mv.refl M s h,fun _ h=>h⟩
theorem Fr.trans {M:Nat→Prop} {a b c:St} (h:Fr M a b) (k:Ex b c):Fr M a c:=
 ⟨⟨h.mv.dr.trans k.mv.dr,k.mv.os.trans h.mv.os,k.mv.tape.trans h.mv.tape,k.mv.output.trans h.mv.output,Nat.le_trans h.mv.size k.mv.size,
  fun i hi hn=>(k.mv.blk i (Nat.lt_of_lt_of_le hi h.mv.size) (fun h=>h)).trans (h.mv.blk i hi hn),h.mv.tx,
  fun i hi=>(k.mv.xx i hi).elim (fun j=>h.mv.xx i j) (fun j=>.inr (Nat.le_trans h.mv.size j))⟩,fun i hi=>k.keep i (h.keep i hi)⟩
structure Pd where
 p:St→Value→Prop
 own:Nat→Prop
 mv:∀{T s s' v},Mv T s s'→(∀b,own b→¬ T b∧(s.X b→s'.X b))→p s v→p s' v
theorem Pd.ex {q:Pd} {s s':St} {v:Value} (h:Ex s s') (hq:q.p s v):q.p s' v:=q.mv h.mv (fun b _=>⟨id,h.keep b⟩) hq
def Pd.any:Pd:=⟨fun _ _=>True,fun _=>False,fun _ _ h=>h⟩
def Pd.is (x:Value):Pd:=⟨fun _ v=>v=x,fun _=>False,fun _ _ h=>h⟩
def Pd.when (c:Prop) (q:Pd):Pd:=⟨fun s v=>(c→q.p s v)∧(¬ c→v=undef),q.own,fun h hb hp=>⟨fun hc=>q.mv h hb (hp.1 hc),hp.2⟩⟩
abbrev Lst:=List (Nat × Pd)
def lk:Lst→Nat→Option Pd
 | [],_=>none
 | (d,q)::r,t=>bif Nat.beq d t then some q else lk r t
structure Has (M:Nat→Prop) (n:Nat) (s0:St) (a:Act) (s:St) (L:Lst):Prop where
 size:a.tmps.size=n
 defers:a.defers=[]
 ent:Fr M s0 s
 gl:Gl s0
 at_:∀t q,lk L t=some q→q.p s (a.eval (.tmp t))
theorem Has.gls {M:Nat→Prop} {n:Nat} {s0:St} {a:Act} {s:St} {L:Lst} (h:Has M n s0 a s L):Gl s:=h.gl.mv h.ent.mv
theorem Has.get {M:Nat→Prop} {n:Nat} {s0:St} {a:Act} {s:St} {L:Lst} (h:Has M n s0 a s L) (t:Nat) {q:Pd} (e:lk L t=some q):q.p s (a.eval (.tmp t)):=h.at_ t q e
theorem zdn {a:Act} {d n:Nat} {v:Value} (hn:a.tmps.size=n) (hd:Nat.blt d n=true):(a.put (some d) v).eval (.tmp d)=v:=by
 have:d<a.tmps.size:=by rw [hn];exact Nat.le_of_ble_eq_true hd
 simp [Act.eval,Act.put,Array.getD,this]
theorem zel {a:Act} {d t:Nat} {v:Value} (h:d≠t):(a.put (some d) v).eval (.tmp t)=a.eval (.tmp t):=by
 simp [Act.eval,Act.put,Array.getElem?_setIfInBounds_ne h]
theorem ze2 {d t:Nat} (h:d≠t):Nat.beq d t=false:=by
 rw [← Bool.not_eq_true];exact fun e=>h (Nat.eq_of_beq_eq_true e)
theorem Has.put {M:Nat→Prop} {n:Nat} {s0:St} {a:Act} {s s':St} {L:Lst} (h:Has M n s0 a s L) (e:Ex s s') {d:Nat} (hd:Nat.blt d n=true) {v:Value} {q:Pd} (hq:q.p s' v):
  Has M n s0 (a.put (some d) v) s' ((d,q)::L) where
 size:=by simp [Act.put,h.size]
 defers:=h.defers
 ent:=h.ent.trans e
 gl:=h.gl
 at_:=by
  intro t q' hl;unfold lk at hl
  by_cases ht:d=t
  ·subst ht;simp at hl;subst hl;rw [zdn h.size hd];exact hq
  ·have:Nat.beq d t=false:=ze2 ht;rw [this] at hl;rw [zel ht];exact Pd.ex e (h.at_ t q' hl)
theorem Has.ex {M:Nat→Prop} {n:Nat} {s0:St} {a:Act} {s s':St} {L:Lst} (h:Has M n s0 a s L) (e:Ex s s'):Has M n s0 a s' L where
 size:=h.size
 defers:=h.defers
 ent:=h.ent.trans e
 gl:=h.gl
 at_:=fun t q hl=>Pd.ex e (h.at_ t q hl)
theorem Has.sub {M:Nat→Prop} {n:Nat} {s0:St} {a:Act} {s:St} {L L':Lst} (h:Has M n s0 a s L) (hs:∀t q,lk L' t=some q→q.p s (a.eval (.tmp t))):Has M n s0 a s L':=
 ⟨h.size,h.defers,h.ent,h.gl,hs⟩
theorem Has.cons {M:Nat→Prop} {n:Nat} {s0:St} {a:Act} {s:St} {L:Lst} (h:Has M n s0 a s L) (d:Nat) {q:Pd} (hq:q.p s (a.eval (.tmp d))):Has M n s0 a s ((d,q)::L):=by
 refine ⟨h.size,h.defers,h.ent,h.gl,fun t q' hl=>?_⟩;unfold lk at hl
 by_cases ht:d=t
 ·subst ht;simp at hl;subst hl;exact hq
 ·have:Nat.beq d t=false:=ze2 ht;rw [this] at hl;exact h.at_ t q' hl
def OpR (P:Program) (ops:Array Oper) (o:Oper) (a:Act) (s:St) (K:Value→St→Prop):Prop:=
 ∀(Q:Exit→Act→World→Prop) (k:Act→World→Prop),(∀v s',K v s'→k (a.put o.dst v) s'.w) →
  (if Region.wanted o (yielded ops a.tmps) then o.wp P a s.w k Q else k (a.put o.dst undef) s.w)
def T (P:Program) (ops:Array Oper) (o:Oper) (L:Lst) (q:Pd):Prop:=
 ∀M n s0 a s,Has M n s0 a s L→OpR P ops o a s (fun v s'=>Ex s s'∧q.p s' v)
theorem OpR.of_run {P:Program} {ops:Array Oper} {o:Oper} {a:Act} {s:St} {K:Value→St→Prop} (hg:o.guard=none) {v:Value} {s':St}
  (h:(execOp a.eval o).run P s.w = .ok (.value v) s'.w) (hK:K v s'):OpR P ops o a s K:=by
 intro Q k hk;simp only [Region.wanted,hg,if_true];unfold Oper.wp;rw [h];exact hk v s' hK
theorem st {P:Program} {ops:Array Oper} {Q:Exit→Act→World→Prop} {rest:List Oper} {o:Oper} {M:Nat→Prop} {n:Nat} {s0:St} {a:Act} {s:St} {L:Lst} {q:Pd} (d:Nat)
  (h:T P ops o L q) (hd:o.dst=some d) (hn:Nat.blt d n=true) (hL:Has M n s0 a s L)
  (k:∀a' s',Ex s s'→Has M n s0 a' s' ((d,q)::L)→wpList P ops Q rest a' s'.w):wpList P ops Q (o::rest) a s.w:=by
 refine wpList_step fun K hK=>?_;refine h M n s0 a s hL Q K fun v s' ⟨e,hq⟩=>hK _ _ ?_;rw [hd];exact k _ s' e (hL.put e hn hq)
theorem sx {P:Program} {ops:Array Oper} {Q:Exit→Act→World→Prop} {rest:List Oper} {o:Oper} {M:Nat→Prop} {n:Nat} {s0:St} {a:Act} {s:St} {L:Lst} {q:Pd} (d:Nat)
  (h:T P ops o L q) (hL:Has M n s0 a s L) (k:∀a' s',Ex s s'→Has M n s0 a' s' ((d,q)::L)→wpList P ops Q rest a' s'.w) (hd:o.dst=some d:=by rfl) (hn:Nat.blt d n=true:=by rfl):wpList P ops Q (o::rest) a s.w:=st d h hd hn hL k
theorem sw {P:Program}{ops:Array Oper}{Q:Exit→Act→World→Prop}{rest:List Oper}{o:Oper}{M:Nat→Prop}{n:Nat}{s0:St}{a:Act}{s:St}{L:Lst}{q:Pd}(d:Nat)
  (h:T P ops o L q) (hL:Has M n s0 a s L) (k:∀a' s',Has M n s0 a' s' ((d,q)::L)→wpList P ops Q rest a' s'.w) (hd:o.dst=some d:=by rfl) (hn:Nat.blt d n=true:=by rfl):wpList P ops Q (o::rest) a s.w:=st d h hd hn hL fun a s _ h=>k a s h
theorem nE {p:Nat→Prop} (b:Nat) (h:False):p b:=h.elim
theorem en' {P:Program} {ops:Array Oper} {Q:Exit→Act→World→Prop} {a:Act} {w:World} (h:Q .normal a w):wpList P ops Q [] a w:=h
theorem rg {P:Program} {id:Nat} {l:List Oper} {Q:Exit→Act→World→Prop} {a:Act} {w:World} (h:wpList P l.toArray Q l a w):(Code.region id l.toArray false).wp P Q a w:=wp_region_lit h
def zfs (ops:Array Oper) (qs:List Pd):List Edge→Lst→Lst
 | [],L=>L
 | e::r,L=>match Region.binds .any e,(ops[e.on]?).bind (·.dst),qs[e.on]? with
  | true,some d,some q=>(d,q)::zfs ops qs r L
  | _,_,_=>zfs ops qs r L
def zg9 (ops:Array Oper):Nat→Nat→Nat→Bool
 | 0,_,_=>false
 | f+1,i,k=>match ops[i]? with
  | none=>false
  | some o=>(o.after.toList.any fun e=>Region.binds .any e&&Nat.beq e.on k)||(o.after.toList.any fun e=>Region.binds .any e&&zg9 ops f e.on k)
theorem zcw {ops:Array Oper} {p:Nat→Prop} (hp:∀i o,p i→ops[i]?=some o→∀e∈o.after.toList,Region.binds .any e=true→p e.on):
  ∀(f i k:Nat),zg9 ops f i k=true→(∀o,ops[i]?=some o→∀e∈o.after.toList,Region.binds .any e=true→p e.on)→p k:=by
 intro f
 induction f with
 | zero=>intro i k h;cases h
 | succ f ih=>
  intro i k h hi;unfold zg9 at h;cases ho:ops[i]? with
  | none=>rw [ho] at h;cases h
  | some o=>
   simp only [ho,Bool.or_eq_true,List.any_eq_true,Bool.and_eq_true] at h;rcases h with ⟨e,he,hb,hk⟩ | ⟨e,he,hb,hk⟩
   ·rw [← Nat.eq_of_beq_eq_true hk];exact hi o ho e he hb
   ·have:=hi o ho e he hb;exact ih e.on k hk fun o' ho'=>hp e.on o' this ho'
def zc1 (ops:Array Oper) (m n:Nat) (ks:List Nat) (F:List Nat):Bool:=
 (F.all fun k=>Nat.blt k m) &&
 (List.range ops.size).all fun i=>match ops[i]? with
  | none=>false
  | some o=>(o.after.toList.all fun e=>!Region.binds .any e||Nat.blt e.on i) &&
   (if i<m then F.contains i||(match o.dst with
    | none=>false
    | some d=>Nat.blt d n&&ks.all (fun t=>!Nat.beq t d)&&(List.range m).all fun j=>Nat.beq j i||!((ops[j]?).bind (·.dst)==some d))
   else (List.range i).all fun k=>F.contains k||zg9 ops ops.size i k)
theorem zcj {ops:Array Oper} {listed:Array Bool} {i:Nat}:i∈Region.ready .any ops listed ↔
  i<ops.size∧listed.getD i true=false∧∃o,ops[i]?=some o∧∀e∈o.after.toList,Region.binds .any e=true→listed.getD e.on false=true:=by
 unfold Region.ready;simp only [List.mem_filter,List.mem_range,Bool.and_eq_true,Bool.not_eq_true'];constructor
 ·rintro ⟨h1,h2,h3⟩;refine ⟨h1,h2, ?_⟩;cases ho:ops[i]? with
  | none=>simp [ho] at h3
  | some o=>
   refine ⟨o,rfl,fun e he hb=>?_⟩;simp only [ho,Option.map_some,Option.getD_some] at h3;rw [← Array.all_toList,List.all_eq_true] at h3;have:=h3 e he;simpa [hb] using this
 ·rintro ⟨h1,h2,o,ho,h3⟩;refine ⟨h1,h2, ?_⟩;simp only [ho,Option.map_some,Option.getD_some];rw [← Array.all_toList,List.all_eq_true];intro e he;cases hb:Region.binds .any e
  ·simp
  ·simp [h3 e he hb]
theorem zb3 {listed:Array Bool} {i k:Nat} {d:Bool} (h:i<listed.size):(listed.setIfInBounds i true).getD k d=if k=i then true else listed.getD k d:=by
 simp only [Array.getD_eq_getD_getElem?,Array.getElem?_setIfInBounds]
 by_cases hk:k=i
 ·subst hk;simp [h]
 ·simp [hk,Ne.symm hk]
theorem zd1 {P:Program} {ops:Array Oper} {Q:Exit→Act→World→Prop} {m n:Nat} {ks F:List Nat} (hok:zc1 ops m n ks F=true):
  ∀(f k:Nat) (listed:Array Bool) (a:Act) (w:World),k+f=ops.size→m≤k→listed.size=ops.size→(∀i,i<ops.size→listed.getD i true=decide (i<k)) →
   wpOps P ops Q (List.range' k f) a w→wpAny P .any ops Q f listed a w:=by
 unfold zc1 at hok;rw [Bool.and_eq_true] at hok;obtain ⟨hF,hok⟩:=hok;rw [List.all_eq_true] at hok hF;intro f
 induction f with
 | zero=>
  intro k listed a w hk hm hs hl h;refine ⟨?_,h⟩;cases hr:Region.ready .any ops listed with
  | nil=>rfl
  | cons x xs=>
   have hx:x∈Region.ready .any ops listed:=by rw [hr];simp
   obtain ⟨h1,h2,_⟩:=zcj.1 hx;rw [hl x h1] at h2;simp at h2;omega
 | succ f ih=>
  intro k listed a w hk hm hs hl h;rw [List.range'_succ,wpOps_cons] at h;have hkr:k∈Region.ready .any ops listed:=by
   obtain ⟨o,ho⟩:∃o,ops[k]?=some o:=⟨ops[k]'(by omega),by simp⟩;refine zcj.2 ⟨by omega,by rw [hl k (by omega)];simp,o,ho,fun e he hb=>?_⟩;have:=hok k (by simp;omega);simp only [ho,Bool.and_eq_true] at this;have h1:=List.all_eq_true.1 this.1 e he;simp only [hb,Bool.not_true,Bool.false_or] at h1;have h2:e.on<k:=Nat.le_of_ble_eq_true h1;have h3:=hl e.on (by omega);have h4:listed.getD e.on false=listed.getD e.on true:=by simp [Array.getD,hs,show e.on<ops.size by omega]
   rw [h4,h3];simpa using h2
  refine ⟨fun he=>by rw [he] at hkr;simp at hkr,fun i hi=>?_⟩;obtain ⟨h1,h2,o,ho,h3⟩:=zcj.1 hi;have hik:¬ i<k:=by rw [hl i h1] at h2;simpa using h2
  have:i=k:=by
   rcases Nat.lt_or_ge k i with hlt | hge
   ·exfalso;have h5:=hok i (by simpa using h1);simp only [ho,Bool.and_eq_true] at h5;have h6:=h5.2;rw [if_neg (by omega),List.all_eq_true] at h6;have h7:=h6 k (by simpa using hlt);have hkF:F.contains k=false:=by
     cases hc:F.contains k
     ·rfl
     ·have:=hF k (by simpa using hc);have:k<m:=Nat.le_of_ble_eq_true this;omega
    rw [hkF,Bool.false_or] at h7;have h8:=zcw (ops:=ops) (p:=fun j=>listed.getD j false=true) (fun j o' hj ho' e he hb=>by
     have hjs:j<ops.size:=by
      rcases Nat.lt_or_ge j ops.size with h | h
      ·exact h
      ·simp [Array.getElem?_eq_none h] at ho'
     have hjk:j<k:=by
      have:listed.getD j false=listed.getD j true:=by simp [Array.getD,hs,hjs]
      rw [this,hl j hjs] at hj;simpa using hj
     have hok2:=hok j (by simpa using hjs);simp only [ho',Bool.and_eq_true] at hok2;have h9:=List.all_eq_true.1 hok2.1 e he;simp only [hb,Bool.not_true,Bool.false_or] at h9;have h10:e.on<j:=Nat.le_of_ble_eq_true h9;have:listed.getD e.on false=listed.getD e.on true:=by simp [Array.getD,hs,show e.on<ops.size by omega]
     rw [this,hl e.on (by omega)];simp;omega) _ i k h7 (fun o' ho'=>by rw [ho] at ho';cases ho';exact h3)
    have h10:listed.getD k false=listed.getD k true:=by simp [Array.getD,hs,show k<ops.size by omega]
    rw [h10,hl k (by omega)] at h8;simp at h8
   ·omega
  subst this;refine wpOp_mono (fun a w hw=>ih (i+1) _ a w (by omega) (by omega) (by simpa using hs) (fun j hj=>?_) hw) h;rw [zb3 (by omega),hl j hj]
  by_cases hj':j=i
  ·simp [hj']
  ·simp only [if_neg hj',decide_eq_decide];omega
theorem zhi {ops:Array Oper} {qs:List Pd} {M:Nat→Prop} {n:Nat} {s0:St} {a:Act} {s:St} {L:Lst} (hL:Has M n s0 a s L):
  ∀(es:List Edge),(∀e∈es,Region.binds .any e=true→∀d q,(ops[e.on]?).bind (·.dst)=some d→qs[e.on]?=some q→q.p s (a.eval (.tmp d)))→Has M n s0 a s (zfs ops qs es L)
 | [],_=>hL
 | e::r,h=>by
  have ih:=zhi hL r (fun e' he'=>h e' (by simp [he']));unfold zfs;split
  ·rename_i d q hb hd hq
   exact ih.cons d (h e (by simp) hb d q hd hq)
  ·exact ih
theorem lk_none {L:Lst} {d:Nat} (h:(L.map (·.1)).all (fun t=>!Nat.beq t d)=true):lk L d=none:=by
 induction L with
 | nil=>rfl
 | cons x r ih=>
  simp only [List.map_cons,List.all_cons,Bool.and_eq_true,Bool.not_eq_true'] at h;unfold lk;rw [h.1];exact ih h.2
def zgn (ops:Array Oper) (qs:List Pd):Nat→Lst→Lst
 | 0,L=>L
 | i+1,L=>match (ops[i]?).bind (·.dst),qs[i]? with
  | some d,some q=>(d,q)::zgn ops qs i L
  | _,_=>zgn ops qs i L
theorem zet {ops:Array Oper} {qs:List Pd} {M:Nat→Prop} {n:Nat} {s0:St} {a:Act} {s:St} {L:Lst} (hL:Has M n s0 a s L):
  ∀m,(∀i,i<m→∀d q,(ops[i]?).bind (·.dst)=some d→qs[i]?=some q→q.p s (a.eval (.tmp d)))→Has M n s0 a s (zgn ops qs m L)
 | 0,_=>hL
 | m+1,h=>by
  have ih:=zet hL m (fun i hi=>h i (by omega));unfold zgn;split
  ·rename_i d q hd hq
   exact ih.cons d (h m (by omega) d q hd hq)
  ·exact ih
theorem rd_key {P:Program} {ops:Array Oper} {Q:Exit→Act→World→Prop} {M:Nat→Prop} {n:Nat} {s0:St} {s:St} {L:Lst} (m:Nat) (qs:List Pd) (F:List Nat)
  (hok:zc1 ops m n (L.map (·.1)) F=true) (hq:qs.length=m) (hm:m≤ops.size)
  (hT:∀i o q,i<m→ops[i]?=some o→qs[i]?=some q→F.contains i=false→T P ops o (zfs ops qs o.after.toList L) q)
  (hB:∀a' s',Ex s s'→Has M n s0 a' s' (zgn ops qs m L)→wpOps P ops Q (List.range' m (ops.size-m)) a' s'.w):
  ∀(f:Nat) (listed:Array Bool) (a:Act) (s':St),listed.size=ops.size→((List.range ops.size).filter (fun i=>!listed.getD i true)).length=f→Ex s s'→Has M n s0 a s' L →
   (∀i o,listed.getD i false=true→ops[i]?=some o→∀e∈o.after.toList,Region.binds .any e=true→listed.getD e.on false=true)→(∀i,i<ops.size→m≤i→listed.getD i true=false) →
   (∀i,i<m→listed.getD i true=true→∀d q,(ops[i]?).bind (·.dst)=some d→qs[i]?=some q→q.p s' (a.eval (.tmp d)))→(∀i∈F,listed.getD i true=true)→wpAny P .any ops Q f listed a s'.w:=by
 have hok':=hok;unfold zc1 at hok';rw [Bool.and_eq_true] at hok';obtain ⟨hF,hok'⟩:=hok';rw [List.all_eq_true] at hok';intro f
 induction f with
 | zero=>
  intro listed a s' hs hc e hL' hcl hn hd hl0;have hall:∀i,i<ops.size→listed.getD i true=true:=by
   intro i hi;have:(List.range ops.size).filter (fun i=>!listed.getD i true)=[]:=List.length_eq_zero_iff.1 hc;rw [List.filter_eq_nil_iff] at this;have:=this i (by simpa using hi);simpa using this
  have hmm:m=ops.size:=by
   rcases Nat.lt_or_ge m ops.size with h | h
   ·have:=hn m h (Nat.le_refl _);rw [hall m h] at this;cases this
   ·omega
  refine zd1 hok 0 ops.size listed a s'.w (by omega) (by omega) hs (fun i hi=>by rw [hall i hi];simp [hi]) ?_;have:=hB a s' e (zet hL' m fun i hi=>hd i hi (hall i (by omega)));rw [hmm] at this;simpa using this
 | succ f ih=>
  intro listed a s' hs hc e hL' hcl hn hd hl0
  by_cases hdone:∀i,i<m→listed.getD i true=true
  ·-- the tail
   have hf:f+1=ops.size-m:=by
    rw [← hc];have h1:(List.range ops.size).filter (fun i=>!listed.getD i true)=List.range' m (ops.size-m):=by
     have e1:List.range ops.size=List.range' 0 m++List.range' m (ops.size-m):=by
      rw [List.range_eq_range',show ops.size=m+(ops.size-m) by omega,← List.range'_append_1];simp
     rw [e1,List.filter_append];have e2:(List.range' 0 m).filter (fun i=>!listed.getD i true)=[]:=by
      rw [List.filter_eq_nil_iff];intro i hi;simp at hi;simp [hdone i hi]
     have e3:(List.range' m (ops.size-m)).filter (fun i=>!listed.getD i true)=List.range' m (ops.size-m):=by
      rw [List.filter_eq_self];intro i hi;simp at hi;simp [hn i (by omega) (by omega)]
     rw [e2,e3,List.nil_append]
    rw [h1];simp
   refine zd1 hok (f+1) m listed a s'.w (by omega) (Nat.le_refl _) hs (fun i hi=>?_) ?_
   ·by_cases h:i<m
    ·simp [h,hdone i h]
    ·simp [h,hn i hi (by omega)]
   ·rw [hf];exact hB a s' e (zet hL' m fun i hi=>hd i hi (hdone i hi))
  ·have hex:∃i,i<m∧listed.getD i true=false:=by
    have h1:=Classical.not_forall.1 hdone;obtain ⟨i,hi⟩:=h1;rw [Classical.not_imp] at hi;exact ⟨i,hi.1,by simpa using hi.2⟩
   have hlow:∀i,i∈Region.ready .any ops listed→i<m:=by
    intro i hi;obtain ⟨h1,h2,o,ho,h3⟩:=zcj.1 hi;rcases Nat.lt_or_ge i m with h | h
    ·exact h
    ·exfalso;obtain ⟨k,hk,hkl⟩:=hex;have h5:=hok' i (by simpa using h1);simp only [ho,Bool.and_eq_true] at h5;have h6:=h5.2;rw [if_neg (by omega),List.all_eq_true] at h6;have h7:=h6 k (by simp;omega);have hkF:F.contains k=false:=by
      cases hc':F.contains k
      ·rfl
      ·have:=hl0 k (by simpa using hc');rw [this] at hkl;cases hkl
     rw [hkF,Bool.false_or] at h7;have h8:=zcw (ops:=ops) (p:=fun j=>listed.getD j false=true) hcl _ i k h7 (fun o' ho'=>by rw [ho] at ho';cases ho';exact h3);have h10:listed.getD k false=listed.getD k true:=by simp [Array.getD,hs,show k<ops.size by omega]
     rw [h10,hkl] at h8;cases h8
   refine ⟨fun hnil=>?_,fun i hi=>?_⟩
   ·-- the least that isn't done is ready
    exfalso;obtain ⟨k,hk,hmin⟩:=exists_least (p:=fun i=>i<m∧listed.getD i true=false) hex;obtain ⟨o,ho⟩:∃o,ops[k]?=some o:=⟨ops[k]'(by omega),by simp⟩;have:k∈Region.ready .any ops listed:=by
     refine zcj.2 ⟨by omega,hk.2,o,ho,fun e he hb=>?_⟩;have h5:=hok' k (by simp;omega);simp only [ho,Bool.and_eq_true] at h5;have h1:=List.all_eq_true.1 h5.1 e he;simp only [hb,Bool.not_true,Bool.false_or] at h1;have h2:e.on<k:=Nat.le_of_ble_eq_true h1;have h4:listed.getD e.on false=listed.getD e.on true:=by simp [Array.getD,hs,show e.on<ops.size by omega]
     rw [h4]
     by_cases h6:listed.getD e.on true=true
     ·exact h6
     ·have:=hmin e.on ⟨by omega,by simpa using h6⟩;omega
    rw [hnil] at this;simp at this
   ·have him:=hlow i hi;obtain ⟨h1,h2,o,ho,h3⟩:=zcj.1 hi;obtain ⟨q,hqi⟩:∃q,qs[i]?=some q:=⟨qs[i]'(by omega),by simp⟩;have h5:=hok' i (by simpa using h1);have hiF:F.contains i=false:=by
     cases hc':F.contains i
     ·rfl
     ·have:=hl0 i (by simpa using hc');rw [this] at h2;cases h2
    simp only [ho,Bool.and_eq_true,if_pos him,hiF,Bool.false_or] at h5;obtain ⟨d,hdst⟩:∃d,o.dst=some d:=by
     cases hd':o.dst with
     | none=>rw [hd'] at h5;simp at h5
     | some d=>exact ⟨d,rfl⟩
    have h6:=h5.2;rw [hdst] at h6;simp only [Bool.and_eq_true] at h6;have hdep:Has M n s0 a s' (zfs ops qs o.after.toList L):=by
     refine zhi hL' _ fun e' he' hb d' q' hd' hq'=>?_;have h7:=h3 e' he' hb;have h8:=List.all_eq_true.1 h5.1 e' he';simp only [hb,Bool.not_true,Bool.false_or] at h8;have h9:e'.on<i:=Nat.le_of_ble_eq_true h8;have h10:listed.getD e'.on false=listed.getD e'.on true:=by simp [Array.getD,hs,show e'.on<ops.size by omega]
     exact hd e'.on (by omega) (h10 ▸ h7) d' q' hd' hq'
    have hrun:=hT i o q him ho hqi hiF M n s0 a s' hdep Q (wpAny P .any ops Q f (listed.setIfInBounds i true)) ?_
    ·unfold wpOp;simp only [ho]
     by_cases hw:Region.wanted o (yielded ops a.tmps)=true
     ·rw [if_pos hw] at hrun ⊢;exact .inl hrun
     ·rw [if_neg hw] at hrun ⊢;exact hrun
    ·rintro v s'' ⟨e',hq'⟩;have hfresh:lk L d=none:=lk_none h6.1.2;refine ih _ _ s'' (by simpa using hs) ?_ (e.trans e') ?_ ?_ ?_ ?_ ?_
     ·-- one fewer
      have hnd:((List.range ops.size).filter (fun j=>!listed.getD j true)).Nodup:=List.Nodup.sublist List.filter_sublist List.nodup_range;have hmem:i∈(List.range ops.size).filter (fun j=>!listed.getD j true):=List.mem_filter.2 ⟨by simpa using h1,by rw [h2];rfl⟩;have e1:(List.range ops.size).filter (fun j=>!(listed.setIfInBounds i true).getD j true)=((List.range ops.size).filter (fun j=>!listed.getD j true)).filter (fun j=>j != i):=by
       rw [List.filter_filter];refine List.filter_congr fun j hj=>?_;rw [zb3 (by omega)]
       by_cases hji:j=i <;> simp [hji]
      rw [e1,← List.Nodup.erase_eq_filter hnd,List.length_erase_of_mem hmem,hc];rfl
     ·have hp:=hL'.put e' (d:=d) h6.1.1 hq';rw [hdst];refine hp.sub fun t q'' hl=>hp.at_ t q'' ?_;unfold lk;have:d≠t:=fun he=>by rw [he] at hfresh;rw [hfresh] at hl;cases hl
      rw [ze2 this];exact hl
     ·intro j o' hj ho' e2 he2 hb2;rw [zb3 (by omega)] at hj ⊢;split
      ·rfl
      ·by_cases hji:j=i
       ·subst hji;rw [ho] at ho';cases ho';exact h3 e2 he2 hb2
       ·rw [if_neg hji] at hj;exact hcl j o' hj ho' e2 he2 hb2
     ·intro j hj hmj;rw [zb3 (by omega),if_neg (by omega)];exact hn j hj hmj
     ·intro j hj hlj d' q'' hd' hq'';rw [hdst]
      by_cases hji:j=i
      ·subst hji;rw [ho,Option.bind_some,hdst] at hd';cases hd';rw [hqi] at hq'';cases hq'';rw [zdn hL'.size h6.1.1];exact hq'
      ·rw [zb3 (by omega),if_neg hji] at hlj;have h7:=List.all_eq_true.1 h6.2 j (by simpa using hj);have h8:Nat.beq j i=false:=ze2 hji;rw [h8,Bool.false_or,hd'] at h7;have:d≠d':=fun he=>by simp [he] at h7
       rw [zel this];exact Pd.ex e' (hd j hj hlj d' q'' hd' hq'')
     ·intro j hj;rw [zb3 (by omega)];split
      ·rfl
      ·exact hl0 j hj
theorem rd {P:Program} {id:Nat} {ops:Array Oper} {Q:Exit→Act→World→Prop} {M:Nat→Prop} {n:Nat} {s0:St} {a:Act} {s:St} {L:Lst} (hf:P.follows .mixedOrders=true) (m:Nat) (qs:List Pd)
  (hL:Has M n s0 a s L) (hok:zc1 ops m n (L.map (·.1)) []=true) (hq:qs.length=m) (hm:m≤ops.size)
  (hT:∀i o q,i<m→ops[i]?=some o→qs[i]?=some q→T P ops o (zfs ops qs o.after.toList L) q)
  (hB:∀a' s',Ex s s'→Has M n s0 a' s' (zgn ops qs m L)→wpOps P ops Q (List.range' m (ops.size-m)) a' s'.w):(Code.region id ops true).wp P Q a s.w:=by
 refine wp_region_any hf ?_;have:=rd_key m qs [] hok hq hm (fun i o q h1 h2 h3 _=>hT i o q h1 h2 h3) hB ops.size (Array.replicate ops.size false) a ⟨{ s.w with drawn:=s.w.drawn+1 },s.X,s.lt⟩ (by simp) ?_ ⟨⟨DR.succ rfl,rfl,rfl,rfl,Nat.le_refl _,fun _ _ _=>rfl,fun _ h=>h.elim,fun _ h=>.inl h⟩,fun _ h=>h⟩ ?_ ?_ ?_ ?_ (fun i h=>by cases h)
 ·exact this
 ·rw [List.filter_eq_self.2]
  ·simp
  ·intro i hi;simp at hi;simp [hi]
 ·exact hL.ex ⟨⟨DR.succ rfl,rfl,rfl,rfl,Nat.le_refl _,fun _ _ _=>rfl,fun _ h=>h.elim,fun _ h=>.inl h⟩,fun _ h=>h⟩
 ·intro i o h;simp [Array.getD] at h
 ·intro i hi _;simp [hi]
 ·intro i hi h;simp [show i<ops.size by omega] at h
def TY (P:Program) (o:Oper) (L:Lst) (q:Pd):Prop:=o.guard=none∧∀M n s0 a s,Has M n s0 a s L→∃v,(∀w,(execOp a.eval o).run P w = .ok (.value v) w)∧q.p s v
theorem rdf {P:Program} {id:Nat} {ops:Array Oper} {Q:Exit→Act→World→Prop} {M:Nat→Prop} {n:Nat} {s0:St} {a:Act} {s:St} {L:Lst} (N:Nat) (hf:P.follows .mixedOrders=true) (hL:Has M n s0 a s L) (hN:ops.size=N)
  (h:∀s',Ex s s'→Has M n s0 a s' L→wpAny P .any ops Q N (Array.replicate N false) a s'.w):(Code.region id ops true).wp P Q a s.w:=by
 refine wp_region_any hf ?_;subst hN;have e:Ex s ⟨{ s.w with drawn:=s.w.drawn+1 },s.X,s.lt⟩:=⟨⟨DR.succ rfl,rfl,rfl,rfl,Nat.le_refl _,fun _ _ _=>rfl,fun _ h=>h.elim,fun _ h=>.inl h⟩,fun _ h=>h⟩;exact h _ e (hL.ex e)
theorem zhg {P:Program} {ops:Array Oper} {Q:Exit→Act→World→Prop} {M:Nat→Prop} {n:Nat} {s0:St} {a:Act} {s:St} {L:Lst} {f:Nat} {listed:Array Bool} {o:Oper} {q:Pd} (i d:Nat) (hL:Has M n s0 a s L) (hi:ops[i]?=some o) (hs:Region.noSelect ops=true)
  (hf:Region.free .any ops listed i=true) (hr:(Region.ready .any ops listed).contains i=true) (hQ:∀v c a w,Q (.panic c) (a.put (some d) v) w→Q (.panic c) a w) (hT:TY P o L q) (hd:o.dst=some d) (hn:Nat.blt d n=true)
  (k:∀a',Has M n s0 a' s ((d,q)::L)→wpAny P .any ops Q f (listed.setIfInBounds i true) a' s.w):wpAny P .any ops Q (f+1) listed a s.w:=by
 obtain ⟨hg,hT⟩:=hT;obtain ⟨v,hv,hq⟩:=hT M n s0 a s hL;refine wpAny_take hi hs hf hr (fun c a w=>by rw [hd];exact hQ v c a w) (.inl ⟨by simp [Region.wanted,hg],hv⟩) ?_;rw [hd];exact k _ (hL.put (Ex.refl s) hn hq)
def okStart (ops:Array Oper) (listed:Array Bool) (m:Nat) (F:List Nat):Bool:=
 Nat.beq listed.size ops.size&&(List.range ops.size).all fun i=>(listed.getD i true==F.contains i)&&(!F.contains i||(Nat.blt i m&&(match ops[i]? with
  | none=>false
  | some o=>o.after.toList.all fun e=>!Region.binds .any e||F.contains e.on&&Nat.blt e.on ops.size)))
inductive FlOk (ops:Array Oper) (qs:List Pd) (L:Lst):List Nat→Prop
 | nil:FlOk ops qs L []
 | cons {i d:Nat} {o:Oper} {q:Pd} {r:List Nat} (ho:ops[i]?=some o) (hd:o.dst=some d) (hq:qs[i]?=some q) (hl:lk L d=some q) (h:FlOk ops qs L r):FlOk ops qs L (i::r)
theorem FlOk.at {ops:Array Oper} {qs:List Pd} {L:Lst} {F:List Nat} (h:FlOk ops qs L F):∀i∈F,∃o d q,ops[i]?=some o∧o.dst=some d∧qs[i]?=some q∧lk L d=some q:=by
 induction h with
 | nil=>intro i h;cases h
 | cons ho hd hq hl _ ih=>
  intro i hi;rcases List.mem_cons.1 hi with rfl | hi
  ·exact ⟨_,_,_,ho,hd,hq,hl⟩
  ·exact ih i hi
end
end Go.Proofs.YtaknifhhnhcchaaDoor.V
namespace Go.Proofs.YtaknifhhnhcchaaDoor.V
open Go
set_option linter.unusedVariables false
section
variable {u : Bool} [Dr u]
def zc4 (s:St):Nat→Prop:=fun b=>b<s.w.heap.size∧¬ s.X b
def Same (S:Nat→Prop) (w w':World):Prop:=∀b,S b→w'.heap[b]?=w.heap[b]?
structure En (α:Type) where
 sz:Nat
 agg:Bool
 R:World→(Nat→Prop)→List Value→α→Prop
 sc:agg=false→sz=1
 pos:0<sz
 len:∀{w S cs x},R w S cs x→cs.length=sz
 one:∀{w S cs x},R w S cs x→∀u∈cs,u.oneCell'=true
 mono:∀{w S S' cs x},(∀b,S b→S' b)→R w S cs x→R w S' cs x
 move:∀{w w' S cs x},Same S w w'→R w S cs x→R w' S cs x
def En.val {α:Type} (E:En α) (cs:List Value):Value:=bif E.agg then .agg cs.toArray else cs.headD undef
theorem En.val_cells {α:Type} {E:En α} {w S cs x} (h:E.R w S cs x):(E.val cs).cells=cs.toArray:=by
 unfold En.val;cases ha:E.agg
 ·have hl:=E.len h;rw [E.sc ha] at hl
  match cs,hl with
  | [u],_=>
   have h1:=E.one h u (by simp);simp only [cond_false,List.headD_cons];cases u <;> first | rfl | simp [Value.oneCell'] at h1
 ·rfl
theorem En.go {α:Type} (E:En α) {T:Nat→Prop} {s s':St} {cs:List Value} {x:α} (h:Mv T s s') (hR:E.R s.w (zc4 s) cs x):E.R s'.w (zc4 s') cs x:=
 E.mono (fun b hb=>⟨Nat.lt_of_lt_of_le hb.1 h.size,fun hx=>(h.xx b hx).elim hb.2 (fun hk=>by have:=hb.1;omega)⟩)
  (E.move (fun b hb=>h.blk b hb.1 (fun ht=>hb.2 (h.tx b ht))) hR)
def Pd.rep {α:Type} (E:En α) (x:α):Pd:=
 ⟨fun s v=>∃cs,v=E.val cs∧E.R s.w (zc4 s) cs x,fun _=>False,fun h _ ⟨cs,hv,hR⟩=>⟨cs,hv,E.go h hR⟩⟩
def zcp (w:World) (b o:Nat) (cs:List Value):Prop:=∀j u,cs[j]?=some u→w.cell? ⟨b,o+j,none⟩=some u
theorem zcp.same {w w':World} {b o:Nat} {cs:List Value} (h:zcp w b o cs) (hb:w'.heap[b]?=w.heap[b]?):zcp w' b o cs:=
 fun j u hu=>by rw [World.cell?_of_block (w:=w) hb];exact h j u hu
theorem zc3 (b o j:Nat):(⟨b,o,none⟩:Addr).add j=⟨b,o+j,none⟩:=by unfold Addr.add;split <;> simp_all
def Pd.ptr {α:Type} (E:En α) (x:α):Pd:=
 ⟨fun s v=>∃b o cs,v = .pointer (some ⟨b,o,none⟩)∧zc4 s b∧zcp s.w b o cs∧E.R s.w (zc4 s) cs x,fun _=>False,
  fun {T s s' v} h _ ⟨b,o,cs,hv,hb,hc,hR⟩=>⟨b,o,cs,hv,
   ⟨Nat.lt_of_lt_of_le hb.1 h.size,fun hx=>(h.xx b hx).elim hb.2 (fun hk=>by have:=hb.1;omega)⟩,
   hc.same (h.blk b hb.1 (fun ht=>hb.2 (h.tx b ht))),E.go h hR⟩⟩
def Pd.optr {α:Type} (E:En α) (N:Nat) (og:Option Nat) (o:Nat) (x:α):Pd:=
 ⟨fun s v=>∃g,og=some g∧v = .pointer (some ⟨g,o,none⟩)∧N≤g∧g<s.w.heap.size∧s.X g∧∃cs,zcp s.w g o cs∧E.R s.w (zc4 s) cs x,fun b=>og=some b,
  fun {T s s' v} h hb ⟨g,ho,hv,hN,hg,hx,cs,hc,hR⟩=>⟨g,ho,hv,hN,Nat.lt_of_lt_of_le hg h.size,(hb g ho).2 hx,cs,hc.same (h.blk g hg (hb g ho).1),E.go h hR⟩⟩
def Pd.box {α:Type} (E:En α) (N g:Nat) (x:α):Pd:=
 ⟨fun s v=>v = .pointer (some ⟨g,0,none⟩)∧N≤g∧s.X g∧∃cs t,s.w.heap[g]?=some (.cells cs.toArray t (0,0))∧E.R s.w (zc4 s) cs x,fun b=>b=g,
  fun {T s s' v} h hb ⟨hv,hN,hx,cs,t,hc,hR⟩=>⟨hv,hN,(hb g rfl).2 hx,cs,t,by
   rw [h.blk g (Array.getElem?_eq_some_iff.1 hc).1 (hb g rfl).1];exact hc,E.go h hR⟩⟩
def InR (k:IntKind) (x:Int):Prop:=k.min≤x∧x≤k.max
instance (k : IntKind) (x : Int) : Decidable (InR k x):=by unfold InR; infer_instance
def En.int (k:IntKind):En Int where
 sz:=1
 agg:=false
 R:=fun _ _ cs x=>cs=[.int k x]∧InR k x
 sc:=fun _=>rfl
 pos:=Nat.one_pos
 len:=by rintro _ _ _ _ ⟨rfl,_⟩;rfl
 one:=by rintro _ _ _ _ ⟨rfl,_⟩ u hu;simp at hu;subst hu;rfl
 mono:=fun _ h=>h
 move:=fun _ h=>h
def En.bool:En Bool where
 sz:=1
 agg:=false
 R:=fun _ _ cs x=>cs=[.bool x]
 sc:=fun _=>rfl
 pos:=Nat.one_pos
 len:=by rintro _ _ _ _ rfl;rfl
 one:=by rintro _ _ _ _ rfl u hu;simp at hu;subst hu;rfl
 mono:=fun _ h=>h
 move:=fun _ h=>h
abbrev Str:=List UInt8
def En.str:En Str where
 sz:=1
 agg:=false
 R:=fun _ _ cs x=>cs=[.string ⟨x.toArray⟩]∧x.length≤9223372036854775807
 sc:=fun _=>rfl
 pos:=Nat.one_pos
 len:=by rintro _ _ _ _ ⟨rfl,_⟩;rfl
 one:=by rintro _ _ _ _ ⟨rfl,_⟩ u hu;simp at hu;subst hu;rfl
 mono:=fun _ h=>h
 move:=fun _ h=>h
theorem z7 {k:IntKind} {x:Int} {s:St} {v:Value}:(Pd.rep (En.int k) x).p s v↔v = .int k x∧InR k x:=
 ⟨fun ⟨_,hv,hc,hr⟩=>by subst hc;exact ⟨hv,hr⟩,fun ⟨hv,hr⟩=>⟨[.int k x],hv,rfl,hr⟩⟩
theorem zbl {x:Bool} {s:St} {v:Value}:(Pd.rep En.bool x).p s v↔v = .bool x:=
 ⟨fun ⟨_,hv,hc⟩=>by cases hc;exact hv,fun hv=>⟨[.bool x],hv,rfl⟩⟩
theorem rep_str {x:Str} {s:St} {v:Value}:(Pd.rep En.str x).p s v↔v = .string ⟨x.toArray⟩∧x.length≤9223372036854775807:=
 ⟨fun ⟨_,hv,hc,hr⟩=>by subst hc;exact ⟨hv,hr⟩,fun ⟨hv,hr⟩=>⟨[.string ⟨x.toArray⟩],hv,rfl,hr⟩⟩
def Opn (L:Lst) (x:Operand) (q:Pd):Prop:=∀M n s0 a s,Has M n s0 a s L→q.p s (a.eval x)
theorem o_t {L:Lst} (t:Nat) {q:Pd} (h:lk L t=some q):Opn L (.tmp t) q:=fun _ _ _ _ _ hL=>hL.get t h
theorem O {L:Lst}(t:Nat){q:Pd}(h:lk L t=some q):Opn L (.tmp t) q:=o_t t h
theorem o_c {L:Lst} {v:Value} {q:Pd} (h:∀s,q.p s v):Opn L (.const v) q:=fun _ _ _ _ s _=>h s
theorem o_i {L:Lst} {k:IntKind} {x:Int} (h:InR k x):Opn L (.const (.int k x)) (Pd.rep (En.int k) x):=o_c fun _=>z7.2 ⟨rfl,h⟩
theorem oI {L:Lst}{x:Int}(h:InR .i64 x:=by decide):Opn L (.const (.int .i64 x)) (Pd.rep (En.int .i64) x):=o_i h
abbrev Pi (x:Int):Pd:=Pd.rep (En.int .i64) x
theorem o_b {L:Lst} {x:Bool}:Opn L (.const (.bool x)) (Pd.rep En.bool x):=o_c fun _=>zbl.2 rfl
section
variable {P : Program} {ops : Array Oper} {o : Oper} {L : Lst}
theorem T.mk {q:Pd} (hg:o.guard=none) (h:∀M n s0 a s,Has M n s0 a s L→∃v s',(execOp a.eval o).run P s.w = .ok (.value v) s'.w∧Ex s s'∧q.p s' v):T P ops o L q:=
 fun M n s0 a s hL=>by
  obtain ⟨v,s',h1,h2,h3⟩:=h M n s0 a s hL;exact OpR.of_run hg h1 ⟨h2,h3⟩
theorem T.pure {q:Pd} (hg:o.guard=none) (h:∀M n s0 a s,Has M n s0 a s L→∃v,(execOp a.eval o).run P s.w = .ok (.value v) s.w∧q.p s v):T P ops o L q:=
 T.mk hg fun M n s0 a s hL=>let ⟨v,h1,h2⟩:=h M n s0 a s hL;⟨v,s,h1,Ex.refl s,h2⟩
theorem ze {x:Operand} {q:Pd} (h:Opn L x q) (ho:o.op = .move x) (hg:o.guard=none):T P ops o L q:=
 T.pure hg fun M n s0 a s hL=>⟨a.eval x,by unfold execOp;rw [ho];rfl,h M n s0 a s hL⟩
theorem zg {x:Operand} {q:Pd} (h:Opn L x q) (ho:o.op = .assign x) (hg:o.guard=none):T P ops o L q:=
 T.pure hg fun M n s0 a s hL=>⟨a.eval x,by unfold execOp;rw [ho];rfl,h M n s0 a s hL⟩
theorem wrap_in {k:IntKind} {x:Int} (h:InR k x):k.wrap x=x:=by
 unfold InR at h;cases k <;> simp [IntKind.min,IntKind.max,IntKind.signed,IntKind.bits] at h <;> simp [IntKind.wrap,IntKind.signed,IntKind.bits] <;> omega
theorem t_arith {k:IntKind} {x y:Operand} {a b:Int} (op:BinOp) (f:Int→Int→Int) (hf:∀a b,(Op.intArith op k a b:Sem Value)=Pure.pure (.int k (k.wrap (f a b)))) (hop:op = .add∨op = .sub∨op = .mul)
  (hx:Opn L x (Pd.rep (En.int k) a)) (hy:Opn L y (Pd.rep (En.int k) b)) (hr:InR k (f a b)) {t u:TypeId} (ho:o.op = .binOp op t x y u) (hg:o.guard=none):
  T P ops o L (Pd.rep (En.int k) (f a b)):=
 T.pure hg fun M n s0 ac s hL=>by
  have h1:=(z7.1 (hx M n s0 ac s hL)).1;have h2:=(z7.1 (hy M n s0 ac s hL)).1;refine ⟨.int k (f a b), ?_,z7.2 ⟨rfl,hr⟩⟩;unfold execOp;rw [ho];simp only [h1,h2];rcases hop with rfl | rfl | rfl <;> simp [eqGuard,binOp,hf,wrap_in hr]
theorem t_add {k:IntKind} {x y:Operand} {a b:Int} (hx:Opn L x (Pd.rep (En.int k) a)) (hy:Opn L y (Pd.rep (En.int k) b)) (hr:InR k (a+b)) {t u:TypeId} (ho:o.op = .binOp .add t x y u) (hg:o.guard=none):
  T P ops o L (Pd.rep (En.int k) (a+b)):=t_arith .add (· + ·) (fun _ _=>rfl) (.inl rfl) hx hy hr ho hg
theorem t_sub {k:IntKind} {x y:Operand} {a b:Int} (hx:Opn L x (Pd.rep (En.int k) a)) (hy:Opn L y (Pd.rep (En.int k) b)) (hr:InR k (a-b)) {t u:TypeId} (ho:o.op = .binOp .sub t x y u) (hg:o.guard=none):
  T P ops o L (Pd.rep (En.int k) (a-b)):=t_arith .sub (· - ·) (fun _ _=>rfl) (.inr (.inl rfl)) hx hy hr ho hg
theorem t_mul {k:IntKind} {x y:Operand} {a b:Int} (hx:Opn L x (Pd.rep (En.int k) a)) (hy:Opn L y (Pd.rep (En.int k) b)) (hr:InR k (a*b)) {t u:TypeId} (ho:o.op = .binOp .mul t x y u) (hg:o.guard=none):
  T P ops o L (Pd.rep (En.int k) (a*b)):=t_arith .mul (· * ·) (fun _ _=>rfl) (.inr (.inr rfl)) hx hy hr ho hg
theorem t_cmp {k:IntKind} {x y:Operand} {a b:Int} (op:BinOp) (f:Int→Int→Bool) (hf:(fun a b=>(Op.intCmp op a b:Sem Value))=fun a b=>Pure.pure (.bool (f a b)))
  (hop:op = .lss∨op = .leq∨op = .gtr∨op = .geq∨op = .eql∨op = .neq)
  (hx:Opn L x (Pd.rep (En.int k) a)) (hy:Opn L y (Pd.rep (En.int k) b)) {t u:TypeId} (ho:o.op = .binOp op t x y u) (hg:o.guard=none):
  T P ops o L (Pd.rep En.bool (f a b)):=
 T.pure hg fun M n s0 ac s hL=>by
  have h1:=(z7.1 (hx M n s0 ac s hL)).1;have h2:=(z7.1 (hy M n s0 ac s hL)).1;have hf':(Op.intCmp op a b:Sem Value)=Pure.pure (.bool (f a b)):=congrFun (congrFun hf a) b;refine ⟨.bool (f a b), ?_,zbl.2 rfl⟩;unfold execOp;rw [ho];simp only [h1,h2];rcases hop with rfl | rfl | rfl | rfl | rfl | rfl <;> simp [eqGuard,binOp,hf']
theorem t_lss {k:IntKind} {x y:Operand} {a b:Int} (hx:Opn L x (Pd.rep (En.int k) a)) (hy:Opn L y (Pd.rep (En.int k) b)) {t u:TypeId} (ho:o.op = .binOp .lss t x y u) (hg:o.guard=none):
  T P ops o L (Pd.rep En.bool (decide (a<b))):=t_cmp .lss (fun a b=>decide (a<b)) rfl (.inl rfl) hx hy ho hg
theorem t_leq {k:IntKind} {x y:Operand} {a b:Int} (hx:Opn L x (Pd.rep (En.int k) a)) (hy:Opn L y (Pd.rep (En.int k) b)) {t u:TypeId} (ho:o.op = .binOp .leq t x y u) (hg:o.guard=none):
  T P ops o L (Pd.rep En.bool (decide (a≤b))):=t_cmp .leq (fun a b=>decide (a≤b)) rfl (.inr (.inl rfl)) hx hy ho hg
theorem t_gtr {k:IntKind} {x y:Operand} {a b:Int} (hx:Opn L x (Pd.rep (En.int k) a)) (hy:Opn L y (Pd.rep (En.int k) b)) {t u:TypeId} (ho:o.op = .binOp .gtr t x y u) (hg:o.guard=none):
  T P ops o L (Pd.rep En.bool (decide (b<a))):=t_cmp .gtr (fun a b=>decide (b<a)) rfl (.inr (.inr (.inl rfl))) hx hy ho hg
theorem t_geq {k:IntKind} {x y:Operand} {a b:Int} (hx:Opn L x (Pd.rep (En.int k) a)) (hy:Opn L y (Pd.rep (En.int k) b)) {t u:TypeId} (ho:o.op = .binOp .geq t x y u) (hg:o.guard=none):
  T P ops o L (Pd.rep En.bool (decide (b≤a))):=t_cmp .geq (fun a b=>decide (b≤a)) rfl (.inr (.inr (.inr (.inl rfl)))) hx hy ho hg
theorem zdv {k:IntKind} {x y:Operand} {a b:Int} (hx:Opn L x (Pd.rep (En.int k) a)) (hy:Opn L y (Pd.rep (En.int k) b)) {t u:TypeId} (ho:o.op = .binOp .eql t x y u) (hg:o.guard=none):
  T P ops o L (Pd.rep En.bool (a==b)):=t_cmp .eql (fun a b=>a==b) rfl (.inr (.inr (.inr (.inr (.inl rfl))))) hx hy ho hg
theorem t_nei {k:IntKind} {x y:Operand} {a b:Int} (hx:Opn L x (Pd.rep (En.int k) a)) (hy:Opn L y (Pd.rep (En.int k) b)) {t u:TypeId} (ho:o.op = .binOp .neq t x y u) (hg:o.guard=none):
  T P ops o L (Pd.rep En.bool (a != b)):=t_cmp .neq (fun a b=>a != b) rfl (.inr (.inr (.inr (.inr (.inr rfl))))) hx hy ho hg
theorem t_not {x:Operand} {a:Bool} (hx:Opn L x (Pd.rep En.bool a)) {t:TypeId} (ho:o.op = .unOp .not t x) (hg:o.guard=none):T P ops o L (Pd.rep En.bool (!a)):=
 T.pure hg fun M n s0 ac s hL=>by
  have h1:=zbl.1 (hx M n s0 ac s hL);refine ⟨.bool (!a), ?_,zbl.2 rfl⟩;unfold execOp;rw [ho];simp [h1,Op.unary]
structure Ty {α:Type} (P:Program) (t:TypeId) (E:En α):Prop where
 info:∃i z,P.info? t=some i∧i.size=E.sz∧i.zero=some z∧z.cells.size=E.sz∧i.bytes≤65536
 agg:∃d,P.underlying t=some d∧(match d with | .struct _ | .array _ _=>true | _=>false)=E.agg
theorem zfx {α:Type} {t:TypeId} {E:En α} (h:Ty P t E) (w:World):(isAgg t).run P w = .ok E.agg w:=by
 obtain ⟨d,hd,he⟩:=h.agg;unfold isAgg;simp only [Sem.run_bind,run_underlying hd,Result.andThen_ok];rw [← he];cases d <;> rfl
theorem z6 {α:Type} {t:TypeId} {E:En α} (h:Ty P t E) (w:World):(sizeOf t).run P w = .ok E.sz w:=by
 obtain ⟨i,z,hi,he,_⟩:=h.info;simp [sizeOf,typeInfo,hi,he]
theorem zc6 {α:Type} {t:TypeId} {E:En α} (h:Ty P t E) {w w':World} {S:Nat→Prop} {cs:List Value} {x:α} (hR:E.R w' S cs x) {b o:Nat} (hc:zcp w b o cs):
  (loadVar t ⟨b,o,none⟩).run P w = .ok (E.val cs) w:=by
 unfold loadVar;simp only [Sem.run_bind,zfx h,Result.andThen_ok];have hl:=E.len hR;cases ha:E.agg
 ·have h1:=E.sc ha;rw [h1] at hl
  match cs,hl with
  | [u],_=>
   have:=hc 0 u rfl;simp [En.val,ha,show w.cell? ⟨b,o,none⟩=some u from this]
 ·simp only [if_true,Sem.run_bind,z6 h,Result.andThen_ok];have:(loadCells ⟨b,o,none⟩ E.sz).run P w = .ok cs.toArray w:=by
   rw [← hl];exact run_loadCells_list w ⟨b,o,none⟩ cs (fun j v hv=>by rw [zc3];exact hc j v hv)
  simp [this,En.val,ha]
theorem zbd {α:Type} {E:En α} {x:α} {y:Operand} {t:TypeId} (ht:Ty P t E) (hy:Opn L y (Pd.ptr E x)) (ho:o.op = .load t y) (hg:o.guard=none):T P ops o L (Pd.rep E x):=
 T.pure hg fun M n s0 ac s hL=>by
  obtain ⟨b,off,cs,hv,hb,hc,hR⟩:=hy M n s0 ac s hL;refine ⟨E.val cs, ?_,cs,rfl,hR⟩;unfold execOp;rw [ho];simp [hv,Instr.loadAt,Instr.sureAddr,zc6 ht hR hc]
theorem z1 {α:Type} {E:En α} {x:α} {y:Operand} {t:TypeId} {N off:Nat} {og:Option Nat} (ht:Ty P t E) (hy:Opn L y (Pd.optr E N og off x)) (ho:o.op = .load t y) (hg:o.guard=none):T P ops o L (Pd.rep E x):=
 T.pure hg fun M n s0 ac s hL=>by
  obtain ⟨g,_,hv,_,_,_,cs,hc,hR⟩:=hy M n s0 ac s hL;refine ⟨E.val cs, ?_,cs,rfl,hR⟩;unfold execOp;rw [ho];simp [hv,Instr.loadAt,Instr.sureAddr,zc6 ht hR hc]
theorem zco {w:World} {g:Nat} {cs:List Value} {t:TypeId} {fr:Nat × Nat} (h:w.heap[g]?=some (.cells cs.toArray t fr)):zcp w g 0 cs:=
 fun j u hu=>by rw [Nat.zero_add,cell_of_row w g j cs.toArray t fr h];simpa using hu
theorem zb0 {α:Type} {E:En α} {x:α} {y:Operand} {t:TypeId} {N g:Nat} (ht:Ty P t E) (hy:Opn L y (Pd.box E N g x)) (ho:o.op = .load t y) (hg:o.guard=none):T P ops o L (Pd.rep E x):=
 T.pure hg fun M n s0 ac s hL=>by
  obtain ⟨hv,_,_,cs,t',hc,hR⟩:=hy M n s0 ac s hL;refine ⟨E.val cs, ?_,cs,rfl,hR⟩;unfold execOp;rw [ho];simp [hv,Instr.loadAt,Instr.sureAddr,zc6 ht hR (zco hc)]
theorem run_conv {k k':IntKind} {t u:TypeId} {x:Int} (ht:P.underlying t=some (.int k)) (hu:P.underlying u=some (.int k')) (w:World):(convert t u (.int k x)).run P w = .ok (.int k' (k'.wrap x)) w:=by
 simp [convert,run_underlying ht,run_underlying hu,go_sem]
theorem t_up {k k':IntKind} {x:Int} {y:Operand} {t u:TypeId} (hy:Opn L y (Pd.rep (En.int k) x)) (hk:k'.min≤k.min∧k.max≤k'.max) (ht:P.underlying t=some (.int k)) (hu:P.underlying u=some (.int k')) (ho:o.op = .convert t u y) (hg:o.guard=none):
  T P ops o L (Pd.rep (En.int k') x):=
 T.pure hg fun M n s0 ac s hL=>by
  obtain ⟨h1,h2⟩:=z7.1 (hy M n s0 ac s hL);have hr:InR k' x:=⟨Int.le_trans hk.1 h2.1,Int.le_trans h2.2 hk.2⟩;refine ⟨.int k' x, ?_,z7.2 ⟨rfl,hr⟩⟩;unfold execOp;rw [ho];have:=run_conv (k:=k) (k':=k') (x:=x) ht hu s.w;simp only [h1,Sem.run_bind,this,Result.andThen_ok,Sem.run_pure,wrap_in hr]
theorem t_g {c0:Prop} {b want:Bool} {j d:Nat} {q:Pd} (hg:o.guard=some (j,want)) (hj:(ops[j]?).bind (·.dst)=some d) (hl:lk L d=some (Pd.when c0 (Pd.rep En.bool b))) (h:c0∧b=want→T P ops { o with guard:=none } L q):
  T P ops o L (Pd.when (c0∧b=want) q):=fun M n s0 a s hL Q k hk=>by
 have hd:=hL.get d hl;have hw:Region.wanted o (yielded ops a.tmps)=true↔c0∧b=want:=by
  simp only [Region.wanted,hg];have:yielded ops a.tmps j=match a.eval (.tmp d) with | .bool x=>some x | _=>none:=by
   unfold yielded;cases ho:ops[j]? with
   | none=>rw [ho] at hj;cases hj
   | some oj=>
    rw [ho] at hj;simp only [Option.bind_some] at hj;simp only [hj,Act.eval,Option.bind_some,Array.getD_eq_getD_getElem?];cases a.tmps[d]? with
    | none=>simp [undef]
    | some v=>cases v <;> rfl
  rw [this]
  by_cases h0:c0
  ·rw [zbl.1 (hd.1 h0)];simp [h0]
  ·rw [hd.2 h0];simp [h0,undef]
 by_cases hc:c0∧b=want
 ·rw [if_pos (hw.2 hc)];have:=h hc M n s0 a s hL Q k (fun v s' ⟨e,hq⟩=>hk v s' ⟨e,fun _=>hq,fun hn=>absurd hc hn⟩);obtain ⟨dst,op,type,pos,after,guard⟩:=o;exact this
 ·rw [if_neg (fun h=>hc (hw.1 h))];exact hk undef s ⟨Ex.refl s,fun h=>absurd h hc,fun _=>rfl⟩
theorem zbu {b want:Bool} {j d:Nat} {q:Pd} (hg:o.guard=some (j,want)) (hj:(ops[j]?).bind (·.dst)=some d) (hl:lk L d=some (Pd.rep En.bool b)) (h:b=want→T P ops { o with guard:=none } L q):
  T P ops o L (Pd.when (b=want) q):=fun M n s0 a s hL Q k hk=>by
 have hd:=zbl.1 (hL.get d hl);have hw:Region.wanted o (yielded ops a.tmps)=true↔b=want:=by
  simp only [Region.wanted,hg];have:yielded ops a.tmps j=match a.eval (.tmp d) with | .bool x=>some x | _=>none:=by
   unfold yielded;cases ho:ops[j]? with
   | none=>rw [ho] at hj;cases hj
   | some oj=>
    rw [ho] at hj;simp only [Option.bind_some] at hj;simp only [hj,Act.eval,Option.bind_some,Array.getD_eq_getD_getElem?];cases a.tmps[d]? with
    | none=>simp [undef]
    | some v=>cases v <;> rfl
  rw [this,hd];simp
 by_cases hc:b=want
 ·rw [if_pos (hw.2 hc)];have:=h hc M n s0 a s hL Q k (fun v s' ⟨e,hq⟩=>hk v s' ⟨e,fun _=>hq,fun hn=>absurd hc hn⟩);obtain ⟨dst,op,type,pos,after,guard⟩:=o;exact this
 ·rw [if_neg (fun h=>hc (hw.1 h))];exact hk undef s ⟨Ex.refl s,fun h=>absurd h hc,fun _=>rfl⟩
theorem o_w {c:Prop} (hc:c) (t:Nat) {q:Pd} (h:lk L t=some (Pd.when c q)):Opn L (.tmp t) q:=fun _ _ _ _ _ hL=>(hL.get t h).1 hc
theorem ze5 {x y:Operand} {a b:Bool} (hx:Opn L x (Pd.rep En.bool a)) (hy:a=true→Opn L y (Pd.rep En.bool b)) (ho:o.op = .pick x y (.const (.bool false))) (hg:o.guard=none):T P ops o L (Pd.rep En.bool (a&&b)):=
 T.pure hg fun M n s0 ac s hL=>by
  have h1:=zbl.1 (hx M n s0 ac s hL);refine ⟨.bool (a&&b), ?_,zbl.2 rfl⟩;unfold execOp;rw [ho];cases a
  ·have hcn:ac.eval (.const (.bool false)) = .bool false:=rfl;simp [h1,asBool,hcn]
  ·have h2:=zbl.1 (hy rfl M n s0 ac s hL);simp [h1,h2,asBool]
theorem t_or {x y:Operand} {a b:Bool} (hx:Opn L x (Pd.rep En.bool a)) (hy:a=false→Opn L y (Pd.rep En.bool b)) (ho:o.op = .pick x (.const (.bool true)) y) (hg:o.guard=none):T P ops o L (Pd.rep En.bool (a||b)):=
 T.pure hg fun M n s0 ac s hL=>by
  have h1:=zbl.1 (hx M n s0 ac s hL);refine ⟨.bool (a||b), ?_,zbl.2 rfl⟩;unfold execOp;rw [ho];cases a
  ·have h2:=zbl.1 (hy rfl M n s0 ac s hL);simp [h1,h2,asBool]
  ·have hcn:ac.eval (.const (.bool true)) = .bool true:=rfl;simp [h1,asBool,hcn]
def St.push (s:St) (ob:Obj):St:=⟨s.w.alloc ob,s.X,fun b hb=>Nat.lt_of_lt_of_le (s.lt b hb) (by simp)⟩
theorem Ex.push (s:St) (ob:Obj):Ex s (s.push ob):=
 ⟨⟨DR.eq rfl,rfl,rfl,rfl,by simp [St.push],fun b hb _=>Go.RowKit.Below.heap_alloc s.w ob b hb,fun _ h=>h.elim,fun _ h=>.inl h⟩,fun _ h=>h⟩
end
end
end Go.Proofs.YtaknifhhnhcchaaDoor.V
namespace Go.Proofs.YtaknifhhnhcchaaDoor.V
open Go
set_option linter.unusedVariables false
section
variable {u : Bool} [Dr u]
def at? {α:Type} (xs:List α) (i:Int):Option α:=if 0≤i then xs[i.toNat]? else none
def Els {α:Type} (E:En α) (w:World) (S:Nat→Prop) (css:List (List Value)) (xs:List α):Prop:=
 css.length=xs.length∧∀(i:Nat) (cs:List Value) (x:α),css[i]?=some cs→xs[i]?=some x→E.R w S cs x
theorem Els.lens {α:Type} {E:En α} {w S css} {xs:List α} (h:Els E w S css xs):∀cs∈css,cs.length=E.sz:=by
 intro cs hcs;obtain ⟨i,hi⟩:=List.getElem?_of_mem hcs;have hlt:i<css.length:=(List.getElem?_eq_some_iff.1 hi).1;have hx:xs[i]?=some (xs[i]'(h.1 ▸ hlt)):=by simp
 exact E.len (h.2 i cs _ hi hx)
theorem zd8 {css:List (List Value)} {n:Nat} (h:∀cs∈css,cs.length=n):css.flatten.length=css.length*n:=by
 induction css with
 | nil=>simp
 | cons c r ih=>
  simp only [List.flatten_cons,List.length_append,List.length_cons];rw [ih (fun x hx=>h x (by simp [hx])),h c (by simp),Nat.add_mul];omega
theorem zez {css:List (List Value)} {n:Nat} (h:∀cs∈css,cs.length=n):∀{i:Nat} {cs:List Value} {j:Nat} {u:Value},css[i]?=some cs→cs[j]?=some u→css.flatten[i*n+j]?=some u:=by
 induction css with
 | nil=>intro i cs j u hi;simp at hi
 | cons c r ih=>
  intro i cs j u hi hj;have hc:c.length=n:=h c (by simp);cases i with
  | zero=>
   simp at hi;subst hi;rw [List.flatten_cons,Nat.zero_mul,Nat.zero_add,List.getElem?_append_left (List.getElem?_eq_some_iff.1 hj).1];exact hj
  | succ i=>
   simp at hi;rw [List.flatten_cons,List.getElem?_append_right (by rw [hc,Nat.succ_mul];omega)];rw [show (i+1)*n+j-c.length=i*n+j by rw [hc,Nat.succ_mul];omega];exact ih (fun x hx=>h x (by simp [hx])) hi hj
def lim:Nat:=9223372036854775807
def SlV {α:Type} (E:En α) (w:World) (S:Nat→Prop) (v:Value) (xs:List α):Prop:=
 ∃ad cap,v = .slice ad xs.length cap∧xs.length≤cap∧(ad=none→cap=0)∧xs.length≤lim ∧
  (xs≠[]→∃b off css,ad=some ⟨b,off,none⟩∧S b∧Els E w S css xs∧zcp w b off css.flatten)
def En.slice {α:Type} (E:En α):En (List α) where
 sz:=1
 agg:=false
 R:=fun w S cs xs=>∃v,cs=[v]∧SlV E w S v xs
 sc:=fun _=>rfl
 pos:=Nat.one_pos
 len:=by rintro _ _ _ _ ⟨v,rfl,_⟩;rfl
 one:=by rintro _ _ _ _ ⟨v,rfl,ad,cap,rfl,_⟩ u hu;simp at hu;subst hu;rfl
 mono:=by
  rintro w S S' cs xs h ⟨v,rfl,ad,cap,hv,h1,h2,h3,h4⟩
  refine ⟨v,rfl,ad,cap,hv,h1,h2,h3,fun hne=>?_⟩
  obtain ⟨b,off,css,e,hb,hE,hc⟩:=h4 hne
  exact ⟨b,off,css,e,h b hb,⟨hE.1,fun i cs x a b=>E.mono h (hE.2 i cs x a b)⟩,hc⟩
 move:=by
  rintro w w' S cs xs h ⟨v,rfl,ad,cap,hv,h1,h2,h3,h4⟩
  refine ⟨v,rfl,ad,cap,hv,h1,h2,h3,fun hne=>?_⟩
  obtain ⟨b,off,css,e,hb,hE,hc⟩:=h4 hne
  exact ⟨b,off,css,e,hb,⟨hE.1,fun i cs x a b=>E.move h (hE.2 i cs x a b)⟩,hc.same (h b hb)⟩
theorem zbp {α:Type} {E:En α} {xs:List α} {s:St} {v:Value}:(Pd.rep (En.slice E) xs).p s v↔SlV E s.w (zc4 s) v xs:=
 ⟨fun ⟨_,hv,u,hc,h⟩=>by subst hc;subst hv;exact h,fun h=>⟨[v],rfl,v,rfl,h⟩⟩
theorem zei {α:Type} (E:En α) (w:World) (S:Nat→Prop):SlV E w S (.slice none 0 0) ([]:List α):=⟨none,0,rfl,Nat.le_refl _,fun _=>rfl,Nat.zero_le _,fun h=>absurd rfl h⟩
def Pd.row {α:Type} (E:En α) (N:Nat) (te:TypeId) (og:Option Nat) (xs:List α):Pd:=
 ⟨fun s v=>v.ownBlock=og∧(∀g,og=some g→s.X g)∧xs.length≤lim∧∃css,Els E s.w (zc4 s) css xs∧s.w.ownsRow N te E.sz v xs.length css.flatten,fun b=>og=some b,
  by
   rintro T s s' v h hb ⟨h1,h2,h3,css,h4,h5⟩
   refine ⟨h1,fun g hg=>(hb g hg).2 (h2 g hg),h3,css,⟨h4.1,fun i cs x a b=>E.go h (h4.2 i cs x a b)⟩,h5.1, ?_⟩
   rcases h5.2 with hn | ⟨g,cap,cur,e,hN,hg,rest⟩
   ·exact .inl hn
   ·subst e
    have hog:og=some g:=by rw [← h1];rfl
    refine .inr ⟨g,cap,cur,rfl,hN, ?_,rest⟩
    rw [h.blk g (Array.getElem?_eq_some_iff.1 hg).1 (hb g hog).1];exact hg⟩
theorem own_nil {α:Type} (E:En α) (N:Nat) (te:TypeId) (s:St):(Pd.row E N te none ([]:List α)).p s (.slice none 0 0):=by
 refine ⟨rfl, ?_,Nat.zero_le _,[],⟨rfl, ?_⟩,World.ownsRow_nil _ _ _ _⟩
 ·intro g h;cases h
 ·intro i cs x h;simp at h
theorem own_slV {α:Type} {E:En α} {N:Nat} {te:TypeId} {og:Option Nat} {xs:List α} {s s':St} {v:Value} (h:(Pd.row E N te og xs).p s v) (hw:s'.w=s.w)
  (hX:∀b,s'.X b→s.X b∧og≠some b):SlV E s'.w (zc4 s') v xs:=by
 obtain ⟨h1,h2,h3,css,h4,h5⟩:=h;have hf:∀b,zc4 s b→zc4 s' b:=fun b hb=>⟨by rw [hw];exact hb.1,fun hx=>hb.2 (hX b hx).1⟩;have h4':Els E s'.w (zc4 s') css xs:=⟨h4.1,fun i cs x a b=>by rw [hw];exact E.mono hf (h4.2 i cs x a b)⟩;rcases h5.2 with ⟨e,hn⟩ | ⟨g,cap,cur,e,hN,hg,hnc,hcm,hcs,ht⟩
 ·have:xs=[]:=List.eq_nil_of_length_eq_zero hn;subst this;rw [e];exact zei E _ _
 ·subst e;refine ⟨some ⟨g,0,none⟩,cap,rfl,hnc,(fun e=>by cases e),h3,fun _=>⟨g,0,css,rfl,⟨?_,fun hx=>(hX g hx).2 (by rw [← h1];rfl)⟩,h4',fun j u hu=>?_⟩⟩
  ·rw [hw];exact (Array.getElem?_eq_some_iff.1 hg).1
  ·rw [hw,Nat.zero_add,cell_of_row s.w g j cur te (0,0) hg];rw [← ht,List.getElem?_take] at hu;split at hu
   ·simpa using hu
   ·cases hu
section
variable {P : Program} {ops : Array Oper} {o : Oper} {L : Lst}
theorem zeh {α:Type} {E:En α} {xs:List α} {y:Operand} {t te:TypeId} (hy:Opn L y (Pd.rep (En.slice E) xs)) (ht:P.underlying t=some (.slice te)) (ho:o.op = .call { callee:=.builtin .len,args:=#[y],argTypes:=#[t] }) (hg:o.guard=none):
  T P ops o L (Pd.rep (En.int .i64) xs.length):=
 T.pure hg fun M n s0 ac s hL=>by
  obtain ⟨ad,cap,hv,h1,h2,h3,h4⟩:=zbp.1 (hy M n s0 ac s hL);refine ⟨.int .i64 xs.length, ?_,z7.2 ⟨rfl, ?_⟩⟩
  ·unfold execOp;rw [ho];simp [resolve,invoke,builtin,hv,Builtin.len_,run_underlying ht,goInt]
  ·simp only [lim] at h3;simp [InR,IntKind.min,IntKind.max,IntKind.signed,IntKind.bits];omega
theorem zdj {α:Type} {E:En α} {xs:List α} {e:α} {k:IntKind} {i:Int} {x y:Operand} {t te:TypeId} (hx:Opn L x (Pd.rep (En.slice E) xs)) (hy:Opn L y (Pd.rep (En.int k) i)) (he:at? xs i=some e)
  (ht:P.underlying t=some (.slice te)) (hE:Ty P te E) (ho:o.op = .indexAddr t x y) (hg:o.guard=none):T P ops o L (Pd.ptr E e):=
 T.pure hg fun M n s0 ac s hL=>by
  obtain ⟨ad,cap,hv,h1,h2,h3,h4⟩:=zbp.1 (hx M n s0 ac s hL);have hi:=(z7.1 (hy M n s0 ac s hL)).1;unfold at? at he;split at he
  case isFalse=>cases he
  rename_i h0
  have hlt:i.toNat<xs.length:=(List.getElem?_eq_some_iff.1 he).1;obtain ⟨b,off,css,e1,hb,hEl,hc⟩:=h4 (by intro h;simp [h] at hlt);obtain ⟨cs,hcs⟩:∃cs,css[i.toNat]?=some cs:=⟨css[i.toNat]'(by rw [hEl.1];exact hlt),by simp⟩;refine ⟨.pointer (some ⟨b,off+i.toNat*E.sz,none⟩), ?_,b,off+i.toNat*E.sz,cs,rfl,hb, ?_,hEl.2 _ _ _ hcs he⟩
  ·unfold execOp;rw [ho];simp only [hv,hi,Instr.indexAt,asIntOf,Sem.run_bind,Sem.run_pure,Result.andThen_ok,run_underlying ht,e1];rw [if_pos (by omega)];simp [z6 hE,zc3]
  ·intro j u hu;rw [Nat.add_assoc];exact hc _ u (zez hEl.lens hcs hu)
theorem t_idxo {α:Type} {E:En α} {xs:List α} {e:α} {k:IntKind} {i:Int} {N:Nat} {og:Option Nat} {x y:Operand} {t te te':TypeId} (hx:Opn L x (Pd.row E N te' og xs)) (hy:Opn L y (Pd.rep (En.int k) i)) (he:at? xs i=some e)
  (ht:P.underlying t=some (.slice te)) (hE:Ty P te E) (ho:o.op = .indexAddr t x y) (hg:o.guard=none):T P ops o L (Pd.optr E N og (i.toNat*E.sz) e):=
 T.pure hg fun M n s0 ac s hL=>by
  obtain ⟨h1,h2,h3,css,h4,h5⟩:=hx M n s0 ac s hL;have hi:=(z7.1 (hy M n s0 ac s hL)).1;unfold at? at he;split at he
  case isFalse=>cases he
  rename_i h0
  have hlt:i.toNat<xs.length:=(List.getElem?_eq_some_iff.1 he).1;rcases h5.2 with ⟨e',hn⟩ | ⟨g',cap,cur,ev,hN,hgb,hnc,hcm,hcs',htk⟩
  ·omega
  ·have hgg:og=some g':=by rw [← h1,ev];rfl
   obtain ⟨cs,hcs⟩:∃cs,css[i.toNat]?=some cs:=⟨css[i.toNat]'(by rw [h4.1];exact hlt),by simp⟩;refine ⟨.pointer (some ⟨g',i.toNat*E.sz,none⟩), ?_,g',hgg,rfl,hN,(Array.getElem?_eq_some_iff.1 hgb).1,h2 _ hgg,cs, ?_,h4.2 _ _ _ hcs he⟩
   ·unfold execOp;rw [ho];simp only [ev,hi,Instr.indexAt,asIntOf,Sem.run_bind,Sem.run_pure,Result.andThen_ok,run_underlying ht];rw [if_pos (by omega)];simp [z6 hE,zc3]
   ·intro j u hu;have hf:=zez h4.lens hcs hu;rw [cell_of_row s.w g' _ cur te' (0,0) hgb];rw [← htk,List.getElem?_take] at hf;split at hf
    ·simpa using hf
    ·cases hf
theorem En.psh {α:Type} (E:En α) {s:St} {ob:Obj} {cs:List Value} {x:α} (h:E.R s.w (zc4 s) cs x):E.R (s.push ob).w (zc4 (s.push ob)) cs x:=E.go (Ex.push s ob).mv h
theorem zf8 (s:St) (cs:List Value) (t:TypeId):zcp (s.push (.cells cs.toArray t)).w s.w.heap.size 0 cs:=
 zco (w:=(s.push (.cells cs.toArray t)).w) (t:=t) (fr:=(0,0)) (heap_alloc_new s.w _)
theorem t_box {α:Type} {E:En α} {x:α} {y:Operand} {t:TypeId} (hy:Opn L y (Pd.rep E x)) (ho:o.op = .box t y) (hg:o.guard=none):T P ops o L (Pd.ptr E x):=
 T.mk hg fun M n s0 ac s hL=>by
  obtain ⟨cs,hv,hR⟩:=hy M n s0 ac s hL;refine ⟨.pointer (some ⟨s.w.heap.size,0,none⟩),s.push (.cells cs.toArray t), ?_,Ex.push s _,s.w.heap.size,0,cs,rfl,⟨by simp [St.push],fun h=>by have:=s.lt _ h;omega⟩,zf8 s cs t,E.psh hR⟩;unfold execOp;rw [ho];simp only [hv,Instr.box,newVar,newRow,En.val_cells hR,Sem.run_bind,run_newObj,Result.andThen_ok,Sem.run_pure];rfl
end
end
end Go.Proofs.YtaknifhhnhcchaaDoor.V
namespace Go.Proofs.YtaknifhhnhcchaaDoor.V
open Go
set_option linter.unusedVariables false
section
variable {u : Bool} [Dr u]
structure Ef (T:Nat→Prop) (s s':St):Prop where
 mv:Mv T s s'
 keep:∀b,s.X b→¬ T b→s'.X b
theorem Ef.ex {M T:Nat→Prop} {s0 s s':St} (h:Fr M s0 s) (e:Ef T s s') (hT:∀b,T b→s0.w.heap.size≤b):Fr M s0 s':=
 ⟨⟨h.mv.dr.trans e.mv.dr,e.mv.os.trans h.mv.os,e.mv.tape.trans h.mv.tape,e.mv.output.trans h.mv.output,Nat.le_trans h.mv.size e.mv.size,
  fun b hb hn=>(e.mv.blk b (Nat.lt_of_lt_of_le hb h.mv.size) (fun ht=>by have:=hT b ht;omega)).trans (h.mv.blk b hb hn),h.mv.tx,
  fun b hb=>(e.mv.xx b hb).elim (fun j=>h.mv.xx b j) (fun j=>.inr (Nat.le_trans h.mv.size j))⟩,
  fun b hb=>e.keep b (h.keep b hb) (fun ht=>by have:=hT b ht;have:=s0.lt b hb;omega)⟩
def Kp (T:Nat→Prop) (L L':Lst):Prop:=∀t q,lk L' t=some q→q=Pd.any∨lk L t=some q∧∀b,q.own b→¬ T b
theorem zek {d:Nat} {q:Pd} {L:Lst} {t:Nat}:lk ((d,q)::L) t=if d=t then some q else lk L t:=by
 rw [lk]
 by_cases h:d=t
 ·subst h;simp
 ·rw [ze2 h,if_neg h];rfl
theorem Kp.nil {T:Nat→Prop} {L:Lst}:Kp T L []:=fun t q h=>by cases h
theorem Kp.cons {T:Nat→Prop} {L:Lst} {t:Nat} {q:Pd} {r:Lst} (hl:lk L t=some q) (hq:∀b,q.own b→¬ T b) (hr:Kp T L r):Kp T L ((t,q)::r):=fun d p h=>by
 rw [zek] at h;split at h
 ·rename_i e;cases h;subst e;exact .inr ⟨hl,hq⟩
 ·exact hr d p h
theorem Kp.k {T:Nat→Prop}{L:Lst}(t:Nat){q:Pd}{r:Lst}(hr:Kp T L r)(hl:lk L t=some q:=by exact rfl)(hq:∀b,q.own b→¬T b:=by exact nE):Kp T L ((t,q)::r):=.cons hl hq hr
theorem Kp.a0 {T:Nat→Prop}:Kp T [] []:=.nil
theorem Kp.ak {T:Nat→Prop} {L L':Lst} {t:Nat} {q:Pd} (hq:∀b,q.own b→¬ T b) (h:Kp T L L'):Kp T ((t,q)::L) ((t,q)::L'):=fun d p e=>by
 rw [zek] at e ⊢;split at e
 ·rename_i e';cases e;exact .inr ⟨if_pos e',hq⟩
 ·rename_i e';rw [if_neg e'];exact h d p e
theorem Kp.ad {T:Nat→Prop} {L L':Lst} {t:Nat} {q:Pd} (h:Kp T L L'):Kp T ((t,q)::L) ((t,Pd.any)::L'):=fun d p e=>by
 rw [zek] at e ⊢;split at e
 ·cases e;exact .inl rfl
 ·rename_i e';rw [if_neg e'];exact h d p e
theorem Kp.p {T:Nat→Prop} {L L':Lst} (h:Kp T L L') {s s':St} {a:Act} (hL:∀t q,lk L t=some q→q.p s (a.eval (.tmp t))) (m:∀(q:Pd) v,(∀b,q.own b→¬ T b)→q.p s v→q.p s' v):∀t q,lk L' t=some q→q.p s' (a.eval (.tmp t)):=fun t q hl=>
 (h t q hl).elim (fun e=>by subst e;trivial) fun ⟨h1,h2⟩=>m q _ h2 (hL t q h1)
theorem Has.ef {M:Nat→Prop} {n:Nat} {s0:St} {a:Act} {s s':St} {L L':Lst} {T:Nat→Prop} (h:Has M n s0 a s L) (e:Ef T s s') (hT:∀b,T b→s0.w.heap.size≤b) (hk:Kp T L L'):Has M n s0 a s' L' where
 size:=h.size
 defers:=h.defers
 ent:=e.ex h.ent hT
 gl:=h.gl
 at_:=hk.p h.at_ fun q v h2=>q.mv e.mv fun b hb=>⟨h2 b hb,fun hx=>e.keep b hx (h2 b hb)⟩
theorem Ef.exm {M T:Nat→Prop} {s0 s s':St} (h:Fr M s0 s) (e:Ef T s s') (hT:∀b,T b→M b) (hk:∀b,s.X b→s'.X b):Fr M s0 s':=
 ⟨⟨h.mv.dr.trans e.mv.dr,e.mv.os.trans h.mv.os,e.mv.tape.trans h.mv.tape,e.mv.output.trans h.mv.output,Nat.le_trans h.mv.size e.mv.size,
  fun b hb hn=>(e.mv.blk b (Nat.lt_of_lt_of_le hb h.mv.size) (fun ht=>hn (hT b ht))).trans (h.mv.blk b hb hn),h.mv.tx,
  fun b hb=>(e.mv.xx b hb).elim (fun j=>h.mv.xx b j) (fun j=>.inr (Nat.le_trans h.mv.size j))⟩,fun b hb=>hk b (h.keep b hb)⟩
theorem Has.efm {M:Nat→Prop} {n:Nat} {s0:St} {a:Act} {s s':St} {L L':Lst} {T:Nat→Prop} (h:Has M n s0 a s L) (e:Ef T s s') (hT:∀b,T b→M b) (hX:∀b,s.X b→s'.X b) (hk:Kp T L L'):Has M n s0 a s' L' where
 size:=h.size
 defers:=h.defers
 ent:=e.exm h.ent hT hX
 gl:=h.gl
 at_:=hk.p h.at_ fun q v h2=>q.mv e.mv fun b hb=>⟨h2 b hb,fun hx=>e.keep b hx (h2 b hb)⟩
theorem Has.efw {M:Nat→Prop} {n:Nat} {s0:St} {a:Act} {s s':St} {L L':Lst} {T:Nat→Prop} (h:Has M n s0 a s L) (e:Ef T s s') (hT:(∀b,T b→s0.w.heap.size≤b)∨∀b,T b→M b) (hX:∀b,s.X b→s'.X b) (hk:Kp T L L'):Has M n s0 a s' L':=
 hT.elim (fun hT=>h.ef e hT hk) (fun hT=>h.efm e hT hX hk)
def Kw (T:Nat→Prop) (L:Lst) (q q':Pd) (L':Lst):Prop:=∀t r,lk L' t=some r→(r=Pd.any∨lk L t=some r∧∀b,r.own b→¬ T b)∨r=q'∧lk L t=some q
section
variable {T : Nat → Prop} {L : Lst} {q q' : Pd} {t : Nat} {r : Pd} {l : Lst}
theorem Kw.nil:Kw T L q q' []:=fun t q h=>by cases h
theorem Kw.cons (hl:lk L t=some r) (hq:∀b,r.own b→¬ T b) (hr:Kw T L q q' l):Kw T L q q' ((t,r)::l):=fun d p h=>by
 rw [zek] at h;split at h
 ·rename_i e;cases h;subst e;exact .inl (.inr ⟨hl,hq⟩)
 ·exact hr d p h
theorem Kw.k {T:Nat→Prop}{L:Lst}{q q':Pd}(t:Nat){r:Pd}{l:Lst}(hr:Kw T L q q' l)(hl:lk L t=some r:=by exact rfl)(hq:∀b,r.own b→¬T b:=by exact nE):Kw T L q q' ((t,r)::l):=.cons hl hq hr
theorem Kw.turn (hl:lk L t=some q) (hr:Kw T L q q' l):Kw T L q q' ((t,q')::l):=fun d p h=>by
 rw [zek] at h;split at h
 ·rename_i e;cases h;subst e;exact .inr ⟨rfl,hl⟩
 ·exact hr d p h
end
theorem Has.turn {M:Nat→Prop} {n:Nat} {s0:St} {a:Act} {s s':St} {L L':Lst} {T:Nat→Prop} {q q':Pd} (h:Has M n s0 a s L) (e:Ef T s s') (hT:(∀b,T b→s0.w.heap.size≤b)∨∀b,T b→M b) (hX:∀b,s.X b→s'.X b) (hk:Kw T L q q' L')
  (ht:∀v,q.p s v→q'.p s' v):Has M n s0 a s' L':=
 (h.efw e hT hX .nil).sub fun t r hl=>(hk t r hl).elim (fun h1=>h1.elim (fun e=>by subst e;trivial) fun ⟨h1,h2⟩=>r.mv e.mv (fun b hb=>⟨h2 b hb,fun hx=>e.keep b hx (h2 b hb)⟩) (h.at_ t r h1)) fun ⟨h1,h2⟩=>by subst h1;exact ht _ (h.at_ t q h2)
theorem Has.put' {M:Nat→Prop} {n:Nat} {s0:St} {a:Act} {s:St} {L:Lst} (h:Has M n s0 a s L) {d:Nat} (hd:Nat.blt d n=true) {v:Value} {q:Pd} (hq:q.p s v):Has M n s0 (a.put (some d) v) s ((d,q)::L):=h.put (Ex.refl s) hd hq
theorem Has.keep {M:Nat→Prop} {n:Nat} {s0:St} {a:Act} {s:St} {L L':Lst} (h:Has M n s0 a s L) (hk:Kp (fun _=>False) L L'):Has M n s0 a s L':=h.sub (hk.p h.at_ fun _ _ _ h=>h)
theorem Has.freeze {α:Type} {E:En α} {te:TypeId} {og:Option Nat} {xs:List α} {M:Nat→Prop} {n:Nat} {s0:St} {a:Act} {s:St} {L L':Lst} (h:Has M n s0 a s L) (t:Nat) (hl:lk L t=some (Pd.row E s0.w.heap.size te og xs))
  (hk:Kp (fun b=>og=some b) L L'):∃s',s'.w=s.w∧Has M n s0 a s' ((t,Pd.rep (En.slice E) xs)::L'):=by
 have ho:=h.get t hl;have hlt:∀b,og=some b→s0.w.heap.size≤b:=by
  intro b hb;obtain ⟨h1,h2,h3,css,h4,h5⟩:=ho;exact (h5.lt b (by rw [h1];exact hb)).1
 refine ⟨⟨s.w,fun b=>s.X b∧og≠some b,fun b hb=>s.lt b hb.1⟩,rfl, ?_⟩;have e:Ef (fun b=>og=some b) s ⟨s.w,fun b=>s.X b∧og≠some b,fun b hb=>s.lt b hb.1⟩:=
  ⟨⟨DR.eq rfl,rfl,rfl,rfl,Nat.le_refl _,fun _ _ _=>rfl,fun b hb=>ho.2.1 b hb,fun b hb=>.inl hb.1⟩,fun b hb hn=>⟨hb,hn⟩⟩
 exact (h.ef e hlt hk).cons t (zbp.2 (own_slV ho rfl fun b hb=>hb))
section
variable {P : Program} {ops : Array Oper} {o : Oper} {L : Lst}
def spl (cells:List Value) (off:Nat) (cs:List Value):List Value:=cells.take off++cs++cells.drop (off+cs.length)
theorem spl_len {cells cs:List Value} {off:Nat} (h:off+cs.length≤cells.length):(spl cells off cs).length=cells.length:=by simp [spl];omega
theorem fill_step {place:Nat→Option (Nat × Nat)} {cells cs:List Value} {v:Value} {i off size:Nat} {rest:List (Nat × Value)} (hp:place i=some (off,size)) (hv:v.cells=cs.toArray) (hs:cs.length=size)
  (hl:off+size≤cells.length):Instr.fill place cells.toArray ((i,v)::rest)=Instr.fill place (spl cells off cs).toArray rest:=by
 conv=>lhs;unfold Instr.fill
 simp only [hp,hv];rw [if_neg (by simp [hs];omega)]
 congr 1
 apply Array.ext_getElem?;intro j;rw [← Array.foldl_toList,Array.toList_zipIdx];have key:∀(l:List Value) (k:Nat) (acc:Array Value),off+k+l.length≤acc.size→(List.foldl (fun cs (x:Value × Nat)=>match x with | (c,j)=>cs.setIfInBounds (off+j) c) acc (l.zipIdx k))[j]?=if off+k≤j∧j<off+k+l.length then l[j-(off+k)]? else acc[j]?:=by
  intro l
  induction l with
  | nil=>intro k acc _;simp;omega
  | cons u r ih=>
   intro k acc hk;simp only [List.zipIdx_cons,List.foldl_cons];rw [ih (k+1) _ (by simp at hk ⊢;omega)]
   by_cases h1:off+(k+1)≤j∧j<off+(k+1)+r.length
   ·rw [if_pos h1,if_pos (by simp;omega),show j-(off+k)=(j-(off+(k+1)))+1 by omega];simp
   ·rw [if_neg h1]
    by_cases h2:j=off+k
    ·subst h2;rw [if_pos (by simp)];simp at hk;simp [show off+k<acc.size by omega]
    ·rw [if_neg (by simp;omega),Array.getElem?_setIfInBounds_ne (Ne.symm h2)]
 rw [key cs 0 cells.toArray (by simp;omega)];simp only [Nat.add_zero,spl,List.getElem?_toArray]
 by_cases h1:j<off
 ·rw [if_neg (by omega),List.append_assoc,List.getElem?_append_left (by simp;omega),List.getElem?_take,if_pos h1]
 ·by_cases h2:j<off+cs.length
  ·rw [if_pos (by omega),List.append_assoc,List.getElem?_append_right (by simp;omega),List.getElem?_append_left (by simp;omega)]
   congr 1;simp;omega
  ·rw [if_neg (by omega),List.getElem?_append_right (by simp;omega),List.getElem?_drop]
   congr 1;simp;omega
inductive OpL {α:Type} (E:En α) (L:Lst):List Operand→List α→Prop
 | nil:OpL E L [] []
 | cons {x:Operand} {e:α} {xs:List Operand} {es:List α}:Opn L x (Pd.rep E e)→OpL E L xs es→OpL E L (x::xs) (e::es)
theorem fill_row {α:Type} {E:En α} {M:Nat→Prop} {n:Nat} {s0:St} {ac:Act} {s:St} {L:Lst} (hL:Has M n s0 ac s L):∀{xs:List Operand} {es:List α},OpL E L xs es→∀(k:Nat) (pre:List Value) (cells:List Value),pre.length=k*E.sz→cells.length=(k+xs.length)*E.sz→cells.take (k*E.sz)=pre →
  ∃css,Els E s.w (zc4 s) css es∧Instr.fill (fun i=>some (i*E.sz,E.sz)) cells.toArray ((xs.zipIdx k).map fun (x,i)=>(i,ac.eval x))=some (pre++css.flatten).toArray:=by
 intro xs es h
 induction h with
 | nil=>
  intro k pre cells hp hc ht;refine ⟨[],⟨rfl,by simp⟩, ?_⟩;simp only [List.zipIdx_nil,List.map_nil,Instr.fill,List.flatten_nil,List.append_nil];rw [← ht,List.take_of_length_le (by simp at hc;omega)]
 | cons hx _ ih=>
  rename_i x e xs es _
  intro k pre cells hp hc ht;obtain ⟨cs,hv,hR⟩:=hx M n s0 ac s hL;have hlen:=E.len hR;have hsz:k*E.sz+E.sz≤cells.length:=by rw [hc,← Nat.succ_mul];exact Nat.mul_le_mul_right _ (by simp)
  obtain ⟨css,hE,hf⟩:=ih (k+1) (pre++cs) (spl cells (k*E.sz) cs) (by simp [hp,hlen,Nat.succ_mul]) (by rw [spl_len (by omega),hc];congr 1;simp;omega) (by
   rw [spl,ht];rw [List.take_append_of_le_length (by simp [hp,hlen,Nat.succ_mul])];rw [List.take_of_length_le (by simp [hp,hlen,Nat.succ_mul])])
  refine ⟨cs::css,⟨by simp [hE.1], ?_⟩, ?_⟩
  ·intro i c y hi hy;cases i with
   | zero=>simp at hi hy;subst hi;subst hy;exact hR
   | succ i=>simp at hi hy;exact hE.2 i c y hi hy
  ·simp only [List.zipIdx_cons,List.map_cons];rw [fill_step (cs:=cs) (off:=k*E.sz) (size:=E.sz) rfl (by rw [hv];exact En.val_cells hR) hlen hsz,hf];simp
theorem run_lit {α:Type} {E:En α} {t te:TypeId} {xs:List Operand} {es:List α} (hx:OpL E L xs es) (ht:P.underlying t=some (.slice te)) (hE:Ty P te E) {k:Nat} {parts:Array (Nat × Operand)} (hk:k=xs.length) (hp:parts=(xs.zipIdx.map fun (x,i)=>(i,x)).toArray)
  (hs:k*E.sz≤16777216) (ho:o.op = .buildSlice t k parts) {M:Nat→Prop} {n:Nat} {s0:St} {ac:Act} {s:St} (hL:Has M n s0 ac s L):es.length=xs.length∧∃css,Els E s.w (zc4 s) css es∧(execOp ac.eval o).run P s.w = .ok (.value (.slice (some ⟨s.w.heap.size,0,none⟩) es.length es.length)) (s.push (.cells css.flatten.toArray te)).w:=by
 obtain ⟨i,z,hi,he,hz,hzs,_⟩:=hE.info;have hlen:es.length=xs.length:=by clear hp hk hs ho;induction hx with | nil=>rfl | cons _ _ ih=>simp [ih]
 have hall:∀zero:Array Value,∃css,Els E s.w (zc4 s) css es∧Instr.fill (fun i=>some (i*E.sz,E.sz)) ((Array.range (k*E.sz)).map (zero[· % zero.size]!)) (parts.map fun (i,x)=>(i,ac.eval x)).toList=some css.flatten.toArray:=by
  intro zero;obtain ⟨css,hEl,hf⟩:=fill_row hL hx 0 [] ((Array.range (k*E.sz)).map (zero[· % zero.size]!)).toList (by simp) (by simp [hk]) (by simp)
  refine ⟨css,hEl, ?_⟩;have e1:(parts.map fun (i,x)=>(i,ac.eval x)).toList=(xs.zipIdx 0).map fun (x,i)=>(i,ac.eval x):=by rw [hp];simp
  rw [e1];rw [Array.toArray_toList,List.nil_append] at hf;exact hf
 have hfin:∃css,Els E s.w (zc4 s) css es∧(execOp ac.eval o).run P s.w = .ok (.value (.slice (some ⟨s.w.heap.size,0,none⟩) es.length es.length)) (s.push (.cells css.flatten.toArray te)).w:=by
  by_cases h:k*E.sz=0
  ·obtain ⟨css,hEl,hf⟩:=hall #[];refine ⟨css,hEl, ?_⟩;unfold execOp;rw [ho];simp only [Instr.buildSlice,Sem.run_bind,run_underlying ht,Result.andThen_ok,z6 hE];rw [if_neg (by omega),if_pos h];simp only [Sem.run_bind,Sem.run_pure,Result.andThen_ok];rw [hf];simp [newRow,St.push,hlen,hk]
  ·obtain ⟨css,hEl,hf⟩:=hall z.cells;refine ⟨css,hEl, ?_⟩;unfold execOp;rw [ho];simp only [Instr.buildSlice,Sem.run_bind,run_underlying ht,Result.andThen_ok,z6 hE];rw [if_neg (by omega),if_neg h];have hzr:(zeroValue te).run P s.w = .ok z s.w:=by simp [zeroValue,typeInfo,hi,hz]
   simp only [Sem.run_bind,hzr,Sem.run_pure,Result.andThen_ok];rw [hf];simp [newRow,St.push,hlen,hk]
 exact ⟨hlen,hfin⟩
theorem zdu {α:Type} {E:En α} {t te:TypeId} {xs:List Operand} {es:List α} (hx:OpL E L xs es) (ht:P.underlying t=some (.slice te)) (hE:Ty P te E) {k:Nat} {parts:Array (Nat × Operand)} (hk:k=xs.length) (hp:parts=(xs.zipIdx.map fun (x,i)=>(i,x)).toArray)
  (hs:k*E.sz≤16777216) (ho:o.op = .buildSlice t k parts) (hg:o.guard=none):T P ops o L (Pd.rep (En.slice E) es):=
 T.mk hg fun M n s0 ac s hL=>by
  obtain ⟨hlen,css,hEl,hr⟩:=run_lit hx ht hE hk hp hs ho hL;refine ⟨_,_,hr,Ex.push s _,zbp.2 ⟨some ⟨s.w.heap.size,0,none⟩,es.length,rfl,Nat.le_refl _,(fun h=>by cases h), ?_,fun _=>⟨s.w.heap.size,0,css,rfl,⟨by simp [St.push],fun h=>by have:=s.lt _ h;omega⟩,⟨hEl.1,fun i cs x a b=>E.psh (hEl.2 i cs x a b)⟩,zf8 s _ te⟩⟩⟩;rw [hlen,← hk];have:k≤k*E.sz:=Nat.le_mul_of_pos_right k E.pos;simp only [lim];omega
theorem zfg {α:Type} {E:En α} {N:Nat} {te:TypeId} {og:Option Nat} {xs:List α} {s:St} {v:Value} (h:(Pd.row E N te og xs).p s v):∀b,og=some b→N≤b∧b<s.w.heap.size:=by
 obtain ⟨h1,h2,h3,css,h4,h5⟩:=h;intro b hb;exact h5.lt b (by rw [h1];exact hb)
theorem Els.append {α:Type} {E:En α} {w S css dss} {xs ys:List α} (h:Els E w S css xs) (k:Els E w S dss ys):Els E w S (css++dss) (xs++ys):=by
 refine ⟨by simp [h.1,k.1],fun i cs x hi hx=>?_⟩
 by_cases hlt:i<css.length
 ·rw [List.getElem?_append_left hlt] at hi;rw [List.getElem?_append_left (by rw [← h.1];exact hlt)] at hx;exact h.2 i cs x hi hx
 ·rw [List.getElem?_append_right (by omega)] at hi;rw [List.getElem?_append_right (by rw [← h.1];omega),← h.1] at hx;exact k.2 _ cs x hi hx
theorem Els.go {α:Type} {E:En α} {T:Nat→Prop} {s s':St} {css:List (List Value)} {xs:List α} (h:Mv T s s') (hE:Els E s.w (zc4 s) css xs):Els E s'.w (zc4 s') css xs:=⟨hE.1,fun i cs x a b=>E.go h (hE.2 i cs x a b)⟩
end
end
section
variable {P : Program} {ops : Array Oper} {o : Oper} {L : Lst}
theorem run_appB {α:Type} {E:En α} {t te:TypeId} (ht:P.underlying t=some (.slice te)) (hE:Ty P te E) {N:Nat} {og:Option Nat} {xs ys:List α} {s:St} {v u:Value} (hv:(Pd.row E N te og xs).p s v) (hu:SlV E s.w (zc4 s) u ys)
  (hN:N≤s.w.heap.size) (m:Nat) (hm:0<m) (hbm:∃i,P.info? te=some i∧i.bytes≤m) (hlen:(xs.length+ys.length)*m≤140737488355328) (ty:TypeId):∃v' s' og',(Builtin.append_ #[t,t] ty #[v,u]).run P s.w = .ok v' s'.w∧Ef (fun b=>og=some b) s s'∧(Pd.row E N te og' (xs++ys)).p s' v' ∧
   (∀b,og'=some b→og=some b∨s.w.heap.size≤b):=by
 obtain ⟨i,z,hi,hsz,hz,hzs,_⟩:=hE.info;have hby:i.bytes≤m:=by
  obtain ⟨i',h1,h2⟩:=hbm;rw [hi] at h1;cases h1;exact h2
 have hle:xs.length+ys.length≤140737488355328:=Nat.le_trans (Nat.le_mul_of_pos_right _ hm) hlen;have hby0:(xs.length+ys.length)*i.bytes≤140737488355328:=Nat.le_trans (Nat.mul_le_mul (Nat.le_refl _) hby) hlen;obtain ⟨h1,h2,h3,css,h4,h5⟩:=hv;obtain ⟨ad,cap,rfl,hc1,hc2,hc3,hc4⟩:=hu;clear hlen hm hbm
 by_cases hys:ys=[]
 ·-- nothing is appended
  subst hys
  by_cases had:ad=none
  ·subst had;have hcap:=hc2 rfl;subst hcap;refine ⟨v,s,og,run_append_owned_none (P:=P) (w:=s.w) N t ty te i E.sz ht hi v xs.length css.flatten h5,⟨Mv.refl _ s fun b hb=>h2 b hb,fun b hb _=>hb⟩, ?_,fun b hb=>.inl hb⟩;rw [List.append_nil];exact ⟨h1,h2,h3,css,h4,h5⟩
  ·obtain ⟨a,rfl⟩:∃a,ad=some a:=by cases ad with | none=>exact absurd rfl had | some a=>exact ⟨a,rfl⟩
   obtain ⟨v',w',hr,ho,hg,hnil⟩:=run_append_own (P:=P) s.w N t ty te i z E.sz i.bytes ht hi hz hsz rfl hzs E.pos v xs.length css.flatten h5 a 0 cap [] (by simp) (by simp) (by simp) (by simp [maxLen];omega) (by simpa using hby0) hN;have hvv:v'.ownBlock=v.ownBlock:=by
    rcases h5.2 with ⟨rfl,hn⟩ | ⟨g,cp,cur,rfl,_,hgb,hnc,hcm,hcs,htk⟩
    ·rw [hnil.2 ⟨rfl,rfl⟩]
    ·have hrr:=run_append_room (P:=P) s.w t ty te i ht hi g xs.length cp cur hgb a 0 cap [] (by simp) (by simp) (by simp) (by omega) (by rw [hcs,hsz];simp;exact Nat.mul_le_mul_right _ hnc);rw [hrr] at hr;cases hr;rfl
   have hog:v'.ownBlock=og:=hvv.trans h1;have hmv:Mv (fun b=>og=some b) s ⟨w',s.X,fun b hb=>Nat.lt_of_lt_of_le (s.lt b hb) hg.size⟩:=
    ⟨DR.kit,hg.os,hg.tape,hg.output,hg.size,fun b hb hn=>hg.block b hb (fun e=>hn (by rw [← h1];exact e.symm)),fun b hb=>h2 b hb,fun b hb=>.inl hb⟩
   refine ⟨v',⟨w',s.X,fun b hb=>Nat.lt_of_lt_of_le (s.lt b hb) hg.size⟩,og,hr,⟨hmv,fun b hb _=>hb⟩,⟨hog,h2,by simpa using h3,css,by rw [List.append_nil];exact h4.go hmv,by simpa using ho⟩,fun b hb=>.inl hb⟩
 ·obtain ⟨b,off,dss,rfl,hb,hD,hcell⟩:=hc4 hys;have hpos:0<ys.length:=List.length_pos_iff.2 hys;have hdl:dss.flatten.length=ys.length*E.sz:=by rw [zd8 hD.lens,hD.1]
  have hone:∀u∈dss.flatten,u.oneCell'=true:=by
   intro u hu;rw [List.mem_flatten] at hu;obtain ⟨cs,hcs,hu⟩:=hu;obtain ⟨j,hj⟩:=List.getElem?_of_mem hcs;have hlt:j<dss.length:=(List.getElem?_eq_some_iff.1 hj).1;exact E.one (hD.2 j cs (ys[j]'(hD.1 ▸ hlt)) hj (by simp)) u hu
  have hby':=hby0;have hnews:∀j u,dss.flatten[j]?=some u→s.w.cell? ((⟨b,off,none⟩:Addr).add j)=some u:=fun j u hu=>by rw [zc3];exact hcell j u hu
  obtain ⟨v',w',hr,ho,hg,hnil⟩:=run_append_own (P:=P) s.w N t ty te i z E.sz i.bytes ht hi hz hsz rfl hzs E.pos v xs.length css.flatten h5 ⟨b,off,none⟩ ys.length cap dss.flatten hdl hnews hone (by simp [maxLen];omega) hby' hN;have hfresh:∀g,v'.ownBlock=some g→og=some g∨s.w.heap.size=g:=by
   intro g hgv;rcases h5.2 with ⟨rfl,hn⟩ | ⟨g',cp,cur,rfl,_,hgb,hnc,hcm,hcs,htk⟩
   ·have hrr:=run_append_nil (P:=P) s.w t ty te i z ht hi hz ⟨b,off,none⟩ ys.length cap dss.flatten (by rw [hsz];exact hdl) hnews hpos (by omega) (by
     have:ys.length*i.bytes≤(xs.length+ys.length)*i.bytes:=Nat.mul_le_mul_right _ (by omega);omega)
    rw [hrr] at hr;cases hr;simp [Value.ownBlock] at hgv;exact .inr hgv
   ·by_cases hroom:xs.length+ys.length≤cp
    ·have hrr:=run_append_room (P:=P) s.w t ty te i ht hi g' xs.length cp cur hgb ⟨b,off,none⟩ ys.length cap dss.flatten (by rw [hsz];exact hdl) hnews hone hroom (by rw [hcs,hsz,hdl,← Nat.add_mul];exact Nat.mul_le_mul_right _ hroom);rw [hrr] at hr;cases hr;left;rw [← h1];exact hgv
    ·have hrr:=run_append_grow (P:=P) s.w t ty te i z ht hi hz ⟨g',0,none⟩ xs.length cp css.flatten (by rw [hsz];exact h5.1) (h5.cells (g:=g') rfl) ⟨b,off,none⟩ ys.length cap dss.flatten (by rw [hsz];exact hdl) hnews (by omega) (by omega) (growslice_fits (by omega) hby');rw [hrr] at hr;cases hr;simp [Value.ownBlock] at hgv;exact .inr hgv
  have hlt:∀g,v'.ownBlock=some g→g<w'.heap.size:=fun g hgv=>(ho.lt g hgv).2;have hmv:Mv (fun b=>og=some b) s ⟨w',fun b=>(s.X b∧og≠some b)∨v'.ownBlock=some b,fun b hb=>hb.elim (fun h=>Nat.lt_of_lt_of_le (s.lt b h.1) hg.size) (hlt b)⟩:=
   ⟨DR.kit,hg.os,hg.tape,hg.output,hg.size,fun b hb hn=>hg.block b hb (fun e=>hn (by rw [← h1];exact e.symm)),fun b hb=>h2 b hb,
    fun b hb=>hb.elim (fun h=>.inl h.1) (fun h=>(hfresh b h).elim (fun h=>.inl (h2 b h)) (fun h=>.inr (Nat.le_of_eq h)))⟩
  refine ⟨v',_,v'.ownBlock,hr,⟨hmv,fun b hb hn=>.inl ⟨hb,hn⟩⟩,⟨rfl,fun g hg=>.inr hg, ?_,css++dss,(h4.go hmv).append (hD.go hmv), ?_⟩,fun g hg=>(hfresh g hg).imp id (fun h=>Nat.le_of_eq h)⟩
  ·simp only [List.length_append,lim];omega
  ·simpa using ho
theorem run_app {α:Type} {E:En α} {t te:TypeId} (ht:P.underlying t=some (.slice te)) (hE:Ty P te E) {N:Nat} {og:Option Nat} {xs ys:List α} {s:St} {v u:Value} (hv:(Pd.row E N te og xs).p s v) (hu:SlV E s.w (zc4 s) u ys)
  (hN:N≤s.w.heap.size) (hlen:xs.length+ys.length≤2147483648) (ty:TypeId):∃v' s' og',(Builtin.append_ #[t,t] ty #[v,u]).run P s.w = .ok v' s'.w∧Ef (fun b=>og=some b) s s'∧(Pd.row E N te og' (xs++ys)).p s' v' ∧
   (∀b,og'=some b→og=some b∨s.w.heap.size≤b):=by
 obtain ⟨i,z,hi,hsz,hz,hzs,hby⟩:=hE.info;exact run_appB ht hE hv hu hN 65536 (by decide) ⟨i,hi,hby⟩ (by omega) ty
theorem zcy {Q:Exit→Act→World→Prop} {rest:List Oper} {M:Nat→Prop} {n:Nat} {s0:St} {a:Act} {s:St} {α:Type} {E:En α} {te t:TypeId} {og:Option Nat} {xs ys:List α} {x y:Operand} {L':Lst} (d:Nat)
  (hL:Has M n s0 a s L) (hx:Opn L x (Pd.row E s0.w.heap.size te og xs)) (hy:Opn L y (Pd.rep (En.slice E) ys)) (ht:P.underlying t=some (.slice te)) (hE:Ty P te E) (hlen:xs.length+ys.length≤2147483648)
  (ho:o.op = .call { callee:=.builtin .append,args:=#[x,y],argTypes:=#[t,t] }) (hg:o.guard=none) (hd:o.dst=some d) (hn:Nat.blt d n=true) (hk:Kp (fun b=>og=some b) L L')
  (k:∀a' s' og',(∀b,og'=some b→og=some b∨s.w.heap.size≤b)→Has M n s0 a' s' ((d,Pd.row E s0.w.heap.size te og' (xs++ys))::L')→wpList P ops Q rest a' s'.w):wpList P ops Q (o::rest) a s.w:=by
 have h1:=hx M n s0 a s hL;have h2:=zbp.1 (hy M n s0 a s hL);obtain ⟨v',s',og',hr,e,hq,hf⟩:=run_app ht hE h1 h2 hL.ent.mv.size hlen o.type;refine wpList_plain hg fun K hK=>?_;unfold Oper.wp execOp;simp only [ho,resolve,invoke,builtin,Sem.run_bind,Sem.run_pure,Result.andThen_ok,List.map_toArray,List.map_cons,List.map_nil,hr];refine hK _ _ ?_;simp only [hd];exact k _ s' og' hf ((hL.ef e (fun b hb=>(zfg h1 b hb).1) hk).put' hn hq)
end
section
variable {u : Bool} [Dr u]
section
variable {P : Program} {ops : Array Oper} {o : Oper} {L : Lst}
theorem st_new {Q:Exit→Act→World→Prop} {rest:List Oper} {M:Nat→Prop} {n:Nat} {s0:St} {a:Act} {s:St} {α:Type} (E:En α) {te t:TypeId} (d:Nat)
  (hL:Has M n s0 a s L) (ht:P.underlying t=some (.slice te)) (hE:Ty P te E) (ho:o.op = .buildSlice t 0 #[]) (hg:o.guard=none) (hd:o.dst=some d) (hn:Nat.blt d n=true)
  (k:∀a' s' g,s.w.heap.size≤g→Has M n s0 a' s' ((d,Pd.row E s0.w.heap.size te (some g) [])::L)→wpList P ops Q rest a' s'.w):wpList P ops Q (o::rest) a s.w:=by
 have hr:(execOp a.eval o).run P s.w = .ok (.value (.slice (some ⟨s.w.heap.size,0,none⟩) 0 0)) (s.w.alloc (.cells ((Array.range (0*E.sz)).map ((#[]:Array Value)[· % 0]!)) te)):=by
  unfold execOp;rw [ho];simp only [Instr.buildSlice,Sem.run_bind,run_underlying ht,Result.andThen_ok,z6 hE];rw [if_neg (by omega),if_pos (by omega)];simp [Instr.fill,newRow]
 have hz:(Array.range (0*E.sz)).map ((#[]:Array Value)[· % 0]!) = #[]:=by rw [Nat.zero_mul];exact Array.eq_empty_of_size_eq_zero (by simp)
 rw [hz] at hr;refine wpList_plain hg fun K hK=>?_;unfold Oper.wp;rw [hr];refine hK _ _ ?_;simp only [hd];have e:Ex s ⟨s.w.alloc (.cells #[] te),fun b=>s.X b∨b=s.w.heap.size,fun b hb=>hb.elim (fun h=>Nat.lt_of_lt_of_le (s.lt b h) (by simp)) (fun h=>by subst h;simp)⟩:=
  ⟨⟨DR.eq rfl,rfl,rfl,rfl,by simp,fun b hb _=>Go.RowKit.Below.heap_alloc s.w _ b hb,fun _ h=>h.elim,fun b hb=>hb.imp id (fun h=>Nat.le_of_eq h.symm)⟩,fun b hb=>.inl hb⟩
 refine k _ _ s.w.heap.size (Nat.le_refl _) (hL.put e hn ⟨rfl,fun g hg=>?_,Nat.zero_le _,[],⟨rfl,by simp⟩,World.ownsRow_made s.w #[] 0 hL.ent.mv.size (Nat.zero_le _) (by simp)⟩);cases hg;exact .inr rfl
end
end
end Go.Proofs.YtaknifhhnhcchaaDoor.V
namespace Go.Proofs.YtaknifhhnhcchaaDoor.V
open Go
set_option linter.unusedVariables false
section
variable {u : Bool} [Dr u]
def Vals (s:St):List Pd→List Value→Prop
 | [],[]=>True
 | q::qs,v::vs=>q.p s v∧Vals s qs vs
 | _,_=>False
structure Fn (P:Program) (f:FuncId) (qs:List Pd) (R:St→St→Value→Prop):Prop where
 call:∀(args:Array Value) (w:World),(callFunc f args).run P w = .ok (.enter f args) w
 run:∀s vs,Gl s→Vals s qs vs→Calls P f vs.toArray s.w fun e w'=>∃v s',e = .returned v∧s'.w=w'∧Ex s s'∧R s s' v
def Rq (q:Pd):St→St→Value→Prop:=fun _ s' v=>q.p s' v
def Ro {α:Type} (E:En α) (te:TypeId) (xs:List α):St→St→Value→Prop:=fun s s' v=>∃og,(Pd.row E s.w.heap.size te og xs).p s' v
inductive Opns (L:Lst):List Operand→List Pd→Prop
 | nil:Opns L [] []
 | cons {x:Operand} {q:Pd} {xs:List Operand} {qs:List Pd}:Opn L x q→Opns L xs qs→Opns L (x::xs) (q::qs)
theorem Opns.vals {L:Lst} {xs:List Operand} {qs:List Pd} (h:Opns L xs qs) {M:Nat→Prop} {n:Nat} {s0:St} {a:Act} {s:St} (hL:Has M n s0 a s L):Vals s qs (xs.map a.eval):=by
 induction h with
 | nil=>trivial
 | cons hx _ ih=>exact ⟨hx M n s0 a s hL,ih⟩
theorem zgv {α:Type} {E:En α} {N N':Nat} {te:TypeId} {og:Option Nat} {xs:List α} {s:St} {v:Value} (hN:N'≤N) (h:(Pd.row E N te og xs).p s v):(Pd.row E N' te og xs).p s v:=by
 obtain ⟨h1,h2,h3,css,h4,h5⟩:=h;refine ⟨h1,h2,h3,css,h4,h5.1,h5.2.imp id ?_⟩;rintro ⟨g,cap,cur,e,hg,r⟩;exact ⟨g,cap,cur,e,Nat.le_trans hN hg,r⟩
theorem Fn.frz {P:Program} {f:FuncId} {qs:List Pd} {α:Type} {E:En α} {te:TypeId} {xs:List α} (h:Fn P f qs (Ro E te xs)):Fn P f qs (Rq (Pd.rep (En.slice E) xs)):=
 ⟨h.call,fun s vs hg hv=>(h.run s vs hg hv).mono fun e w' ⟨v,s',he,hw,hx,og,ho⟩=>by
  have hlt:=zfg ho;refine ⟨v,⟨s'.w,fun b=>s'.X b∧og≠some b,fun b hb=>s'.lt b hb.1⟩,he,hw, ?_,zbp.2 (own_slV ho rfl fun b hb=>hb)⟩;exact ⟨⟨hx.mv.dr,hx.mv.os,hx.mv.tape,hx.mv.output,hx.mv.size,hx.mv.blk,fun _ h=>h.elim,fun b hb=>hx.mv.xx b hb.1⟩,fun b hb=>⟨hx.keep b hb,fun e=>by have:=(hlt b e).1;have:=s.lt b hb;omega⟩⟩⟩
section
variable {P : Program} {ops : Array Oper} {o : Oper} {L : Lst}
theorem zd2 {f:FuncId} {xs:List Operand} {ats:Array TypeId} {qs R} (hf:Fn P f qs R) (a:Act) (w:World) (ho:o.op = .call { callee:=.value (.func f),args:=xs.toArray,argTypes:=ats }):
  (execOp a.eval o).run P w = .ok (.enter f (xs.map a.eval).toArray) w:=by
 have h:=hf.call (xs.map a.eval).toArray w;have e:execOp a.eval o=callFunc f (#[]++(xs.toArray).map a.eval ++ #[]):=by unfold execOp;rw [ho];rfl
 rw [e];simpa using h
theorem zx {f:FuncId} {xs:List Operand} {qs:List Pd} {q:Pd} {ats:Array TypeId} (hf:Fn P f qs (Rq q)) (hx:Opns L xs qs) (ho:o.op = .call { callee:=.value (.func f),args:=xs.toArray,argTypes:=ats }) (hg:o.guard=none):
  T P ops o L q:=fun M n s0 a s hL Q k hk=>by
 simp only [Region.wanted,hg,if_true];unfold Oper.wp;rw [zd2 hf a s.w ho,Oper.upon_enter];refine (hf.run s _ hL.gls (hx.vals hL)).mono fun e w' ⟨v,s',he,hw,hx,hq⟩=>?_;subst he;subst hw;exact hk v s' ⟨hx,hq⟩
theorem st_callo {Q:Exit→Act→World→Prop} {rest:List Oper} {M:Nat→Prop} {n:Nat} {s0:St} {a:Act} {s:St} {α:Type} {E:En α} {te:TypeId} {zs:List α} {f:FuncId} {xs:List Operand} {qs:List Pd} {ats:Array TypeId} (d:Nat)
  (hL:Has M n s0 a s L) (hf:Fn P f qs (Ro E te zs)) (hx:Opns L xs qs) (ho:o.op = .call { callee:=.value (.func f),args:=xs.toArray,argTypes:=ats }) (hg:o.guard=none) (hd:o.dst=some d) (hn:Nat.blt d n=true)
  (k:∀a' s' og,(∀b,og=some b→s.w.heap.size≤b)→Has M n s0 a' s' ((d,Pd.row E s0.w.heap.size te og zs)::L)→wpList P ops Q rest a' s'.w):wpList P ops Q (o::rest) a s.w:=by
 refine wpList_plain hg fun K hK=>?_;unfold Oper.wp;rw [zd2 hf a s.w ho,Oper.upon_enter];refine (hf.run s _ hL.gls (hx.vals hL)).mono fun e w' ⟨v,s',he,hw,hx,og,hq⟩=>?_;subst he;subst hw;refine hK _ _ ?_;rw [hd];exact k _ s' og (fun b hb=>(zfg hq b hb).1) (hL.put hx hn (zgv hL.ent.mv.size hq))
end
@[reducible] def num:Nat→List Pd→Lst
 | _,[]=>[]
 | k,q::qs=>(k,q)::num (k+1) qs
def Pst (M:Nat→Prop) (R:St→St→Value→Prop) (s0:St):Ending→World→Prop:=fun e w'=>∃v s',e = .returned v∧s'.w=w'∧Fr M s0 s'∧R s0 s' v
theorem zha {s:St}:∀{qs:List Pd} {vs:List Value} (h:Vals s qs vs) (k t:Nat) (q:Pd),lk (num k qs) t=some q→∃v,k≤t∧vs[t-k]?=some v∧q.p s v
 | [],_,_,k,t,q,hl=>by cases hl
 | q'::qs,[],h,_,_,_,_=>h.elim
 | q'::qs,v::vs,h,k,t,q,hl=>by
  unfold num lk at hl
  by_cases ht:k=t
  ·subst ht;simp at hl;subst hl;exact ⟨v,Nat.le_refl _,by simp,h.1⟩
  ·rw [ze2 ht] at hl;obtain ⟨u,h1,h2,h3⟩:=zha h.2 (k+1) t q hl;refine ⟨u,by omega, ?_,h3⟩;rw [show t-k=(t-(k+1))+1 by omega];simpa using h2
theorem zgs {s:St}:∀{qs:List Pd} {vs:List Value},Vals s qs vs→vs.length=qs.length
 | [],[],_=>rfl
 | [],_::_,h=>h.elim
 | _::_,[],h=>h.elim
 | _::_,_::_,h=>by simp [zgs h.2]
structure Fm (P:Program) (f:FuncId) (M:Nat→Prop) (qs:List Pd) (R:St→St→Value→Prop):Prop where
 call:∀(args:Array Value) (w:World),(callFunc f args).run P w = .ok (.enter f args) w
 run:∀s vs,Gl s→(∀b,M b→s.X b)→Vals s qs vs→Calls P f vs.toArray s.w fun e w'=>∃v s',e = .returned v∧s'.w=w'∧Fr M s s'∧R s s' v
theorem fm_of {P:Program} {f:FuncId} {fn:Func} {c:Code} {n:Nat} {M:Nat→Prop} {qs:List Pd} {R:St→St→Value→Prop} (hf:P.funcs[f]?=some fn) (hb:fn.body=some c) (hn:fn.ntmps=n) (hm:(fn.name == "runtime.NumGoroutine")=false) (hq:qs.length≤n)
  (h:∀s0 a,Has M n s0 a s0 (num 0 qs)→c.wp P (bodyPost P fn (Pst M R s0)) a s0.w):Fm P f M qs R where
 call:=fun args w=>by
  have hm':¬ fn.name = "runtime.NumGoroutine":=by simpa using hm
  simp [callFunc,hf,hm',hb]
 run:=fun s vs hg hM hv=>by
  refine calls_of_wp hf hb ?_;have hl:=zgs hv;refine h s _ ⟨?_,rfl,Fr.refl hM,hg,fun t q ht=>?_⟩
  ·simp [hn,hl];omega
  ·obtain ⟨v,_,h2,h3⟩:=zha hv 0 t q ht;have:(({ tmps:=vs.toArray++Array.replicate (fn.ntmps-vs.toArray.size) undef,defers:=[] }:Act).eval (.tmp t))=v:=by
    simp only [Nat.sub_zero] at h2;have hlt:t<vs.length:=(List.getElem?_eq_some_iff.1 h2).1;simp only [Act.eval];rw [Array.getD_eq_getD_getElem?,Array.getElem?_append_left (by simpa using hlt)];simp [h2]
   rw [this];exact h3
theorem Fm.fn {P:Program} {f:FuncId} {qs:List Pd} {R:St→St→Value→Prop} (h:Fm P f N0 qs R):Fn P f qs R:=
 ⟨h.call,fun s vs hg hv=>(h.run s vs hg (fun _ h=>h.elim) hv).mono fun e w' ⟨v,s',he,hw,hx,hr⟩=>⟨v,s',he,hw,hx.ex,hr⟩⟩
theorem zby {P:Program} {f:FuncId} {fn:Func} {c:Code} {n:Nat} {qs:List Pd} {R:St→St→Value→Prop} (hf:P.funcs[f]?=some fn) (hb:fn.body=some c) (hn:fn.ntmps=n) (hm:(fn.name == "runtime.NumGoroutine")=false) (hq:qs.length≤n)
  (h:∀s0 a,Has N0 n s0 a s0 (num 0 qs)→c.wp P (bodyPost P fn (Pst N0 R s0)) a s0.w):Fn P f qs R:=(fm_of hf hb hn hm hq h).fn
section
variable {P : Program} {fn : Func} {M : Nat → Prop} {n : Nat} {s0 : St} {a : Act} {s : St} {L : Lst} {R : St → St → Value → Prop}
theorem ret1 {t:Nat} (hr:fn.results = #[.tmp t]) (hL:Has M n s0 a s L) (hR:R s0 s (a.eval (.tmp t))):bodyPost P fn (Pst M R s0) .ret a s.w:=
 ⟨hL.defers,_,results_tmp hr a.tmps P s.w,_,s,rfl,rfl,hL.ent,hR⟩
theorem zb5 {t:Nat} {q:Pd} (hr:fn.results = #[.tmp t]) (hL:Has M n s0 a s L) (hl:lk L t=some q):bodyPost P fn (Pst M (Rq q) s0) .ret a s.w:=ret1 hr hL (hL.get t hl)
theorem ze6 {α:Type} {E:En α} {te:TypeId} {og:Option Nat} {xs:List α} {t:Nat} (hr:fn.results = #[.tmp t]) (hL:Has M n s0 a s L) (hl:lk L t=some (Pd.row E s0.w.heap.size te og xs)):bodyPost P fn (Pst M (Ro E te xs) s0) .ret a s.w:=
 ret1 hr hL ⟨og,hL.get t hl⟩
def Rq2 (q r:Pd):St→St→Value→Prop:=fun _ s' v=>∃x y,v = .tuple #[x,y]∧q.p s' x∧r.p s' y
theorem ret2 {t u:Nat} {q r:Pd} (hr:fn.results = #[.tmp t,.tmp u]) (hL:Has M n s0 a s L) (hl:lk L t=some q) (hm:lk L u=some r):bodyPost P fn (Pst M (Rq2 q r) s0) .ret a s.w:=
 ⟨hL.defers,_,results_tmp2 hr a.tmps P s.w,_,s,rfl,rfl,hL.ent,_,_,rfl,hL.get t hl,hL.get u hm⟩
theorem results_cell {a0 t0:Nat} (hr:fn.results = #[.cell a0 t0]) {α:Type} {E:En α} {x:α} (hE:Ty P t0 E) {b o:Nat} {cs:List Value} {S:Nat→Prop} {w w':World} {tmps:Array Value} (hv:tmps.getD a0 undef = .pointer (some ⟨b,o,none⟩)) (hR:E.R w' S cs x) (hc:zcp w b o cs):
  (results fn tmps).run P w = .ok (E.val cs) w:=by
 have:=zc6 hE hR hc;rw [Array.getD_eq_getD_getElem?] at hv;simp [results,hr,hv,asAddr,this]
theorem retb {a0 t0:Nat} {α:Type} {E:En α} {x:α} {N g:Nat} (hr:fn.results = #[.cell a0 t0]) (hE:Ty P t0 E) (hL:Has M n s0 a s L) (hl:lk L a0=some (Pd.box E N g x)):bodyPost P fn (Pst M (Rq (Pd.rep E x)) s0) .ret a s.w:=by
 obtain ⟨hv,_,_,cs,t',hc,hR⟩:=hL.get a0 hl;exact ⟨hL.defers,_,results_cell hr hE hv hR (zco hc),_,s,rfl,rfl,hL.ent,cs,rfl,hR⟩
end
section
variable {P : Program} {Q : Exit → Act → World → Prop} {M : Nat → Prop} {n : Nat} {s0 : St} {a : Act} {s : St} {L : Lst}
theorem cnd {t:Nat} {b:Bool} {x y:Code} (hL:Has M n s0 a s L) (hl:lk L t=some (Pd.rep En.bool b)) (h1:b=true→x.wp P Q a s.w) (h2:b=false→y.wp P Q a s.w):(Code.cond (.tmp t) x y).wp P Q a s.w:=
 wp_cond_split (zbl.1 (hL.get t hl)) h1 h2
theorem lpg {c:Code} (I:Nat→Act→St→Prop) (k0:Nat) (h0:I k0 a s)
  (round:∀k a s,I k a s→∀K:Act→World→Prop,(∀k' a' s',k' < k→I k' a' s'→K a' s'.w)→c.wp P (Exit.then K Q) a s.w):(Code.loop c).wp P Q a s.w:=by
 refine wp_loop_ghost (fun k a w=>∃s,s.w=w∧I k a s) k0 ⟨s,rfl,h0⟩ ?_;rintro k a w ⟨s,rfl,hI⟩;exact round k a s hI _ fun k' a' s' hk hI'=>⟨k',hk,s',rfl,hI'⟩
end
end
end Go.Proofs.YtaknifhhnhcchaaDoor.V
namespace Go.Proofs.YtaknifhhnhcchaaDoor.V
set_option linter.unusedVariables false
abbrev Cl:=BitVec 256
def Cl.word (x:Cl) (i:Nat):Nat:=x.toNat / 2 ^ (64*i) % 2 ^ 64
def Cl.has (x:Cl) (c:Nat):Bool:=x.getLsbD c
def Cl.ofWords (a b c d:Nat):Cl:=BitVec.ofNat 256 (a+2 ^ 64*b+2 ^ 128*c+2 ^ 192*d)
theorem Cl.word_bit (x:Cl) (i j:Nat):(x.word i).testBit j=(decide (j<64)&&x.has (64*i+j)):=by
 unfold Cl.word Cl.has;rw [Nat.testBit_mod_two_pow,Nat.testBit_div_two_pow];rw [BitVec.getLsbD,Nat.add_comm]
theorem Cl.ext {x y:Cl} (h:∀c,c<256→x.has c=y.has c):x=y:=BitVec.eq_of_getLsbD_eq h
theorem Cl.ext_words {x y:Cl} (h:∀i,i<4→x.word i=y.word i):x=y:=by
 apply Cl.ext;intro c hc;have h1:=Cl.word_bit x (c / 64) (c % 64);have h2:=Cl.word_bit y (c / 64) (c % 64);rw [h (c / 64) (by omega)] at h1;rw [h1] at h2;simpa [Nat.mod_lt,Nat.div_add_mod] using h2
theorem Cl.ofWords_word {a b c d:Nat} (ha:a<2 ^ 64) (hb:b<2 ^ 64) (hc:c<2 ^ 64) (hd:d<2 ^ 64):
  (Cl.ofWords a b c d).word 0=a∧(Cl.ofWords a b c d).word 1=b∧(Cl.ofWords a b c d).word 2=c∧(Cl.ofWords a b c d).word 3=d:=by
 have h:(Cl.ofWords a b c d).toNat=a+2 ^ 64*b+2 ^ 128*c+2 ^ 192*d:=by
  unfold Cl.ofWords;rw [BitVec.toNat_ofNat];exact Nat.mod_eq_of_lt (by omega)
 unfold Cl.word;rw [h];simp only [Nat.mul_zero,Nat.mul_one,Nat.pow_zero,Nat.reduceMul];omega
open Go
def ze1 (x:Cl):List Value:=[.int .u64 (x.word 0),.int .u64 (x.word 1),.int .u64 (x.word 2),.int .u64 (x.word 3)]
def En.cls:En Cl where
 sz:=4
 agg:=true
 R:=fun _ _ cs x=>cs=ze1 x
 sc:=fun h=>by cases h
 pos:=by decide
 len:=by rintro _ _ _ _ rfl;rfl
 one:=by rintro _ _ _ _ rfl u hu;simp [ze1] at hu;rcases hu with rfl | rfl | rfl | rfl <;> rfl
 mono:=fun _ h=>h
 move:=fun _ h=>h
section
variable {u : Bool} [Dr u]
structure TyZ {α:Type} (P:Program) (t:TypeId) (E:En α) (z:α):Prop where
 zero:∃i v cs,P.info? t=some i∧i.zero=some v∧v.cells=cs.toArray∧∀w S,E.R w S cs z
def Sub {α β:Type} (E:En α) (off:Nat) (E':En β) (x x':α) (y:β):Prop:=
 off+E'.sz≤E.sz∧∀w S cs cs',E.R w S cs x→E'.R w S cs' y→E.R w S (spl cs off cs') x'
theorem zl {α:Type} (E:En α) (x y:α):Sub E 0 E x y y:=
 ⟨by simp,fun w S cs cs' h h'=>by
  have:spl cs 0 cs'=cs':=by
   have h1:=E.len h;have h2:=E.len h';simp [spl,List.drop_of_length_le (show cs.length≤cs'.length by omega)]
  rw [this];exact h'⟩
def St.pushX (s:St) (ob:Obj):St:=⟨s.w.alloc ob,fun b=>s.X b∨b=s.w.heap.size,fun b hb=>hb.elim (fun h=>Nat.lt_of_lt_of_le (s.lt b h) (by simp)) (fun h=>by subst h;simp)⟩
theorem Ex.pushX (s:St) (ob:Obj):Ex s (s.pushX ob):=
 ⟨⟨DR.eq rfl,rfl,rfl,rfl,by simp [St.pushX],fun b hb _=>Go.RowKit.Below.heap_alloc s.w _ b hb,fun _ h=>h.elim,fun b hb=>hb.imp id (fun h=>Nat.le_of_eq h.symm)⟩,fun b hb=>.inl hb⟩
section
variable {P : Program} {ops : Array Oper} {o : Oper} {L L' : Lst} {Q : Exit → Act → World → Prop} {rest : List Oper} {M : Nat → Prop} {n : Nat} {s0 : St} {a : Act} {s : St}
theorem zb6 {α:Type} {E:En α} {te t:TypeId} {xs:List Operand} {es:List α} {k:Nat} {parts:Array (Nat × Operand)} (d:Nat)
  (hL:Has M n s0 a s L) (hx:OpL E L xs es) (ht:P.underlying t=some (.slice te)) (hE:Ty P te E) (hk:k=xs.length) (hp:parts=(xs.zipIdx.map fun (x,i)=>(i,x)).toArray) (hs:k*E.sz≤16777216) (ho:o.op = .buildSlice t k parts) (hg:o.guard=none) (hd:o.dst=some d) (hn:Nat.blt d n=true)
  (kk:∀a' s' g,s.w.heap.size≤g→Has M n s0 a' s' ((d,Pd.row E s0.w.heap.size te (some g) es)::L)→wpList P ops Q rest a' s'.w):wpList P ops Q (o::rest) a s.w:=by
 obtain ⟨hlen,css,hEl,hr⟩:=run_lit hx ht hE hk hp hs ho hL;have hk1:k≤k*E.sz:=Nat.le_mul_of_pos_right k E.pos;refine wpList_plain hg fun K hK=>?_;unfold Oper.wp;rw [hr];refine hK _ _ ?_;simp only [hd];have hfl:css.flatten.length=es.length*E.sz:=by rw [zd8 hEl.lens,hEl.1]
 refine kk _ (s.pushX (.cells css.flatten.toArray te)) s.w.heap.size (Nat.le_refl _) (hL.put (Ex.pushX s _) hn ⟨rfl,fun g hg=>?_, ?_,css,⟨hEl.1,fun i cs x a b=>E.go (Ex.pushX s _).mv (hEl.2 i cs x a b)⟩, ?_⟩)
 ·cases hg;exact .inr rfl
 ·simp only [lim];omega
 ·refine ⟨hfl,.inr ⟨s.w.heap.size,es.length,css.flatten.toArray,rfl,hL.ent.mv.size,heap_alloc_new s.w _,Nat.le_refl _, ?_,by simpa using hfl, ?_⟩⟩
  ·simp only [maxLen];omega
  ·simp;rw [← hfl,List.take_length]
theorem zbj {α:Type} (E:En α) {z:α} {t:TypeId} (d:Nat) (hL:Has M n s0 a s L) (hz:TyZ P t E z) (ho:o.op = .alloc t) (hg:o.guard=none) (hd:o.dst=some d) (hn:Nat.blt d n=true)
  (k:∀a' s' g,s.w.heap.size≤g→Has M n s0 a' s' ((d,Pd.box E s0.w.heap.size g z)::L)→wpList P ops Q rest a' s'.w):wpList P ops Q (o::rest) a s.w:=by
 obtain ⟨i,v,cs,h1,h2,h3,h4⟩:=hz.zero;have hr:(execOp a.eval o).run P s.w = .ok (.value (.pointer (some ⟨s.w.heap.size,0,none⟩))) (s.pushX (.cells cs.toArray t)).w:=by
  unfold execOp;rw [ho];simp [Instr.alloc,zeroValue,typeInfo,h1,h2,newVar,newRow,h3,St.pushX]
 refine wpList_plain hg fun K hK=>?_;unfold Oper.wp;rw [hr];refine hK _ _ ?_;simp only [hd];exact k _ _ s.w.heap.size (Nat.le_refl _) (hL.put (Ex.pushX s _) hn ⟨rfl,hL.ent.mv.size,.inr rfl,cs,t,heap_alloc_new s.w _,h4 _ _⟩)
theorem zgk {α:Type} {E:En α} {x:α} {t:TypeId} (ht:Ty P t E) {w w':World} {S:Nat→Prop} {cs:List Value} (hR:E.R w' S cs x) {g off:Nat} {cur:List Value} {te:TypeId} (hg:w.heap[g]?=some (.cells cur.toArray te (0,0))) (hl:off+E.sz≤cur.length):
  (Instr.storeAt t (.pointer (some ⟨g,off,none⟩)) (E.val cs)).run P w = .ok () (w.setRow g (spl cur off cs).toArray):=by
 have hlen:=E.len hR;have:=run_storeCells_at P g off te cs 0 cur.toArray w hg (by simp;omega) (E.one hR);simp only [Instr.storeAt,Instr.sureAddr,Sem.run_bind,Sem.run_pure,Result.andThen_ok,storeVar,z6 ht,En.val_cells hR];rw [if_neg (by simp [hlen])];simpa [spl] using this
def St.set (s:St) (g:Nat) (cs:List Value):St:=⟨s.w.setRow g cs.toArray,s.X,fun b hb=>by simpa [World.setRow] using s.lt b hb⟩
theorem Ef.set (s:St) {g:Nat} (cs:List Value) {T:Nat→Prop} (hT:∀b,T b↔b=g) (hx:s.X g):Ef T s (s.set g cs):=
 ⟨⟨DR.eq rfl,rfl,rfl,rfl,by simp [St.set,World.setRow],fun b _ hn=>setRow_other s.w g b _ (fun e=>hn ((hT b).2 e)),fun b hb=>by rw [(hT b).1 hb];exact hx,fun b hb=>.inl hb⟩,fun b hb _=>hb⟩
theorem wp_store {t:TypeId} {x y:Operand} {w':World} (hr:(Instr.storeAt t (a.eval x) (a.eval y)).run P s.w = .ok () w') (ho:o.op = .store t x y) (hg:o.guard=none) (hd:o.dst=none) (k:wpList P ops Q rest a w'):wpList P ops Q (o::rest) a s.w:=by
 refine wpList_plain hg fun K hK=>?_;unfold Oper.wp execOp;simp only [ho,Sem.run_bind,hr,Result.andThen_ok,Sem.run_pure];refine hK _ _ ?_;simp only [hd];exact k
theorem zda {α β:Type} {E:En α} {E':En β} {x0 x1:α} {y0 y1:β} {g off:Nat} {x y:Operand} {t:TypeId} (c:Nat) (hL:Has M n s0 a s L) (hc:lk L c=some (Pd.box E s0.w.heap.size g x0)) (hx:Opn L x (Pd.optr E' s0.w.heap.size (some g) off y0)) (hy:Opn L y (Pd.rep E' y1))
  (hs:Sub E off E' x0 x1 y1) (ht:Ty P t E') (ho:o.op = .store t x y) (hg:o.guard=none) (hd:o.dst=none) (hk:Kp (fun b=>some g=some b) L L')
  (k:∀s',Has M n s0 a s' ((c,Pd.box E s0.w.heap.size g x1)::L')→wpList P ops Q rest a s'.w):wpList P ops Q (o::rest) a s.w:=by
 obtain ⟨hv,hN,hX,cur,te,hgb,hR⟩:=hL.get c hc;obtain ⟨g',hgg,hxv,_⟩:=hx M n s0 a s hL;cases hgg;obtain ⟨cs,hyv,hR'⟩:=hy M n s0 a s hL;have hlen:=E.len hR;have hr:=zgk (P:=P) ht hR' (g:=g) (off:=off) hgb (by rw [hlen];exact hs.1);refine wp_store (s:=s) (by rw [hxv,hyv];exact hr) ho hg hd ?_;have e:Ef (fun b=>some g=some b) s (s.set g (spl cur off cs)):=Ef.set s _ (fun b=>by simp [eq_comm]) hX;refine k (s.set g (spl cur off cs)) ((hL.ef e (fun b hb=>by cases hb;exact hN) hk).cons c ⟨hv,hN,hX,_,te,setRow_heap s.w g _ _ te (0,0) hgb, ?_⟩);exact E.go e.mv (hs.2 _ _ _ _ hR hR')
theorem zed {α:Type} {E:En α} {x0 x1:α} {g:Nat} {y:Operand} {t:TypeId} (c:Nat) (hL:Has M n s0 a s L) (hc:lk L c=some (Pd.box E s0.w.heap.size g x0)) (hy:Opn L y (Pd.rep E x1))
  (ht:Ty P t E) (ho:o.op = .store t (.tmp c) y) (hg:o.guard=none) (hd:o.dst=none) (hk:Kp (fun b=>some g=some b) L L')
  (k:∀s',Has M n s0 a s' ((c,Pd.box E s0.w.heap.size g x1)::L')→wpList P ops Q rest a s'.w):wpList P ops Q (o::rest) a s.w:=by
 refine zda (off:=0) (y0:=x0) (E':=E) c hL hc ?_ hy (zl E x0 x1) ht ho hg hd hk k;intro M' n' s0' a' s' hL';obtain ⟨hv,hN,hX,cur,te,hgb,hR⟩:=hL'.get c hc;exact ⟨g,rfl,hv,hN,(Array.getElem?_eq_some_iff.1 hgb).1,hX,cur,zco hgb,hR⟩
theorem at_some {α:Type} {xs:List α} {i:Int} {e:α} (h:at? xs i=some e):0≤i∧xs[i.toNat]?=some e:=by
 unfold at? at h;split at h
 ·exact ⟨by assumption,h⟩
 ·cases h
theorem row_uniq {α:Type} {E:En α} {N N':Nat} {te:TypeId} {og:Option Nat} {xs:List α} {u v:Value} (h:(Pd.row E N te og xs).p s u) (k:(Pd.row E N' te og xs).p s v):u=v:=by
 obtain ⟨h1,_,_,css,h4,h5⟩:=h;obtain ⟨k1,_,_,dss,k4,k5⟩:=k;rcases h5.2 with ⟨e,hn⟩ | ⟨g,cap,cur,e,hN,hg,hnc,hcm,hcz,ht⟩
 ·subst e;rcases k5.2 with ⟨e',_⟩ | ⟨g',cap',cur',e',hN',hg',_,_,hcz',_⟩
  ·exact e'.symm
  ·subst e';rw [← h1] at k1;cases k1
 ·subst e;rcases k5.2 with ⟨e',_⟩ | ⟨g',cap',cur',e',hN',hg',_,_,hcz',_⟩
  ·subst e';rw [← h1] at k1;cases k1
  ·subst e';have hgg:g'=g:=by rw [← h1] at k1;simpa [Value.ownBlock] using k1
   subst hgg;rw [hg] at hg';simp only [Option.some.injEq,Obj.cells.injEq] at hg';have:cap*E.sz=cap'*E.sz:=by rw [← hcz,← hcz',hg'.1]
   have:=Nat.eq_of_mul_eq_mul_right E.pos this;rw [this]
end
end
section
variable {P : Program} {ops : Array Oper} {o : Oper} {L L' : Lst} {Q : Exit → Act → World → Prop} {rest : List Oper} {M : Nat → Prop} {n : Nat} {s0 : St} {a : Act} {s : St}
end
section
variable {u : Bool} [Dr u]
section
variable {P : Program} {ops : Array Oper} {o : Oper} {L L' : Lst} {Q : Exit → Act → World → Prop} {rest : List Oper} {M : Nat → Prop} {n : Nat} {s0 : St} {a : Act} {s : St}
end
def Dis (a b:Option Nat):Prop:=∀k,a=some k→b=some k→False
theorem Dis.symm {a b:Option Nat} (h:Dis a b):Dis b a:=fun k h1 h2=>h k h2 h1
theorem Dis.none {b:Option Nat}:Dis none b:=fun _ h _=>by cases h
theorem Dis.bx {g:Nat} {b:Option Nat} (h:Dis (some g) b):∀k,k=g→¬ b=some k:=fun k h1 h2=>h k (by rw [h1]) h2
theorem Dis.new {a b:Option Nat} {N:Nat} (h:∀k,a=some k→N≤k) (hb:∀k,b=some k→k<N):Dis a b:=fun k h1 h2=>by have:=h k h1;have:=hb k h2;omega
theorem Dis.newg {g:Nat} {b:Option Nat} {N:Nat} (h:N≤g) (hb:∀k,b=some k→k<N):Dis (some g) b:=fun k h1 h2=>by cases h1;have:=hb g h2;omega
theorem Dis.app {a a' b:Option Nat} {N:Nat} (h:∀k,a'=some k→a=some k∨N≤k) (hd:Dis a b) (hb:∀k,b=some k→k<N):Dis a' b:=fun k h1 h2=>(h k h1).elim (fun h=>hd k h h2) (fun h=>by have:=hb k h2;omega)
theorem Has.rlt {α:Type} {E:En α} {N:Nat} {te:TypeId} {og:Option Nat} {xs:List α} {M:Nat→Prop} {n:Nat} {s0:St} {a:Act} {s:St} {L:Lst} (h:Has M n s0 a s L) (t:Nat) (hl:lk L t=some (Pd.row E N te og xs)):∀k,og=some k→k<s.w.heap.size:=fun k hk=>(zfg (h.get t hl) k hk).2
theorem Has.blt {α:Type} {E:En α} {N g:Nat} {x:α} {M:Nat→Prop} {n:Nat} {s0:St} {a:Act} {s:St} {L:Lst} (h:Has M n s0 a s L) (t:Nat) (hl:lk L t=some (Pd.box E N g x)):∀k,some g=some k→k<s.w.heap.size:=fun k hk=>by
 cases hk;obtain ⟨_,_,_,_,_,hc,_⟩:=h.get t hl;exact (Array.getElem?_eq_some_iff.1 hc).1
theorem rdl {P:Program} {id:Nat} {l:List Oper} {Q:Exit→Act→World→Prop} {M:Nat→Prop} {n:Nat} {s0:St} {a:Act} {s:St} {L:Lst} (hf:P.follows .mixedOrders=true) (m:Nat) (qs:List Pd)
  (hL:Has M n s0 a s L) (hok:zc1 l.toArray m n (L.map (·.1)) []=true) (hq:qs.length=m) (hm:m≤l.length)
  (hT:∀i o q,i<m→l[i]?=some o→qs[i]?=some q→T P l.toArray o (zfs l.toArray qs o.after.toList L) q)
  (hB:∀a' s',Ex s s'→Has M n s0 a' s' (zgn l.toArray qs m L)→wpList P l.toArray Q (l.drop m) a' s'.w):(Code.region id l.toArray true).wp P Q a s.w:=by
 refine rd hf m qs hL hok hq (by simpa using hm) (fun i o q hi ho=>hT i o q hi (by simpa using ho)) fun a' s' e h=>?_;have:=hB a' s' e h;rw [← wpOps_eq_wpList (l.drop m) m (fun j=>by simp)] at this;simpa using this
def zn (P:Program) (ops:Array Oper) (qs0:List Pd) (L:Lst):List Oper→List Pd→Prop
 | _,[]=>True
 | [],_::_=>False
 | o::l,q::qs=>T P ops o (zfs ops qs0 o.after.toList L) q∧zn P ops qs0 L l qs
theorem zn.at {P:Program} {ops:Array Oper} {qs0:List Pd} {L:Lst}:∀(l:List Oper) (qs:List Pd),zn P ops qs0 L l qs→∀(i:Nat) (o:Oper) (q:Pd),l[i]?=some o→qs[i]?=some q→T P ops o (zfs ops qs0 o.after.toList L) q
 | _,[],_,i,o,q,_,hq=>by simp at hq
 | [],_::_,h,_,_,_,_,_=>h.elim
 | o'::l,q'::qs,h,i,o,q,ho,hq=>by
  cases i with
  | zero=>simp only [List.getElem?_cons_zero,Option.some.injEq] at ho hq;subst ho;subst hq;exact h.1
  | succ i=>simp only [List.getElem?_cons_succ] at ho hq;exact zn.at l qs h.2 i o q ho hq
theorem zn.cons {P:Program} {ops:Array Oper} {qs0:List Pd} {L:Lst} {o:Oper} {l:List Oper} {q:Pd} {qs:List Pd} (h:T P ops o (zfs ops qs0 o.after.toList L) q) (h2:zn P ops qs0 L l qs):zn P ops qs0 L (o::l) (q::qs):=⟨h,h2⟩
theorem zn.nil {P:Program} {ops:Array Oper} {qs0:List Pd} {L:Lst} {l:List Oper}:zn P ops qs0 L l []:=by cases l <;> trivial
theorem rda {P:Program} {id:Nat} {l:List Oper} {Q:Exit→Act→World→Prop} {M:Nat→Prop} {n:Nat} {s0:St} {a:Act} {s:St} {L:Lst} (hf:P.follows .mixedOrders=true) (m:Nat) (qs:List Pd)
  (hL:Has M n s0 a s L) (hok:zc1 l.toArray m n (L.map (·.1)) []=true) (hq:Nat.beq qs.length m=true) (hm:Nat.ble m l.length=true)
  (hT:zn P l.toArray qs L l qs)
  (hB:∀a' s',Ex s s'→Has M n s0 a' s' (zgn l.toArray qs m L)→wpList P l.toArray Q (l.drop m) a' s'.w):(Code.region id l.toArray true).wp P Q a s.w:=
 rdl hf m qs hL hok (Nat.eq_of_beq_eq_true hq) (Nat.le_of_ble_eq_true hm) (fun i o q _ ho hq=>zn.at l qs hT i o q ho hq) hB
theorem y_move {P:Program} {o:Oper} {L:Lst} {x:Operand} {q:Pd} (h:Opn L x q) (ho:o.op = .move x) (hg:o.guard=none):TY P o L q:=
 ⟨hg,fun M n s0 a s hL=>⟨a.eval x,fun w=>by unfold execOp;rw [ho];rfl,h M n s0 a s hL⟩⟩
theorem o_nil {α:Type} {E:En α} {N:Nat} {te:TypeId} {L:Lst}:Opn L (.const (.slice none 0 0)) (Pd.row E N te none ([]:List α)):=o_c fun s=>own_nil E N te s
theorem zgl {α:Type} {E:En α} {L:Lst}:Opn L (.const (.slice none 0 0)) (Pd.rep (En.slice E) ([]:List α)):=o_c fun s=>zbp.2 (zei E _ _)
def Pd.tup2 (q r:Pd):Pd:=⟨fun s v=>∃x y,v = .tuple #[x,y]∧q.p s x∧r.p s y,fun b=>q.own b∨r.own b,fun h hb ⟨x,y,hv,h1,h2⟩=>⟨x,y,hv,q.mv h (fun b hq=>hb b (.inl hq)) h1,r.mv h (fun b hr=>hb b (.inr hr)) h2⟩⟩
theorem Fn.tup {P:Program} {f:FuncId} {qs:List Pd} {q r:Pd} (h:Fn P f qs (Rq2 q r)):Fn P f qs (Rq (Pd.tup2 q r)):=h
section
variable {P : Program} {ops : Array Oper} {o : Oper} {L : Lst}
theorem t_ext0 {q r:Pd} {x:Operand} (hx:Opn L x (Pd.tup2 q r)) (ho:o.op = .extract x 0) (hg:o.guard=none):T P ops o L q:=
 T.pure hg fun M n s0 a s hL=>by
  obtain ⟨u,v,hv,h1,h2⟩:=hx M n s0 a s hL;refine ⟨u, ?_,h1⟩;unfold execOp;rw [ho];simp [hv,Instr.extract]
theorem t_ext1 {q r:Pd} {x:Operand} (hx:Opn L x (Pd.tup2 q r)) (ho:o.op = .extract x 1) (hg:o.guard=none):T P ops o L r:=
 T.pure hg fun M n s0 a s hL=>by
  obtain ⟨u,v,hv,h1,h2⟩:=hx M n s0 a s hL;refine ⟨v, ?_,h2⟩;unfold execOp;rw [ho];simp [hv,Instr.extract]
end
end
end Go.Proofs.YtaknifhhnhcchaaDoor.V
namespace Go.Proofs.YtaknifhhnhcchaaDoor.V
open Go
set_option linter.unusedVariables false
section
variable {u : Bool} [Dr u]
structure Eqv {α:Type} [BEq α] (P:Program) (t:TypeId) (E:En α):Prop where
 eql:∀(w:World) (S:Nat→Prop) (cs ds:List Value) (x y:α) (a b:Operand),E.R w S cs x→E.R w S ds y →
  (do eqGuard .eql t a b (E.val cs) (E.val ds);binOp .eql t (E.val cs) (E.val ds):Sem Value).run P w = .ok (.bool (x==y)) w
 neq:∀(w:World) (S:Nat→Prop) (cs ds:List Value) (x y:α) (a b:Operand),E.R w S cs x→E.R w S ds y →
  (do eqGuard .neq t a b (E.val cs) (E.val ds);binOp .neq t (E.val cs) (E.val ds):Sem Value).run P w = .ok (.bool (x != y)) w
section
variable {P : Program} {ops : Array Oper} {o : Oper} {L : Lst}
theorem t_eqv {α:Type} [BEq α] {E:En α} {t u:TypeId} (he:Eqv P t E) {x y:Operand} {a b:α} (hx:Opn L x (Pd.rep E a)) (hy:Opn L y (Pd.rep E b)) (ho:o.op = .binOp .eql t x y u) (hg:o.guard=none):T P ops o L (Pd.rep En.bool (a==b)):=
 T.pure hg fun M n s0 ac s hL=>by
  obtain ⟨cs,h1,hR⟩:=hx M n s0 ac s hL;obtain ⟨ds,h2,hS⟩:=hy M n s0 ac s hL;refine ⟨.bool (a==b), ?_,zbl.2 rfl⟩;have:=he.eql s.w _ cs ds a b x y hR hS;unfold execOp;rw [ho];simp only [h1,h2,Sem.run_bind] at this ⊢;rw [this];rfl
theorem t_nev {α:Type} [BEq α] {E:En α} {t u:TypeId} (he:Eqv P t E) {x y:Operand} {a b:α} (hx:Opn L x (Pd.rep E a)) (hy:Opn L y (Pd.rep E b)) (ho:o.op = .binOp .neq t x y u) (hg:o.guard=none):T P ops o L (Pd.rep En.bool (a != b)):=
 T.pure hg fun M n s0 ac s hL=>by
  obtain ⟨cs,h1,hR⟩:=hx M n s0 ac s hL;obtain ⟨ds,h2,hS⟩:=hy M n s0 ac s hL;refine ⟨.bool (a != b), ?_,zbl.2 rfl⟩;have:=he.neq s.w _ cs ds a b x y hR hS;unfold execOp;rw [ho];simp only [h1,h2,Sem.run_bind] at this ⊢;rw [this];rfl
end
theorem equalIn_int1 {P:Program} (d:Nat) (e:TypeId) (k:IntKind) (he:P.underlying e=some (.int k)) (a b:Int) (w:World):(Op.equalIn (d+1) e (.int k a) (.int k b)).run P w = .ok (a==b) w:=by
 unfold Op.equalIn;simp [run_underlying he]
theorem equalIn_row {P:Program} (d:Nat) (t e:TypeId) (ht:P.underlying t=some (.array 4 e)) (he:P.underlying e=some (.int .u64)) (hi:(P.info? e).map (·.size)=some 1) (a0 a1 a2 a3 b0 b1 b2 b3:Int) (w:World):
  (Op.equalIn (d+2) t (.agg #[.int .u64 a0,.int .u64 a1,.int .u64 a2,.int .u64 a3]) (.agg #[.int .u64 b0,.int .u64 b1,.int .u64 b2,.int .u64 b3])).run P w = .ok (a0==b0&&(a1==b1&&(a2==b2&&a3==b3))) w:=by
 obtain ⟨i,h1,h2⟩:∃i,P.info? e=some i∧i.size=1:=by
  cases h:P.info? e with
  | none=>rw [h] at hi;cases hi
  | some i=>rw [h] at hi;exact ⟨i,rfl,by simpa using hi⟩
 have hsz:∀w:World,(sizeOf e).run P w = .ok 1 w:=fun w=>by simp [sizeOf,typeInfo,h1,h2]
 have hagg:∀w:World,(isAgg e).run P w = .ok false w:=fun w=>by simp [isAgg,run_underlying he]
 unfold Op.equalIn;simp only [Sem.run_bind,run_underlying ht,Result.andThen_ok,hsz];simp only [Std.Legacy.Range.forIn_eq_forIn_range',Std.Legacy.Range.size,Nat.sub_zero,Nat.div_one,List.range',List.forIn_cons,List.forIn_nil,Sem.run_bind,part,hagg,Result.andThen_ok,Bool.false_eq_true,if_false,Nat.mul_one,Nat.reduceAdd];have h0:=hagg w;have he1:=fun x y=>equalIn_int1 (P:=P) d e .u64 he x y w
 by_cases e0:a0=b0
 ·by_cases e1:a1=b1
  ·by_cases e2:a2=b2
   ·by_cases e3:a3=b3 <;> simp [e0,e1,e2,e3,he1,h0]
   ·simp [e0,e1,e2,he1,h0]
  ·simp [e0,e1,he1,h0]
 ·simp [e0,he1]
section
variable {P : Program} {ops : Array Oper} {o : Oper} {L : Lst}
end
end
end Go.Proofs.YtaknifhhnhcchaaDoor.V
namespace Go.Proofs.YtaknifhhnhcchaaDoor.V
open Go
set_option linter.unusedVariables false
section
variable {u : Bool} [Dr u]
theorem zf7 {x:Int}:InR .i64 x↔-9223372036854775808≤x∧x≤9223372036854775807:=by simp [InR,IntKind.min,IntKind.max,IntKind.signed,IntKind.bits]
section
variable {P : Program} {ops : Array Oper} {o : Oper} {L : Lst}
end
end
end Go.Proofs.YtaknifhhnhcchaaDoor.V
namespace Go.Proofs.YtaknifhhnhcchaaDoor.V
open Go
theorem zcm:Tryd.prog.follows .mixedOrders=true:=by kernel_rfl
theorem laid:laidOutB Tryd.prog=true:=by kernel_rfl
theorem own:ownKnob Tryd.prog.godebug=none:=by kernel_rfl
set_option linter.unusedVariables false
section
variable {u : Bool} [Dr u]
def Pd.prow {α:Type} (E:En α) (te:TypeId) (v0:Value) (xs:List α):Pd:=
 ⟨fun s v=>v=v0∧(Pd.row E 0 te v0.ownBlock xs).p s v,fun b=>v0.ownBlock=some b,fun h hb hp=>⟨hp.1,(Pd.row E 0 te v0.ownBlock xs).mv h hb hp.2⟩⟩
section
variable {P : Program} {ops : Array Oper} {o : Oper} {L L' : Lst} {Q : Exit → Act → World → Prop} {rest : List Oper} {M : Nat → Prop} {n : Nat} {s0 : St} {a : Act} {s : St}
theorem st_callr {α:Type} {E:En α} {te:TypeId} {xs ys:List α} {og:Option Nat} {f:FuncId} {x0:Operand} {zs:List Operand} {qs:List Pd} {ats:Array TypeId} (d:Nat)
  (hf:∀v0:Value,Fm P f (fun b=>v0.ownBlock=some b) (Pd.prow E te v0 xs::qs) (fun _ s' _=>(Pd.prow E te v0 ys).p s' v0))
  (hL:Has M n s0 a s L) (hx0:Opn L x0 (Pd.row E s0.w.heap.size te og xs)) (hx:Opns L zs qs)
  (ho:o.op = .call { callee:=.value (.func f),args:=(x0::zs).toArray,argTypes:=ats }) (hg:o.guard=none) (hd:o.dst=some d) (hn:Nat.blt d n=true) (hk:Kw (fun b=>og=some b) L (Pd.row E s0.w.heap.size te og xs) (Pd.row E s0.w.heap.size te og ys) L')
  (k:∀a' s',Has M n s0 a' s' ((d,Pd.any)::L')→wpList P ops Q rest a' s'.w):wpList P ops Q (o::rest) a s.w:=by
 refine wpList_plain hg fun K hK=>?_;have hv:=hx0 M n s0 a s hL;obtain ⟨v0,hv0⟩:∃v0,a.eval x0=v0:=⟨_,rfl⟩;rw [hv0] at hv;have hog:v0.ownBlock=og:=hv.1;have hcall:=(hf v0).call ((x0::zs).map a.eval).toArray s.w;have e:execOp a.eval o=callFunc f (#[]++((x0::zs).toArray).map a.eval ++ #[]):=by unfold execOp;rw [ho];rfl
 have hrun:(execOp a.eval o).run P s.w = .ok (.enter f ((x0::zs).map a.eval).toArray) s.w:=by rw [e];simpa using hcall
 unfold Oper.wp;rw [hrun,Oper.upon_enter];have hX:∀b,v0.ownBlock=some b→s.X b:=fun b hb=>hv.2.1 b (by rw [← hog];exact hb);have hvals:Vals s (Pd.prow E te v0 xs::qs) ((x0::zs).map a.eval):=⟨⟨hv0,by rw [hv0,hog];exact zgv (Nat.zero_le _) hv⟩,hx.vals hL⟩;refine ((hf v0).run s _ hL.gls hX hvals).mono fun en w' ⟨v,s',he,hw',hfr,hp⟩=>?_;subst he;subst hw';refine hK _ _ ?_;have hef:Ef (fun b=>og=some b) s s':=by
  have:=hfr.mv;simp only [hog] at this;exact ⟨this,fun b hb _=>hfr.keep b hb⟩
 have hlt:=zfg hv;have hrow:(Pd.row E s0.w.heap.size te og ys).p s' v0:=by
  obtain ⟨_,h1,h2,h3,css,h4,h5⟩:=hp;rw [hog] at h1 h2;refine ⟨hog,h2,h3,css,h4,h5.1,h5.2.imp id ?_⟩;rintro ⟨g,cap,cur,e,_,r⟩;exact ⟨g,cap,cur,e,(hlt g (by rw [← hog,e];rfl)).1,r⟩
 have hL2:=hL.turn hef (.inl fun b hb=>(hlt b hb).1) hfr.keep hk fun u hu=>by rw [row_uniq hu hv];exact hrow
 rw [hd];exact k _ s' (hL2.put' hn trivial)
end
theorem t_min {P:Program} {ops:Array Oper} {o:Oper} {L:Lst} {k:IntKind} {x y:Int} {u v:Operand} {ats:Array TypeId} (hx:Opn L u (Pd.rep (En.int k) x)) (hy:Opn L v (Pd.rep (En.int k) y)) (ho:o.op = .call { callee:=.builtin .min,args:=#[u,v],argTypes:=ats }) (hg:o.guard=none):
  T P ops o L (Pd.rep (En.int k) (min x y)):=
 T.pure hg fun M n s0 ac s hL=>by
  obtain ⟨h1,h2⟩:=z7.1 (hx M n s0 ac s hL);obtain ⟨h3,h4⟩:=z7.1 (hy M n s0 ac s hL);refine ⟨.int k (min x y), ?_,z7.2 ⟨rfl,by unfold InR at *;omega⟩⟩;unfold execOp;rw [ho];simp only [resolve,invoke,builtin,Builtin.min_,Sem.run_bind,Sem.run_pure,Result.andThen_ok];simp [h1,h3,Builtin.min2]
  by_cases h:x≤y
  ·simp [Int.min_eq_left h,Int.not_lt.2 h]
  ·have h':y≤x:=by omega
   simp [Int.min_eq_right h',Int.not_le.1 h]
theorem t_max {P:Program} {ops:Array Oper} {o:Oper} {L:Lst} {k:IntKind} {x y:Int} {u v:Operand} {ats:Array TypeId} (hx:Opn L u (Pd.rep (En.int k) x)) (hy:Opn L v (Pd.rep (En.int k) y)) (ho:o.op = .call { callee:=.builtin .max,args:=#[u,v],argTypes:=ats }) (hg:o.guard=none):
  T P ops o L (Pd.rep (En.int k) (max x y)):=
 T.pure hg fun M n s0 ac s hL=>by
  obtain ⟨h1,h2⟩:=z7.1 (hx M n s0 ac s hL);obtain ⟨h3,h4⟩:=z7.1 (hy M n s0 ac s hL);refine ⟨.int k (max x y), ?_,z7.2 ⟨rfl,by unfold InR at *;omega⟩⟩;unfold execOp;rw [ho];simp only [resolve,invoke,builtin,Builtin.max_,Sem.run_bind,Sem.run_pure,Result.andThen_ok];simp [h1,h3,Builtin.max2]
  by_cases h:x≤y
  ·simp [Int.max_eq_right h];omega
  ·have h':y≤x:=by omega
   simp [Int.max_eq_left h'];omega
def En.fun (P:Program) {β:Type} (qs:β→List Pd) (R:β→St→St→Value→Prop):En (β→Prop) where
 sz:=1
 agg:=false
 R:=fun w S cs F=>(cs=[.nilFunc]∧∀q,¬ F q)∨∃(f:FuncId) (first cap:Array Value),cs=[.func (.func f) first cap]∧(∀(args:Array Value) (w:World),(callFunc f args).run P w = .ok (.enter f args) w) ∧
  ∀s:St,Gl s→(∀b,S b→zc4 s b)→Same S w s.w→∀q,F q→∀vs,Vals s (qs q) vs→Calls P f (first++vs.toArray++cap) s.w fun e w'=>∃(v:Value) (s':St),e = .returned v∧s'.w=w'∧Ex s s'∧R q s s' v
 sc:=fun _=>rfl
 pos:=Nat.one_pos
 len:=by rintro _ _ _ _ (⟨rfl,_⟩ | ⟨_,_,_,rfl,_⟩) <;> rfl
 one:=by rintro _ _ _ _ (⟨rfl,_⟩ | ⟨_,_,_,rfl,_⟩) u hu <;> (simp at hu;subst hu;rfl)
 mono:=by
  rintro w S S' cs F h (h0 | ⟨f,first,cap,hc,h1,h2⟩)
  ·exact .inl h0
  ·exact .inr ⟨f,first,cap,hc,h1,fun s hg ha hb=>h2 s hg (fun b hS=>ha b (h b hS)) fun b hS=>hb b (h b hS)⟩
 move:=by
  rintro w w' S cs F h (h0 | ⟨f,first,cap,hc,h1,h2⟩)
  ·exact .inl h0
  ·exact .inr ⟨f,first,cap,hc,h1,fun s hg ha hb=>h2 s hg ha fun b hS=>(hb b hS).trans (h b hS)⟩
section
variable {P : Program} {ops : Array Oper} {o : Oper} {L : Lst} {β : Type} {qs : β → List Pd} {R : β → St → St → Value → Prop} {F : β → Prop}
theorem o_fun {f:FuncId} (hc:∀(args:Array Value) (w:World),(callFunc f args).run P w = .ok (.enter f args) w) (h:∀q,F q→Fn P f (qs q) (R q)):Opn L (.func f) (Pd.rep (En.fun P qs R) F):=
 fun M n s0 a s hL=>⟨[.func (.func f) #[] #[]],rfl,.inr ⟨f,#[],#[],rfl,hc,fun s1 hgl _ _ q hq vs hv=>by simpa using (h q hq).run s1 vs hgl hv⟩⟩
theorem t_callf {t:Nat} {xs:List Operand} {q:β} {q':Pd} {ats:Array TypeId} (hf:Opn L (.tmp t) (Pd.rep (En.fun P qs R) F)) (hq:F q) (hx:Opns L xs (qs q)) (hR:∀s s' v,R q s s' v→q'.p s' v)
  (ho:o.op = .call { callee:=.value (.tmp t),args:=xs.toArray,argTypes:=ats }) (hg:o.guard=none):T P ops o L q':=fun M n s0 a s hL Q k hk=>by
 simp only [Region.wanted,hg,if_true];obtain ⟨cs,hv,h⟩:=hf M n s0 a s hL;rcases h with ⟨_,h0⟩ | ⟨f,first,cap,hcs,hc,hr⟩
 ·exact (h0 q hq).elim
 subst hcs;have hv:a.eval (.tmp t) = .func (.func f) first cap:=hv
 have e:(execOp a.eval o).run P s.w = .ok (.enter f (first++(xs.map a.eval).toArray++cap)) s.w:=by
  have e1:execOp a.eval o=(do let d ← Deferred.ofValue (a.eval (.tmp t)) (xs.toArray.map a.eval);invoke d.target d.args):=by
   unfold execOp;rw [ho];rfl
  rw [e1,hv];have:=hc (first++(xs.map a.eval).toArray++cap) s.w;simpa [Deferred.ofValue,invoke] using this
 unfold Oper.wp;rw [e,Oper.upon_enter];refine (hr s hL.gls (fun _ h=>h) (fun _ _=>rfl) q hq _ (hx.vals hL)).mono fun e w' ⟨v,s',he,hw,hx,hq⟩=>?_;subst he;subst hw;exact hk v s' ⟨hx,hR _ _ _ hq⟩
end
theorem zhk {P:Program} {f:FuncId} {fn:Func} {c:Code} (hf:P.funcs[f]?=some fn) (hb:fn.body=some c) (hm:(fn.name == "runtime.NumGoroutine")=false):∀(args:Array Value) (w:World),(callFunc f args).run P w = .ok (.enter f args) w:=fun args w=>by
 have hm':¬ fn.name = "runtime.NumGoroutine":=by simpa using hm
 simp [callFunc,hf,hm',hb]
theorem o_q {L:Lst} {x:Operand} (q:Pd) (h:Opn L x q):Opn L x q:=h
end
end Go.Proofs.YtaknifhhnhcchaaDoor.V
namespace Go.Proofs.YtaknifhhnhcchaaDoor.V
open Go
set_option linter.unusedVariables false
section
variable {u : Bool} [Dr u]
theorem no_own {α:Type} {E:En α} {N:Nat} {te:TypeId} {xs:List α} {T:Nat→Prop}:∀b,(Pd.row E N te none xs).own b→¬ T b:=fun b h=>absurd (show none=some b from h) (by simp)
def Pd.ge (K:Nat):Pd:=⟨fun s _=>K≤s.w.heap.size,fun _=>False,fun h _ hp=>Nat.le_trans hp h.size⟩
def Pd.ebox {α:Type} (E:En α) (N K:Nat) (x:α):Pd:=
 ⟨fun s v=>∃g,K≤g∧(Pd.box E N g x).p s v,fun b=>K≤b,fun h hb ⟨g,hg,hp⟩=>⟨g,hg,(Pd.box E N g x).mv h (fun b hbg=>by cases hbg;exact hb _ hg) hp⟩⟩
def Pd.erow {α:Type} (E:En α) (N K:Nat) (te:TypeId) (xs:List α):Pd:=
 ⟨fun s v=>∃og,(∀b,og=some b→K≤b)∧(Pd.row E N te og xs).p s v,fun b=>K≤b,fun h hb ⟨og,hg,hp⟩=>⟨og,hg,(Pd.row E N te og xs).mv h (fun b hbg=>hb _ (hg b hbg)) hp⟩⟩
section
variable {M : Nat → Prop} {n : Nat} {s0 : St} {a : Act} {s : St} {L : Lst}
theorem Has.mark (h:Has M n s0 a s L) (t:Nat):∃K,K=s.w.heap.size∧s0.w.heap.size≤K∧Has M n s0 a s ((t,Pd.ge K)::L):=⟨_,rfl,h.ent.mv.size,h.cons t (Nat.le_refl _)⟩
theorem Has.openb {α:Type} {E:En α} {N K:Nat} {x:α} (h:Has M n s0 a s L) (t:Nat) (hl:lk L t=some (Pd.ebox E N K x)):∃g,K≤g∧Has M n s0 a s ((t,Pd.box E N g x)::L):=by
 obtain ⟨g,hg,hp⟩:=h.get t hl;exact ⟨g,hg,h.cons t hp⟩
theorem Has.openr {α:Type} {E:En α} {N K:Nat} {te:TypeId} {xs:List α} (h:Has M n s0 a s L) (t:Nat) (hl:lk L t=some (Pd.erow E N K te xs)):∃og,(∀b,og=some b→K≤b)∧Has M n s0 a s ((t,Pd.row E N te og xs)::L):=by
 obtain ⟨og,hg,hp⟩:=h.get t hl;exact ⟨og,hg,h.cons t hp⟩
end
section
variable {P : Program} {ops : Array Oper} {o : Oper} {L : Lst}
theorem t_allocx {α:Type} (E:En α) {z:α} {t:TypeId} {N K m:Nat} (hk:lk L m=some (Pd.ge K)) (hN:N≤K) (hz:TyZ P t E z) (ho:o.op = .alloc t) (hg:o.guard=none):T P ops o L (Pd.ebox E N K z):=
 T.mk hg fun M n s0 a s hL=>by
  obtain ⟨i,v,cs,h1,h2,h3,h4⟩:=hz.zero;have hK:K≤s.w.heap.size:=hL.get m hk;refine ⟨.pointer (some ⟨s.w.heap.size,0,none⟩),s.pushX (.cells cs.toArray t), ?_,Ex.pushX s _,s.w.heap.size,hK,rfl,Nat.le_trans hN hK,.inr rfl,cs,t,heap_alloc_new s.w _,h4 _ _⟩;unfold execOp;rw [ho];simp [Instr.alloc,zeroValue,typeInfo,h1,h2,newVar,newRow,h3,St.pushX]
theorem t_callox {α:Type} {E:En α} {te:TypeId} {zs:List α} {f:FuncId} {xs:List Operand} {qs:List Pd} {ats:Array TypeId} {N K m:Nat} (hk:lk L m=some (Pd.ge K)) (hN:N≤K) (hf:Fn P f qs (Ro E te zs)) (hx:Opns L xs qs)
  (ho:o.op = .call { callee:=.value (.func f),args:=xs.toArray,argTypes:=ats }) (hg:o.guard=none):T P ops o L (Pd.erow E N K te zs):=fun M n s0 a s hL Q k hkk=>by
 have hK:K≤s.w.heap.size:=hL.get m hk;simp only [Region.wanted,hg,if_true];unfold Oper.wp;rw [zd2 hf a s.w ho,Oper.upon_enter];refine (hf.run s _ hL.gls (hx.vals hL)).mono fun e w' ⟨v,s',he,hw,hx,og,hq⟩=>?_;subst he;subst hw;exact hkk v s' ⟨hx,og,fun b hb=>Nat.le_trans hK (zfg hq b hb).1,zgv (Nat.le_trans hN hK) hq⟩
end
end
end Go.Proofs.YtaknifhhnhcchaaDoor.V
namespace Go.Proofs.YtaknifhhnhcchaaDoor.V
open Go
set_option linter.unusedVariables false
section
variable {u : Bool} [Dr u]
def En.cat {α β:Type} (E:En α) (F:En β):En (α × β) where
 sz:=E.sz+F.sz
 agg:=true
 R:=fun w S cs x=>∃a b,cs=a++b∧E.R w S a x.1∧F.R w S b x.2
 sc:=fun h=>by cases h
 pos:=Nat.add_pos_left E.pos _
 len:=by rintro _ _ _ _ ⟨a,b,rfl,h1,h2⟩;rw [List.length_append,E.len h1,F.len h2]
 one:=by
  rintro _ _ _ _ ⟨a,b,rfl,h1,h2⟩ u hu
  rcases List.mem_append.1 hu with h | h
  ·exact E.one h1 u h
  ·exact F.one h2 u h
 mono:=by rintro w S S' cs x h ⟨a,b,rfl,h1,h2⟩;exact ⟨a,b,rfl,E.mono h h1,F.mono h h2⟩
 move:=by rintro w w' S cs x h ⟨a,b,rfl,h1,h2⟩;exact ⟨a,b,rfl,E.move h h1,F.move h h2⟩
def En.solo {α:Type} (E:En α):En α:=⟨E.sz,true,E.R,fun h=>(by cases h),E.pos,E.len,E.one,E.mono,E.move⟩
structure Prt {α β:Type} (E:En α) (off:Nat) (E':En β) (x:α) (y:β):Prop where
 le:off+E'.sz≤E.sz
 get:∀w S cs,E.R w S cs x→E'.R w S ((cs.drop off).take E'.sz) y
section
variable {α β γ : Type} {E : En α} {E' : En β} {F : En γ} {off off' : Nat} {y : β}
theorem zk (E:En α) (x:α):Prt E 0 E x x:=⟨by simp,fun w S cs h=>by rw [List.drop_zero,List.take_of_length_le (by rw [E.len h];exact Nat.le_refl _)];exact h⟩
theorem zdk {x:α} (h:Prt E off E' x y):Prt E.solo off E' x y:=⟨h.le,h.get⟩
theorem zu {x:α × γ} (h:Prt E off E' x.1 y):Prt (E.cat F) off E' x y:=
 ⟨Nat.le_trans h.le (Nat.le_add_right _ _),fun w S cs ⟨a,b,e,h1,h2⟩=>by
  subst e;have hl:=E.len h1;have:=h.le;have e:((a++b).drop off).take E'.sz=(a.drop off).take E'.sz:=by
   rw [List.drop_append_of_le_length (by omega),List.take_append_of_le_length (by simp;omega)]
  rw [e];exact h.get w S a h1⟩
theorem zi {x:γ × α} (h:Prt E off E' x.2 y) (ho:off'=F.sz+off):Prt (F.cat E) off' E' x y:=
 ⟨by rw [ho,Nat.add_assoc];exact Nat.add_le_add_left h.le _,fun w S cs ⟨a,b,e,h1,h2⟩=>by
  subst e;rw [ho,← F.len h1,List.drop_length_add_append];exact h.get w S b h2⟩
theorem zfo {x x':α} (h:Sub E off E' x x' y):Sub E.solo off E' x x' y:=⟨h.1,h.2⟩
theorem zq {x:α × γ} {a:α} (h:Sub E off E' x.1 a y):Sub (E.cat F) off E' x (a,x.2) y:=
 ⟨Nat.le_trans h.1 (Nat.le_add_right _ _),fun w S cs cs' ⟨a',b,e,h1,h2⟩ h3=>by
  subst e;have hl:=E.len h1;have hl':=E'.len h3;have:=h.1;refine ⟨spl a' off cs',b, ?_,h.2 w S a' cs' h1 h3,h2⟩;simp only [spl];rw [List.take_append_of_le_length (by omega),List.drop_append_of_le_length (by omega)];simp⟩
theorem zj {x:γ × α} {b:α} (h:Sub E off E' x.2 b y) (ho:off'=F.sz+off):Sub (F.cat E) off' E' x (x.1,b) y:=
 ⟨by rw [ho,Nat.add_assoc];exact Nat.add_le_add_left h.1 _,fun w S cs cs' ⟨a',b',e,h1,h2⟩ h3=>by
  subst e;refine ⟨a',spl b' off cs', ?_,h1,h.2 w S b' cs' h2 h3⟩;simp only [spl];rw [ho,← F.len h1,List.take_length_add_append,Nat.add_assoc,List.drop_length_add_append];simp⟩
end
theorem zcp.sub {w:World} {b o:Nat} {cs:List Value} (h:zcp w b o cs) (off n:Nat):zcp w b (o+off) ((cs.drop off).take n):=fun j u hu=>by
 rw [Nat.add_assoc];refine h (off+j) u ?_;rw [List.getElem?_take] at hu;split at hu
 ·rwa [List.getElem?_drop] at hu
 ·cases hu
section
variable {P : Program} {ops : Array Oper} {o : Oper} {L : Lst}
theorem zej {β:Type} {E':En β} {t:TypeId} {fs:Array Field} {f:Nat} {fd:Field} (ht:P.underlying t=some (.struct fs)) (hf:fs[f]?=some fd) (hE:Ty P fd.type E') (b o:Nat) (w:World):
  (Instr.fieldAt t (.pointer (some ⟨b,o,none⟩)) f).run P w = .ok (.pointer (some ⟨b,o+fd.offset,none⟩)) w:=by
 unfold Instr.fieldAt;simp only [Sem.run_bind,run_underlying ht,Result.andThen_ok,hf,Instr.sureAddr,Sem.run_pure,fieldPlace,z6 hE];rw [if_neg (by have:=E'.pos;omega)];simp [zc3]
theorem zgc {α β:Type} {E:En α} {E':En β} {a:α} {y:β} {x:Operand} {t:TypeId} {fs:Array Field} {f off:Nat} {fd:Field} (hx:Opn L x (Pd.ptr E a)) (ht:P.underlying t=some (.struct fs)) (hf:fs[f]?=some fd) (hp:Prt E off E' a y) (hq:fd.offset=off) (hE:Ty P fd.type E')
  (ho:o.op = .fieldAddr t x f) (hg:o.guard=none):T P ops o L (Pd.ptr E' y):=
 T.pure hg fun M n s0 ac s hL=>by
  obtain ⟨b,o',cs,hv,hb,hc,hR⟩:=hx M n s0 ac s hL;refine ⟨.pointer (some ⟨b,o'+fd.offset,none⟩), ?_,b,o'+fd.offset,_,rfl,hb,hq ▸ hc.sub off E'.sz,hp.get _ _ _ hR⟩;unfold execOp;rw [ho];simp only [hv,Sem.run_bind,zej ht hf hE,Result.andThen_ok,Sem.run_pure]
theorem zca {α β:Type} {E:En α} {E':En β} {a:α} {y:β} {x:Operand} {t:TypeId} {fs:Array Field} {f off N g:Nat} {fd:Field} (hx:Opn L x (Pd.box E N g a)) (ht:P.underlying t=some (.struct fs)) (hf:fs[f]?=some fd) (hp:Prt E off E' a y) (hq:fd.offset=off) (hE:Ty P fd.type E')
  (ho:o.op = .fieldAddr t x f) (hg:o.guard=none):T P ops o L (Pd.optr E' N (some g) off y):=
 T.pure hg fun M n s0 ac s hL=>by
  obtain ⟨hv,h2,h4,cs,t',hc,hR⟩:=hx M n s0 ac s hL;have hcs:zcp s.w g (0+off) ((cs.drop off).take E'.sz):=(zco hc).sub off E'.sz;refine ⟨.pointer (some ⟨g,0+fd.offset,none⟩), ?_,g,rfl,by rw [hq,Nat.zero_add],h2,(Array.getElem?_eq_some_iff.1 hc).1,h4,_,by rw [Nat.zero_add] at hcs;exact hcs,hp.get _ _ _ hR⟩;unfold execOp;rw [ho];simp only [hv,Sem.run_bind,zej ht hf hE,Result.andThen_ok,Sem.run_pure]
inductive Bld {α:Type} (E:En α) (pl:List (Nat × Nat)) (L:Lst):List (Nat × Operand)→α→α→Prop
 | nil {x:α}:Bld E pl L [] x x
 | cons {β:Type} {E':En β} {i off:Nat} {v:Operand} {y:β} {x0 x1 x2:α} {r:List (Nat × Operand)} (hv:Opn L v (Pd.rep E' y)) (hp:pl[i]?=some (off,E'.sz)) (hs:Sub E off E' x0 x1 y) (h:Bld E pl L r x1 x2):Bld E pl L ((i,v)::r) x0 x2
theorem Bld.fill {α:Type} {E:En α} {pl:List (Nat × Nat)} {ps:List (Nat × Operand)} {x0 x2:α} (h:Bld E pl L ps x0 x2) {M:Nat→Prop} {n:Nat} {s0:St} {a:Act} {s:St} (hL:Has M n s0 a s L):
  ∀cs,E.R s.w (zc4 s) cs x0→∃cs',Instr.fill (fun i=>pl.toArray[i]?) cs.toArray (ps.map fun (i,x)=>(i,a.eval x))=some cs'.toArray∧E.R s.w (zc4 s) cs' x2:=by
 induction h with
 | nil=>intro cs hR;exact ⟨cs,rfl,hR⟩
 | cons hv hp hs _ ih=>
  intro cs hR;obtain ⟨cs1,hv1,hR1⟩:=hv M n s0 a s hL;have hl:=E.len hR;obtain ⟨cs2,h1,h2⟩:=ih (spl cs _ cs1) (hs.2 _ _ _ _ hR hR1);refine ⟨cs2, ?_,h2⟩;simp only [List.map_cons];rw [fill_step (by simpa using hp) (by rw [hv1];exact En.val_cells hR1) (En.len _ hR1) (by rw [hl];exact hs.1)];exact h1
def Stt (P:Program) (t:TypeId) (pl:List (Nat × Nat)):Prop:=∃fs,P.underlying t=some (.struct fs)∧fs.toList.mapM (fun f=>(P.info? f.type).map fun i=>(f.offset,i.size))=some pl
theorem zbn {α:Type} {E:En α} {z x:α} {t:TypeId} {pl:List (Nat × Nat)} {ps:List (Nat × Operand)} (hz:TyZ P t E z) (ha:E.agg=true) (ht:Stt P t pl) (hb:Bld E pl L ps z x) (ho:o.op = .build t ps.toArray) (hg:o.guard=none):T P ops o L (Pd.rep E x):=
 T.pure hg fun M n s0 a s hL=>by
  obtain ⟨i,v,cs,h1,h2,h3,h4⟩:=hz.zero;obtain ⟨fs,h5,h6⟩:=ht;obtain ⟨cs',h7,h8⟩:=hb.fill hL cs (h4 _ _);refine ⟨.agg cs'.toArray, ?_,cs',by unfold En.val;rw [ha];rfl,h8⟩;unfold execOp;rw [ho];have:=run_build (P:=P) s.w t (ps.toArray.map fun (i,x)=>(i,a.eval x)) cs'.toArray (by
   unfold Program.built;simp only [h1,h5,h2,h6,h3];simpa using h7)
  simp only [Sem.run_bind,this,Result.andThen_ok,Sem.run_pure]
structure EqI {α:Type} [BEq α] (P:Program) (k:Nat) (t:TypeId) (E:En α):Prop where
 eq:∀(d:Nat) (w:World) (S:Nat→Prop) (cs ds:List Value) (x y:α),k≤d→E.R w S cs x→E.R w S ds y→(Op.equalIn d t (E.val cs) (E.val ds)).run P w = .ok (x==y) w
theorem EqI.up {α:Type} [BEq α] {k k':Nat} {t:TypeId} {E:En α} (h:EqI P k t E) (hk:k≤k'):EqI P k' t E:=⟨fun d w S cs ds x y hd=>h.eq d w S cs ds x y (Nat.le_trans hk hd)⟩
theorem zdo {k:IntKind} {t:TypeId} (ht:P.underlying t=some (.int k)):EqI P 1 t (En.int k):=⟨by
 rintro d w S cs ds x y hd ⟨rfl,_⟩ ⟨rfl,_⟩;obtain ⟨d,rfl⟩:∃e,d=e+1:=⟨d-1,by omega⟩;exact run_equalIn_int w d t k k x y ht⟩
theorem zff (x:Str):(⟨x.toArray⟩:ByteArray).toList=x:=by rw [ByteArray.toList_eq]
theorem eqi_str {t:TypeId} (ht:P.underlying t=some .string):EqI P 1 t En.str:=⟨by
 rintro d w S cs ds x y hd ⟨rfl,_⟩ ⟨rfl,_⟩;obtain ⟨d,rfl⟩:∃e,d=e+1:=⟨d-1,by omega⟩;have:=run_equalIn_string w d t ⟨x.toArray⟩ ⟨y.toArray⟩ ht;rw [zff,zff] at this;exact this⟩
theorem eqi_cls {t e:TypeId} (ht:P.underlying t=some (.array 4 e)) (he:P.underlying e=some (.int .u64)) (hi:(P.info? e).map (·.size)=some 1):EqI P 2 t En.cls:=⟨by
 rintro d w S cs ds x y hd rfl rfl;obtain ⟨d,rfl⟩:∃e,d=e+2:=⟨d-2,by omega⟩;have hq:=equalIn_row (P:=P) d t e ht he hi (x.word 0) (x.word 1) (x.word 2) (x.word 3) (y.word 0) (y.word 1) (y.word 2) (y.word 3) w;have key:(((x.word 0:Int)==(y.word 0:Int))&&(((x.word 1:Int)==(y.word 1:Int))&&(((x.word 2:Int)==(y.word 2:Int))&&((x.word 3:Int)==(y.word 3:Int)))))=(x==y):=by
  rw [Bool.eq_iff_iff];simp only [Bool.and_eq_true,beq_iff_eq,Int.ofNat_inj];constructor
  ·rintro ⟨h0,h1,h2,h3⟩;apply Cl.ext_words;intro i hi
   match i,hi with
   | 0,_=>exact h0
   | 1,_=>exact h1
   | 2,_=>exact h2
   | 3,_=>exact h3
  ·rintro rfl;simp
 rw [key] at hq;exact hq⟩
def EqFs {α:Type} [BEq α] (P:Program) (k:Nat) (fs:List Field) (E:En α) (o:Nat):Prop:=∀(d:Nat) (w:World) (S:Nat→Prop) (xs ys:List Value) (x y:α),k≤d→E.R w S ((xs.drop o).take E.sz) x→E.R w S ((ys.drop o).take E.sz) y→(Op.eqFields d xs.toArray ys.toArray fs).run P w = .ok (x==y) w
theorem zen {α:Type} {E:En α} {x:α} {o:Nat} {ft:TypeId} (hE:Ty P ft E) {w:World} {S:Nat→Prop} {xs:List Value} (h:E.R w S ((xs.drop o).take E.sz) x):(part ft xs.toArray o).run P w = .ok (E.val ((xs.drop o).take E.sz)) w:=by
 have hl:=E.len h;have hpos:=E.pos;unfold part;simp only [Sem.run_bind,zfx hE,Result.andThen_ok];unfold En.val;cases ha:E.agg
 ·have h1:=E.sc ha;simp only [Bool.false_eq_true,if_false,cond_false];have hlt:o<xs.length:=by simp at hl;omega
  have e1:xs.toArray[o]?=some xs[o]:=by simp [hlt]
  rw [e1,h1];have e2:(xs.drop o).take 1=[xs[o]]:=by rw [List.drop_eq_getElem_cons hlt];rfl
  rw [e2];simp
 ·simp only [if_true,Sem.run_bind,z6 hE,Result.andThen_ok,Sem.run_pure,cond_true]
  congr 2
  apply Array.ext';simp
theorem eqfs_last {α:Type} [BEq α] {k o:Nat} {f:Field} {E:En α} (h:EqI P k f.type E) (hE:Ty P f.type E) (hn:(f.name != "_")=true) (ho:f.offset=o):EqFs P k [f] E o:=by
 intro d w S xs ys x y hd h1 h2;have hn':f.name≠"_":=by simpa using hn
 unfold Op.eqFields;simp only [if_pos hn',ho,Sem.run_bind,zen hE h1,zen hE h2,Result.andThen_ok,h.eq d w S _ _ x y hd h1 h2,Op.eqFields];cases x==y <;> simp
theorem zgj {xs:List Value} {o m n:Nat} {a b:List Value} (h:(xs.drop o).take (m+n)=a++b) (ha:a.length=m):(xs.drop o).take m=a∧(xs.drop (o+m)).take n=b:=by
 have h1:(xs.drop o).take m=a:=by
  have:=congrArg (List.take m) h;rw [List.take_take,Nat.min_eq_left (Nat.le_add_right _ _),List.take_append_of_le_length (by omega),List.take_of_length_le (l:=a) (by omega)] at this;exact this
 refine ⟨h1, ?_⟩;have:=congrArg (List.drop m) h;rw [List.drop_take,List.drop_append_of_le_length (by omega),List.drop_of_length_le (l:=a) (by omega),List.nil_append,List.drop_drop,Nat.add_sub_cancel_left] at this;exact this
theorem zcn {α β:Type} [BEq α] [BEq β] {k o:Nat} {f:Field} {fs:List Field} {E:En α} {F:En β} (h:EqI P k f.type E) (hE:Ty P f.type E) (hn:(f.name != "_")=true) (ho:f.offset=o) (hr:EqFs P k fs F (o+E.sz)):EqFs P k (f::fs) (E.cat F) o:=by
 rintro d w S xs ys x y hd ⟨a,b,e1,h1,h2⟩ ⟨a',b',e1',h1',h2'⟩;have hn':f.name≠"_":=by simpa using hn
 obtain ⟨rfl,rfl⟩:=zgj e1 (E.len h1);obtain ⟨rfl,rfl⟩:=zgj e1' (E.len h1');have hrest:=hr d w S xs ys x.2 y.2 hd h2 h2';unfold Op.eqFields;simp only [if_pos hn',ho,Sem.run_bind,zen hE h1,zen hE h1',Result.andThen_ok,h.eq d w S _ _ x.1 y.1 hd h1 h1'];have hxy:(x==y)=(x.1==y.1&&x.2==y.2):=rfl;rw [hxy];cases x.1==y.1
 ·simp
 ·simp [hrest]
theorem zgr {α:Type} [BEq α] {k:Nat} {t:TypeId} {E:En α} (ha:E.agg=true) (ht:P.underlying t=some (.struct (P.fieldsOf t))) (hp:P.stoodInHeld t=false) {fs:List Field} (hfs:(P.fieldsOf t).toList=fs) (h:EqFs P k fs E 0):EqI P (k+1) t E:=⟨by
 intro d w S cs ds x y hd h1 h2;obtain ⟨d,rfl⟩:∃e,d=e+1:=⟨d-1,by omega⟩;have e1:(cs.drop 0).take E.sz=cs:=by rw [List.drop_zero,List.take_of_length_le (by rw [E.len h1];exact Nat.le_refl _)]
 have e2:(ds.drop 0).take E.sz=ds:=by rw [List.drop_zero,List.take_of_length_le (by rw [E.len h2];exact Nat.le_refl _)]
 have:=h d w S cs ds x y (by omega) (by rw [e1];exact h1) (by rw [e2];exact h2);unfold En.val;rw [ha];simp only [cond_true];rw [run_equalIn_struct w d t _ _ ht hp,hfs];exact this⟩
theorem zgq {α:Type} [BEq α] {k:Nat} {t:TypeId} {E:En α} (h:EqI P k t E) (hk:k≤10000) (ha:E.agg=true) (hg:P.eqGuardType P.depth t=false):Eqv P t E:=by
 constructor
 ·intro w S cs ds x y a b h1 h2;have:=h.eq 10000 w S cs ds x y hk h1 h2;unfold En.val at this ⊢;rw [ha] at this ⊢;simp only [cond_true] at this ⊢;simp only [Sem.run_bind,run_eqGuard_agg w .eql t a b _ _ hg,Result.andThen_ok,run_eql_struct,this]
 ·intro w S cs ds x y a b h1 h2;have:=h.eq 10000 w S cs ds x y hk h1 h2;unfold En.val at this ⊢;rw [ha] at this ⊢;simp only [cond_true] at this ⊢;simp only [Sem.run_bind,run_eqGuard_agg w .neq t a b _ _ hg,Result.andThen_ok,run_neq_struct,this];rfl
theorem t_slen {x:Str} {y:Operand} {t:TypeId} (hy:Opn L y (Pd.rep En.str x)) (ht:P.underlying t=some .string) (ho:o.op = .call { callee:=.builtin .len,args:=#[y],argTypes:=#[t] }) (hg:o.guard=none):
  T P ops o L (Pd.rep (En.int .i64) x.length):=
 T.pure hg fun M n s0 ac s hL=>by
  obtain ⟨hv,hl⟩:=rep_str.1 (hy M n s0 ac s hL);refine ⟨.int .i64 x.length, ?_,z7.2 ⟨rfl, ?_⟩⟩
  ·unfold execOp;rw [ho];have:(⟨x.toArray⟩:ByteArray).size=x.length:=by simp [ByteArray.size]
   simp [resolve,invoke,builtin,hv,Builtin.len_,run_underlying ht,goInt,this]
  ·simp [InR,IntKind.min,IntKind.max,IntKind.signed,IntKind.bits];omega
def zhl (x:Str) (i:Int):Option Int:=(at? x i).map fun b=>(b.toNat:Int)
theorem t_sidx {x:Str} {k:IntKind} {i e:Int} {y z:Operand} {t:TypeId} (hy:Opn L y (Pd.rep En.str x)) (hz:Opn L z (Pd.rep (En.int k) i)) (he:zhl x i=some e) (ht:P.underlying t=some .string) (ho:o.op = .index t y z) (hg:o.guard=none):T P ops o L (Pd.rep (En.int .u8) e):=
 T.pure hg fun M n s0 ac s hL=>by
  obtain ⟨hv,hl⟩:=rep_str.1 (hy M n s0 ac s hL);have hi:=(z7.1 (hz M n s0 ac s hL)).1;unfold zhl at he;cases ha:at? x i with
  | none=>rw [ha] at he;cases he
  | some b=>
   rw [ha] at he;simp only [Option.map_some,Option.some.injEq] at he;subst he;obtain ⟨h0,h1⟩:=at_some ha;refine ⟨.int .u8 (b.toNat:Int), ?_,z7.2 ⟨rfl, ?_⟩⟩
   ·unfold execOp;rw [ho];have:(⟨x.toArray⟩:ByteArray)[i.toNat]?=some b:=by
     have hlt:i.toNat<x.length:=(List.getElem?_eq_some_iff.1 h1).1;have hsz:(⟨x.toArray⟩:ByteArray).size=x.length:=by simp [ByteArray.size]
     rw [getElem?_pos _ _ (by rw [hsz];exact hlt)];have h2:=(List.getElem?_eq_some_iff.1 h1).2;rw [← h2];rfl
    simp only [hv,hi,Instr.index,asIntOf,Sem.run_bind,Sem.run_pure,Result.andThen_ok,run_underlying ht,if_pos h0,this]
   ·have:=b.toNat_lt;simp [InR,IntKind.min,IntKind.max,IntKind.signed,IntKind.bits];omega
theorem els_drop {α:Type} {E:En α} {w:World} {S:Nat→Prop} {css:List (List Value)} {xs:List α} (h:Els E w S css xs) (k:Nat):Els E w S (css.drop k) (xs.drop k):=by
 refine ⟨by rw [List.length_drop,List.length_drop,h.1],fun i cs x hi hx=>?_⟩;rw [List.getElem?_drop] at hi hx;exact h.2 _ cs x hi hx
theorem flat_drop {css:List (List Value)} {n:Nat} (h:∀cs∈css,cs.length=n) (k:Nat) (hk:k≤css.length):(css.drop k).flatten=css.flatten.drop (k*n):=by
 induction css generalizing k with
 | nil=>simp
 | cons c r ih=>
  cases k with
  | zero=>simp
  | succ k=>
   rw [List.drop_succ_cons,List.flatten_cons,ih (fun x hx=>h x (by simp [hx])) k (by simpa using hk)];rw [show (k+1)*n=c.length+k*n by rw [h c (by simp),Nat.succ_mul];omega,List.drop_length_add_append]
def Pd.nilq {α:Type} (xs:List α):Pd:=⟨fun s v=>∃b:Bool,v = .bool b∧(b=true→xs=[]),fun _=>False,fun _ _ h=>h⟩
theorem t_isnil {α:Type} {E:En α} {xs:List α} {y:Operand} {t u te:TypeId} (hy:Opn L y (Pd.rep (En.slice E) xs)) (ht:P.underlying t=some (.slice te)) (ho:o.op = .binOp .eql t y (.const (.slice none 0 0)) u) (hg:o.guard=none):T P ops o L (Pd.nilq xs):=
 T.pure hg fun M n s0 ac s hL=>by
  obtain ⟨ad,cap,hv,h1,h2,h3,h4⟩:=zbp.1 (hy M n s0 ac s hL);refine ⟨.bool ad.isNone, ?_,_,rfl,fun hn=>?_⟩
  ·unfold execOp;rw [ho];have hc:ac.eval (.const (.slice none 0 0)) = .slice none 0 0:=rfl;have he:(Op.equalIn 10000 t (.slice ad xs.length cap) (.slice none 0 0)).run P s.w = .ok ad.isNone s.w:=by
    rw [show (10000:Nat)=9999+1 from rfl];unfold Op.equalIn;cases ad <;> simp [run_underlying ht]
   simp only [hv,hc,eqGuard,binOp,Sem.run_bind,Op.equal,Op.maxDepth];simp [he]
  ·cases ad with
   | none=>have:=h2 rfl;exact List.eq_nil_of_length_eq_zero (by omega)
   | some a=>cases hn
theorem Has.nilq {α:Type} {xs:List α} {M:Nat→Prop} {n:Nat} {s0:St} {a:Act} {s:St} (t:Nat) (hL:Has M n s0 a s L) (hl:lk L t=some (Pd.nilq xs)):∃b:Bool,(b=true→xs=[])∧Has M n s0 a s ((t,Pd.rep En.bool b)::L):=by
 obtain ⟨b,hv,hb⟩:=hL.get t hl;exact ⟨b,hb,hL.cons t (zbl.2 hv)⟩
end
section
variable {P : Program} {ops : Array Oper} {o : Oper} {L : Lst}
end
end
end Go.Proofs.YtaknifhhnhcchaaDoor.V
namespace Go.Proofs.YtaknifhhnhcchaaDoor.V
open Go Go.MapKept
set_option linter.unusedVariables false
section
variable {u : Bool} [Dr u]
structure KeyT {κ:Type} (P:Program) (kt:TypeId) (K:En κ) (kv:κ→Value):Prop where
 val:∀{w S cs x},K.R w S cs x→K.val cs=kv x
 inj:∀{x y},kv x=kv y→x=y
 check:∀(w:World) (em:Bool) (x:κ),(Instr.checkKey em 10000 kt (kv x)).run P w = .ok () w
 find:∀(w:World) (x:κ) (es:List MapEntry),(∀e∈es,∃y,e.key=kv y) →
  ((Instr.findKey kt (kv x) es).run P w = .ok none w∧∀e∈es,e.key≠kv x)∨∃j e,(Instr.findKey kt (kv x) es).run P w = .ok (some (j,e.val)) w∧es[j]?=some e∧e.key=kv x
 stays:∀(w:World) (x:κ),(Instr.keyThatStays (kv x) (kv x)).run P w = .ok (kv x) w
theorem key_plain {κ:Type} {P:Program} {kt:TypeId} {K:En κ} {kv:κ→Value} {d:TypeDesc} (hd:P.underlying kt=some d) (hk:∀x,IsKey d (kv x)) (hv:∀{w S cs x},K.R w S cs x→K.val cs=kv x) (hi:∀{x y},kv x=kv y→x=y):KeyT P kt K kv where
 val:=hv
 inj:=hi
 check:=fun w em x=>run_checkKey hd (hk x) em 9999
 find:=fun w x es hes=>by
  have hks:∀y∈es,IsKey d y.key:=fun y hy=>by
   obtain ⟨z,hz⟩:=hes y hy;rw [hz];exact hk z
  rcases findNow_spec (hk x) es 0 hks with ⟨h1,h2⟩ | ⟨j,e0,h1,h2,h3⟩
  ·exact .inl ⟨run_findKey hd h1,h2⟩
  ·exact .inr ⟨j,e0,by simpa using run_findKey hd h1,h2,h3⟩
 stays:=fun w x=>run_keyThatStays (hk x)
abbrev kvStr:Str→Value:=fun x=>.string ⟨x.toArray⟩
theorem zdy {P:Program} {kt:TypeId} (hd:P.underlying kt=some .string):KeyT P kt En.str kvStr:=
 key_plain hd (fun x=>trivial) (fun ⟨h,_⟩=>by subst h;rfl) (fun {x y} h=>by simpa using h)
def zfz {κ ν:Type} [DecidableEq κ] (xs:List (κ × ν)) (k:κ) (z:ν):ν:=match xs.find? (fun p=>p.1==k) with | some p=>p.2 | none=>z
def mhas {κ ν:Type} [DecidableEq κ] (xs:List (κ × ν)) (k:κ):Bool:=xs.any (fun p=>p.1==k)
def zeu {κ ν:Type} [DecidableEq κ] (xs:List (κ × ν)) (k:κ) (v:ν):List (κ × ν):=bif mhas xs k then xs.map (fun p=>bif p.1==k then (k,v) else p) else xs++[(k,v)]
structure MpR {κ ν:Type} (K:En κ) (kv:κ→Value) (E:En ν) (w:World) (S:Nat→Prop) (es:Array MapEntry) (clock:Nat) (xs:List (κ × ν)):Prop where
 st:Stamped es clock
 len:es.toList.length=xs.length
 ent:∀(i:Nat) (e:MapEntry) (p:κ × ν),es.toList[i]?=some e→xs[i]?=some p→e.key=kv p.1∧(∃cs,K.R w S cs p.1)∧∃cs,e.val=E.val cs∧E.R w S cs p.2
section
variable {κ ν : Type} {K : En κ} {kv : κ → Value} {E : En ν}
theorem MpR.go {T:Nat→Prop} {s s':St} {es clock} {xs:List (κ × ν)} (h:Mv T s s') (hM:MpR K kv E s.w (zc4 s) es clock xs):MpR K kv E s'.w (zc4 s') es clock xs:=
 ⟨hM.st,hM.len,fun i e p a b=>let ⟨h1,⟨cs,h2⟩,cs',h3,h4⟩:=hM.ent i e p a b;⟨h1,⟨cs,K.go h h2⟩,cs',h3,E.go h h4⟩⟩
def Pd.map (K:En κ) (kv:κ→Value) (E:En ν) (N:Nat) (og:Option Nat) (xs:List (κ × ν)):Pd:=
 ⟨fun s v=>∃g,og=some g∧v = .map (some g)∧N≤g∧s.X g∧∃es clock ys,s.w.heap[g]?=some (.map es clock)∧MpR K kv E s.w (zc4 s) es clock ys∧ys.Perm xs,fun b=>og=some b,
  fun {T s s' v} h hb ⟨g,ho,hv,hN,hx,es,clock,ys,hg,hM,hp⟩=>⟨g,ho,hv,hN,(hb g ho).2 hx,es,clock,ys,by
   rw [h.blk g (Array.getElem?_eq_some_iff.1 hg).1 (hb g ho).1];exact hg,hM.go h,hp⟩⟩
theorem MpR.keys {w S es clock} {xs:List (κ × ν)} (hM:MpR K kv E w S es clock xs):∀e∈es.toList,∃y,e.key=kv y:=fun e he=>by
 obtain ⟨i,hi⟩:=List.getElem?_of_mem he;have hlt:i<xs.length:=by rw [← hM.len];exact (List.getElem?_eq_some_iff.1 hi).1
 exact ⟨_,(hM.ent i e _ hi (List.getElem?_eq_getElem hlt)).1⟩
theorem MpR.nodup {P:Program} {kt:TypeId} (hK:KeyT P kt K kv) {w S es clock} {xs:List (κ × ν)} (hM:MpR K kv E w S es clock xs):∀(i j:Nat) (p q:κ × ν),xs[i]?=some p→xs[j]?=some q→p.1=q.1→i=j:=by
 intro i j p q hi hj h;have hli:i<es.toList.length:=by rw [hM.len];exact (List.getElem?_eq_some_iff.1 hi).1
 have hlj:j<es.toList.length:=by rw [hM.len];exact (List.getElem?_eq_some_iff.1 hj).1
 have h1:=(hM.ent i _ p (List.getElem?_eq_getElem hli) hi).1;have h2:=(hM.ent j _ q (List.getElem?_eq_getElem hlj) hj).1;have hn:(es.toList.map (·.key)).Nodup:=hM.st.2.2;have e1:(es.toList.map (·.key))[i]?=some (kv p.1):=by simp only [List.getElem?_map,List.getElem?_eq_getElem hli,Option.map_some,h1]
 have e2:(es.toList.map (·.key))[j]?=some (kv q.1):=by simp only [List.getElem?_map,List.getElem?_eq_getElem hlj,Option.map_some,h2]
 rw [h] at e1;exact (List.getElem?_inj (by simpa using hli) hn).1 (e1.trans e2.symm)
theorem zf0 {N:Nat} {og:Option Nat} {xs:List (κ × ν)} {s:St} {v:Value} (h:(Pd.map K kv E N og xs).p s v):∀b,og=some b→N≤b∧b<s.w.heap.size:=fun b hb=>by
 obtain ⟨g,hog,_,hN,hX,_⟩:=h;rw [hog] at hb;cases hb;exact ⟨hN,s.lt _ hX⟩
theorem map_uniq {N:Nat} {og:Option Nat} {xs ys:List (κ × ν)} {s:St} {u v:Value} (h:(Pd.map K kv E N og xs).p s u) (k:(Pd.map K kv E N og ys).p s v):u=v:=by
 obtain ⟨g,hog,hv,_⟩:=h;obtain ⟨g',hog',hv',_⟩:=k;rw [hog] at hog';cases hog';rw [hv,hv']
section
variable {P : Program} {ops : Array Oper} {o : Oper} {L : Lst} {Q : Exit → Act → World → Prop} {rest : List Oper} {M : Nat → Prop} {n : Nat} {s0 : St} {a : Act} {s : St} {t : TypeId}
theorem st_mkmap (d:Nat) (K:En κ) (kv:κ→Value) (E:En ν) (hL:Has M n s0 a s L) (ho:o.op = .makeMap t none) (hg:o.guard=none) (hd:o.dst=some d) (hn:Nat.blt d n=true)
  (k:∀a' s' g,s.w.heap.size≤g→Has M n s0 a' s' ((d,Pd.map K kv E s0.w.heap.size (some g) [])::L)→wpList P ops Q rest a' s'.w):wpList P ops Q (o::rest) a s.w:=by
 have hr:(execOp a.eval o).run P s.w = .ok (.value (.map (some s.w.heap.size))) (s.pushX (.map #[] 0)).w:=by
  unfold execOp;rw [ho];simp [Instr.makeMap,St.pushX]
 refine wpList_plain hg fun K hK=>?_;unfold Oper.wp;rw [hr];refine hK _ _ ?_;simp only [hd];exact k _ _ s.w.heap.size (Nat.le_refl _) (hL.put (Ex.pushX s _) hn ⟨_,rfl,rfl,hL.ent.mv.size,.inr rfl,#[],0,[],heap_alloc_new s.w _,⟨by simp [Stamped],rfl,fun i e p h=>by simp at h⟩,.refl _⟩)
end
structure TyV {α:Type} (P:Program) (t:TypeId) (E:En α) (z:α):Prop where
 zero:∃i cs,P.info? t=some i∧i.zero=some (E.val cs)∧∀w S,E.R w S cs z
def KN (xs:List (κ × ν)):Prop:=(xs.map (·.1)).Nodup
theorem KN.perm {xs ys:List (κ × ν)} (h:KN xs) (hp:xs.Perm ys):KN ys:=(hp.map _).nodup_iff.1 h
theorem KN.idx {xs:List (κ × ν)} (h:KN xs):∀(i j:Nat) (p q:κ × ν),xs[i]?=some p→xs[j]?=some q→p.1=q.1→i=j:=fun i j p q hi hj e=>by
 have hli:=(List.getElem?_eq_some_iff.1 hi).1;have e1:(xs.map (·.1))[i]?=some p.1:=by rw [List.getElem?_map,hi];rfl
 have e2:(xs.map (·.1))[j]?=some q.1:=by rw [List.getElem?_map,hj];rfl
 rw [e] at e1;exact (List.getElem?_inj (by simpa using hli) h).1 (e1.trans e2.symm)
theorem MpR.kn {P:Program} {kt:TypeId} (hK:KeyT P kt K kv) {w S es clock} {xs:List (κ × ν)} (hM:MpR K kv E w S es clock xs):KN xs:=by
 unfold KN List.Nodup;rw [List.pairwise_iff_getElem];intro i j hi hj hij e;simp only [List.length_map] at hi hj;simp only [List.getElem_map] at e;have:=hM.nodup hK i j _ _ (List.getElem?_eq_getElem hi) (List.getElem?_eq_getElem hj) e;omega
end
section
variable {κ ν : Type} [DecidableEq κ] {K : En κ} {kv : κ → Value} {E : En ν}
theorem find_at {xs:List (κ × ν)} {k:κ} {j:Nat} {p:κ × ν} (hn:∀(i j:Nat) (p q:κ × ν),xs[i]?=some p→xs[j]?=some q→p.1=q.1→i=j) (hj:xs[j]?=some p) (hk:p.1=k):xs.find? (fun p=>p.1==k)=some p:=by
 cases h:xs.find? (fun p=>p.1==k) with
 | none=>
  have:=List.find?_eq_none.1 h p (List.mem_of_getElem? hj);simp [hk] at this
 | some q=>
  have h1:=List.find?_some h;have h2:=List.mem_of_find?_eq_some h;obtain ⟨i,hi⟩:=List.getElem?_of_mem h2;have:=hn i j q p hi hj (by rw [hk];simpa using h1);subst this;rw [hi] at hj;exact hj
theorem zew {xs:List (κ × ν)} {k:κ} {z:ν} (h:∀p∈xs,p.1≠k):zfz xs k z=z:=by
 unfold zfz;rw [List.find?_eq_none.2 (fun p hp=>by simpa using h p hp)]
theorem zci {xs:List (κ × ν)} {k:κ}:mhas xs k=true↔∃p∈xs,p.1=k:=by simp [mhas]
theorem zhc {xs:List (κ × ν)} (h:KN xs) {p:κ × ν} (hp:p∈xs) (z:ν):zfz xs p.1 z=p.2:=by
 obtain ⟨j,hj⟩:=List.getElem?_of_mem hp;unfold zfz;rw [find_at h.idx hj rfl]
theorem mget_perm {xs ys:List (κ × ν)} (h:KN ys) (hp:ys.Perm xs) (k:κ) (z:ν):zfz ys k z=zfz xs k z:=by
 by_cases hk:∃p∈ys,p.1=k
 ·obtain ⟨p,hm,rfl⟩:=hk;rw [zhc h hm,zhc (h.perm hp) (hp.mem_iff.1 hm)]
 ·rw [zew fun p hm e=>hk ⟨p,hm,e⟩,zew fun p hm e=>hk ⟨p,hp.mem_iff.2 hm,e⟩]
theorem zev {xs ys:List (κ × ν)} (hp:ys.Perm xs) (k:κ):mhas ys k=mhas xs k:=by
 rw [Bool.eq_iff_iff,zci,zci];exact ⟨fun ⟨p,hm,e⟩=>⟨p,hp.mem_iff.1 hm,e⟩,fun ⟨p,hm,e⟩=>⟨p,hp.mem_iff.2 hm,e⟩⟩
theorem mput_perm {xs ys:List (κ × ν)} (hp:ys.Perm xs) (k:κ) (v:ν):(zeu ys k v).Perm (zeu xs k v):=by
 unfold zeu;rw [zev hp];cases mhas xs k
 ·exact hp.append_right _
 ·exact hp.map _
section
variable {P : Program} {ops : Array Oper} {o : Oper} {L L' : Lst} {Q : Exit → Act → World → Prop} {rest : List Oper} {M : Nat → Prop} {n : Nat} {s0 : St} {a : Act} {s : St} {t kt et : TypeId}
theorem MpR.look {w:World} {S:Nat→Prop} {es:Array MapEntry} {clock:Nat} {xs:List (κ × ν)} (hM:MpR K kv E w S es clock xs) (hK:KeyT P kt K kv) (k:κ):
  (Sem.run P (Instr.findKey kt (kv k) es.toList) w = .ok none w∧mhas xs k=false)∨∃(j:Nat) (e:MapEntry) (v:ν) (cs:List Value),Sem.run P (Instr.findKey kt (kv k) es.toList) w = .ok (some (j,e.val)) w∧mhas xs k=true∧(∀z,zfz xs k z=v)∧e.val=E.val cs∧E.R w S cs v:=by
 rcases hK.find w k es.toList hM.keys with ⟨h1,h2⟩ | ⟨j,e,h1,h2,h3⟩
 ·refine .inl ⟨h1, ?_⟩;rw [← Bool.not_eq_true,zci];rintro ⟨p,hp,e⟩;obtain ⟨i,hi⟩:=List.getElem?_of_mem hp;have hlt:i<es.toList.length:=by rw [hM.len];exact (List.getElem?_eq_some_iff.1 hi).1
  exact h2 _ (List.getElem_mem hlt) (by rw [(hM.ent i _ p (List.getElem?_eq_getElem hlt) hi).1,e])
 ·have hlt:j<xs.length:=by rw [← hM.len];exact (List.getElem?_eq_some_iff.1 h2).1
  have hj:=List.getElem?_eq_getElem hlt;obtain ⟨hk1,_,cs',hv',hR'⟩:=hM.ent j e _ h2 hj;have hk2:xs[j].1=k:=hK.inj (hk1.symm.trans h3);refine .inr ⟨j,e,xs[j].2,cs',h1,zci.2 ⟨_,List.getElem_mem hlt,hk2⟩,fun z=>?_,hv',hR'⟩;unfold zfz;rw [find_at (hM.nodup hK) hj hk2]
theorem mget_no {xs:List (κ × ν)} {k:κ} {z:ν} (h:mhas xs k=false):zfz xs k z=z:=zew fun p hp e=>by
 have:=zci.2 ⟨p,hp,e⟩;rw [h] at this;cases this
theorem t_mget {N:Nat} {og:Option Nat} {xs:List (κ × ν)} {k:κ} {z:ν} {x y:Operand} (hx:Opn L x (Pd.map K kv E N og xs)) (hy:Opn L y (Pd.rep K k)) (ht:P.underlying t=some (.map kt et)) (hK:KeyT P kt K kv) (hz:TyV P et E z)
  (ho:o.op = .lookup t x y false) (hg:o.guard=none):T P ops o L (Pd.rep E (zfz xs k z)):=
 T.pure hg fun M n s0 a s hL=>by
  obtain ⟨g,_,hv,_,_,es,clock,ys,hgb,hM,hp⟩:=hx M n s0 a s hL;obtain ⟨cs,hkv,hkR⟩:=hy M n s0 a s hL;rw [hK.val hkR] at hkv;obtain ⟨i,zc,hz1,hz2,hz3⟩:=hz.zero;have hzr:(zeroValue et).run P s.w = .ok (E.val zc) s.w:=by simp [zeroValue,typeInfo,hz1,hz2]
  rcases hM.look hK k with ⟨h1,h2⟩ | ⟨j,e,v,cs',h1,h2,h3,h4,h5⟩
  ·refine ⟨E.val zc, ?_,zc,rfl, ?_⟩
   ·unfold execOp;rw [ho];simp only [hv,hkv];simp [Instr.lookup,run_underlying ht,Go.MapKept.run_getObj_map hgb,hK.check,h1,hzr,Result.andThen]
   ·rw [zev hp] at h2;rw [mget_no h2];exact hz3 _ _
  ·refine ⟨e.val, ?_,cs',h4, ?_⟩
   ·unfold execOp;rw [ho];simp only [hv,hkv];simp [Instr.lookup,run_underlying ht,Go.MapKept.run_getObj_map hgb,hK.check,h1,Result.andThen]
   ·rw [← mget_perm (hM.kn hK) hp,h3];exact h5
theorem run_mput {N:Nat} {og:Option Nat} {xs:List (κ × ν)} {k:κ} {v1:ν} {s:St} {v kvl vvl:Value} (hx:(Pd.map K kv E N og xs).p s v) (hy:(Pd.rep K k).p s kvl) (hz:(Pd.rep E v1).p s vvl) (ht:P.underlying t=some (.map kt et)) (hK:KeyT P kt K kv):
  ∃s',(Instr.mapUpdate t v kvl vvl).run P s.w = .ok () s'.w∧Ef (fun b=>og=some b) s s'∧(∀b,s.X b→s'.X b)∧(Pd.map K kv E N og (zeu xs k v1)).p s' v:=by
 obtain ⟨g,hog,hv,hN,hX,es,clock,ys,hgb,hM,hpm⟩:=hx;obtain ⟨cs,hkv,hkR⟩:=hy;rw [hK.val hkR] at hkv;obtain ⟨cs1,hvv,hvR⟩:=hz;subst hv hkv;have hlt:=(Array.getElem?_eq_some_iff.1 hgb).1
 suffices hsuf:∃s',(Instr.mapUpdate t (.map (some g)) (kv k) vvl).run P s.w = .ok () s'.w∧Ef (fun b=>og=some b) s s'∧(∀b,s.X b→s'.X b)∧∃es' clock',s'.w.heap[g]?=some (.map es' clock')∧MpR K kv E s'.w (zc4 s') es' clock' (zeu ys k v1) by
  obtain ⟨s',h1,h2,h3,es',clock',h4,h5⟩:=hsuf;exact ⟨s',h1,h2,h3,g,hog,rfl,hN,h3 g hX,es',clock',_,h4,h5,mput_perm hpm k v1⟩
 clear hpm;generalize ys=xs at *;have step:∀es' clock',∃s':St,s'.w = { s.w with heap:=s.w.heap.setIfInBounds g (.map es' clock') }∧Ef (fun b=>og=some b) s s'∧(∀b,s.X b→s'.X b)∧s'.w.heap[g]?=some (.map es' clock')∧s'.X=s.X:=fun es' clock'=>by
  refine ⟨⟨{ s.w with heap:=s.w.heap.setIfInBounds g (.map es' clock') },s.X,fun b hb=>by simpa using s.lt b hb⟩,rfl,⟨⟨DR.eq rfl,rfl,rfl,rfl,by simp,fun b hb hnb=>?_,fun b hb=>?_,fun b hb=>.inl hb⟩,fun b hb _=>hb⟩,fun b hb=>hb,(heap_set hgb).1,rfl⟩
  ·exact (heap_set hgb).2 b (fun e=>hnb (by rw [hog,e]))
  ·rw [hog] at hb;cases hb;exact hX
 rcases hK.find s.w k es.toList hM.keys with ⟨h1,h2⟩ | ⟨j,e,h1,h2,h3⟩
 ·have hno:mhas xs k=false:=by
   rw [← Bool.not_eq_true,zci];rintro ⟨p,hp,e⟩;obtain ⟨i,hi⟩:=List.getElem?_of_mem hp;have hlt:i<es.toList.length:=by rw [hM.len];exact (List.getElem?_eq_some_iff.1 hi).1
   exact h2 _ (List.getElem_mem hlt) (by rw [(hM.ent i _ p (List.getElem?_eq_getElem hlt) hi).1,e])
  obtain ⟨s',hw,hE,hXX,hgb',hXe⟩:=step (es.push ⟨kv k,vvl,clock⟩) (clock+1);refine ⟨s', ?_,hE,hXX,_,_,hgb', ?_⟩
  ·rw [hw];simp [Instr.mapUpdate,run_underlying ht,Go.MapKept.run_getObj_map hgb,hK.check,h1,Go.MapKept.run_setObj_map _ hgb,Result.andThen]
  ·have hM':=hM.go hE.mv;refine ⟨stamped_push hM.st (fun x hx=>h2 x hx), ?_,fun i e p he hp=>?_⟩
   ·have:=hM.len;simp only [zeu,hno,cond_false,Array.toList_push,List.length_append,List.length_cons,List.length_nil];omega
   ·simp only [zeu,hno,cond_false,Array.toList_push] at he hp
    by_cases hi:i<xs.length
    ·rw [List.getElem?_append_left hi] at hp;rw [List.getElem?_append_left (by rw [hM.len];exact hi)] at he;exact hM'.ent i e p he hp
    ·have hie:i=xs.length:=by
      have:=(List.getElem?_eq_some_iff.1 hp).1;simp at this;omega
     subst hie;rw [List.getElem?_append_right (Nat.le_refl _)] at hp;rw [List.getElem?_append_right (by rw [hM.len];exact Nat.le_refl _),hM.len] at he;simp at he hp;subst he;subst hp;exact ⟨rfl,⟨cs,K.go hE.mv hkR⟩,cs1,hvv,E.go hE.mv hvR⟩
 ·have hltj:j<xs.length:=by rw [← hM.len];exact (List.getElem?_eq_some_iff.1 h2).1
  have hjx:=List.getElem?_eq_getElem hltj;have hk2:xs[j].1=k:=hK.inj ((hM.ent j e _ h2 hjx).1.symm.trans h3);have hyes:mhas xs k=true:=zci.2 ⟨_,List.getElem_mem hltj,hk2⟩;have hj:es[j]?=some e:=by simpa using h2
  have hlist:(es.modify j (fun e'=>{ e' with key:=kv k,val:=vvl })).toList=es.toList.set j { e with key:=kv k,val:=vvl }:=by rw [Array.toList_modify,Go.ChangeMaps.modify_eq_set _ _ _ _ h2]
  have hkeyf:∀e',es[j]?=some e'→({ e' with key:=kv k,val:=vvl }:MapEntry).key=e'.key:=fun e' he'=>by rw [hj] at he';cases he';exact h3.symm
  obtain ⟨s',hw,hE,hXX,hgb',hXe⟩:=step (es.modify j (fun e'=>{ e' with key:=kv k,val:=vvl })) clock;refine ⟨s', ?_,hE,hXX,_,_,hgb', ?_⟩
  ·rw [hw];simp [Instr.mapUpdate,run_underlying ht,Go.MapKept.run_getObj_map hgb,hK.check,h1,hj,h3,hK.stays,Go.MapKept.run_setObj_map _ hgb,Result.andThen]
  ·have hM':=hM.go hE.mv;refine ⟨stamped_modify hM.st _ _ (fun _ _=>rfl) (fun e' _ he'=>hkeyf e' he'), ?_,fun i e1 p he hp=>?_⟩
   ·rw [hlist];simp only [zeu,hyes,cond_true,List.length_map,List.length_set];exact hM.len
   ·rw [hlist] at he;simp only [zeu,hyes,cond_true,List.getElem?_map] at hp;obtain ⟨p0,hp0,rfl⟩:=Option.map_eq_some_iff.1 hp
    by_cases hij:j=i
    ·subst hij;rw [hjx] at hp0;cases hp0;have hjl:j<es.toList.length:=by rw [hM.len];exact hltj
     rw [List.getElem?_set_self hjl] at he;cases he;simp only [hk2,beq_self_eq_true,cond_true];exact ⟨trivial,⟨cs,K.go hE.mv hkR⟩,cs1,hvv,E.go hE.mv hvR⟩
    ·rw [List.getElem?_set_ne hij] at he;have hne:(p0.1==k)=false:=by
      rw [← Bool.not_eq_true];intro hh;exact hij (hM.nodup hK j i _ p0 hjx hp0 (by rw [hk2];exact (by simpa using hh:p0.1=k).symm))
     rw [hne];exact hM'.ent i e1 p0 he hp0
theorem st_mputC {og:Option Nat} {xs:List (κ × ν)} {k:κ} {v1:ν} {x y z:Operand} (hL:Has M n s0 a s L) (hx:Opn L x (Pd.map K kv E s0.w.heap.size og xs)) (hy:Opn L y (Pd.rep K k)) (hz:Opn L z (Pd.rep E v1))
  (ht:P.underlying t=some (.map kt et)) (hK:KeyT P kt K kv) (ho:o.op = .mapUpdate t x y z∨o.op = .insert t x y z) (hg:o.guard=none) (hd:o.dst=none)
  (hk:Kw (fun b=>og=some b) L (Pd.map K kv E s0.w.heap.size og xs) (Pd.map K kv E s0.w.heap.size og (zeu xs k v1)) L')
  (kk:∀s',Has M n s0 a s' L'→wpList P ops Q rest a s'.w):wpList P ops Q (o::rest) a s.w:=by
 have hxv:=hx M n s0 a s hL;obtain ⟨s',hr,hE,hXX,hp⟩:=run_mput (P:=P) hxv (hy M n s0 a s hL) (hz M n s0 a s hL) ht hK;refine wpList_plain hg fun K' hK'=>?_;unfold Oper.wp execOp;have h2:wpList P ops Q rest a s'.w:=kk s' (hL.turn hE (.inl fun b hb=>(zf0 hxv b hb).1) hXX hk fun v hv=>by rw [map_uniq hv hxv];exact hp);rcases ho with ho | ho
 all_goals
  simp only [ho,Sem.run_bind,hr,Result.andThen_ok,Sem.run_pure];refine hK' _ _ ?_;simp only [hd];exact h2
end
end
end
end Go.Proofs.YtaknifhhnhcchaaDoor.V
namespace Go.Proofs.YtaknifhhnhcchaaDoor.V
open Go
set_option linter.unusedVariables false
section
variable {u : Bool} [Dr u]
theorem Ef.exg {M T:Nat→Prop} {s0 s s':St} (h:Fr M s0 s) (e:Ef T s s') (hT:∀b,T b→M b∨s0.w.heap.size≤b) (hk:∀b,M b→s.X b→s'.X b):Fr M s0 s':=
 ⟨⟨h.mv.dr.trans e.mv.dr,e.mv.os.trans h.mv.os,e.mv.tape.trans h.mv.tape,e.mv.output.trans h.mv.output,Nat.le_trans h.mv.size e.mv.size,
  fun b hb hn=>(e.mv.blk b (Nat.lt_of_lt_of_le hb h.mv.size) (fun ht=>(hT b ht).elim hn (fun hs=>by omega))).trans (h.mv.blk b hb hn),h.mv.tx,
  fun b hb=>(e.mv.xx b hb).elim (fun j=>h.mv.xx b j) (fun j=>.inr (Nat.le_trans h.mv.size j))⟩,
  fun b hb=>by
  by_cases ht:T b
  ·rcases hT b ht with hm | hs
   ·exact hk b hm (h.keep b hb)
   ·have:=s0.lt b hb;omega
  ·exact e.keep b (h.keep b hb) ht⟩
theorem Has.efg {M:Nat→Prop} {n:Nat} {s0:St} {a:Act} {s s':St} {L L':Lst} {T:Nat→Prop} (h:Has M n s0 a s L) (e:Ef T s s') (hT:∀b,T b→M b∨s0.w.heap.size≤b) (hX:∀b,M b→s.X b→s'.X b) (hk:Kp T L L'):Has M n s0 a s' L' where
 size:=h.size
 defers:=h.defers
 ent:=e.exg h.ent hT hX
 gl:=h.gl
 at_:=hk.p h.at_ fun q v h2=>q.mv e.mv fun b hb=>⟨h2 b hb,fun hx=>e.keep b hx (h2 b hb)⟩
section
variable {P : Program} {ops : Array Oper} {o : Oper} {L L' : Lst} {Q : Exit → Act → World → Prop} {rest : List Oper} {M : Nat → Prop} {n : Nat} {s0 : St} {a : Act} {s : St} {te : TypeId} {c : Nat} {og : Option Nat}
end
end
end Go.Proofs.YtaknifhhnhcchaaDoor.V
namespace Go.Proofs.YtaknifhhnhcchaaDoor.V
open Go
set_option linter.unusedVariables false
section
variable {u : Bool} [Dr u]
structure Xk (K:Nat) (s s':St):Prop where
 mv:Mv (fun b=>K≤b∧s.X b) s s'
 keep:∀b,b<K→s.X b→s'.X b
theorem Xk.of {s s':St} (h:Ex s s') (K:Nat):Xk K s s':=
 ⟨⟨h.mv.dr,h.mv.os,h.mv.tape,h.mv.output,h.mv.size,fun b hb _=>h.mv.blk b hb (fun h=>h),fun b hb=>hb.2,h.mv.xx⟩,fun b _ hb=>h.keep b hb⟩
theorem Xk.trans {K:Nat} {a b c:St} (h:Xk K a b) (k:Xk K b c):Xk K a c:=
 ⟨⟨h.mv.dr.trans k.mv.dr,k.mv.os.trans h.mv.os,k.mv.tape.trans h.mv.tape,k.mv.output.trans h.mv.output,Nat.le_trans h.mv.size k.mv.size,
  fun x hx hn=>(k.mv.blk x (Nat.lt_of_lt_of_le hx h.mv.size) (fun ht=>(h.mv.xx x ht.2).elim (fun hX=>hn ⟨ht.1,hX⟩) (fun hs=>by omega))).trans (h.mv.blk x hx hn),fun x hx=>hx.2,
  fun x hx=>(k.mv.xx x hx).elim (fun j=>h.mv.xx x j) (fun j=>.inr (Nat.le_trans h.mv.size j))⟩,fun x hx hX=>k.keep x hx (h.keep x hx hX)⟩
theorem Xk.pd {K:Nat} {s s':St} {q:Pd} {v:Value} (h:Xk K s s') (hq:∀b,q.own b→¬ K≤b) (hp:q.p s v):q.p s' v:=
 q.mv h.mv (fun b hb=>⟨fun ht=>hq b hb ht.1,fun hX=>h.keep b (Nat.lt_of_not_le (hq b hb)) hX⟩) hp
theorem Has.xk {K:Nat} {M:Nat→Prop} {n:Nat} {s0:St} {a:Act} {s s':St} {L L':Lst} (h:Has M n s0 a s L) (e:Xk K s s') (hK:s0.w.heap.size≤K) (hk:Kp (fun b=>K≤b) L L'):Has M n s0 a s' L' where
 size:=h.size
 defers:=h.defers
 ent:=⟨⟨h.ent.mv.dr.trans e.mv.dr,e.mv.os.trans h.ent.mv.os,e.mv.tape.trans h.ent.mv.tape,e.mv.output.trans h.ent.mv.output,Nat.le_trans h.ent.mv.size e.mv.size,
  fun b hb hn=>(e.mv.blk b (Nat.lt_of_lt_of_le hb h.ent.mv.size) (fun ht=>by have:=ht.1;omega)).trans (h.ent.mv.blk b hb hn),h.ent.mv.tx,
  fun b hb=>(e.mv.xx b hb).elim (fun j=>h.ent.mv.xx b j) (fun j=>.inr (Nat.le_trans h.ent.mv.size j))⟩,fun b hb=>e.keep b (Nat.lt_of_lt_of_le (s0.lt b hb) hK) (h.ent.keep b hb)⟩
 gl:=h.gl
 at_:=hk.p h.at_ fun q v h2=>e.pd h2
def TX (P:Program) (ops:Array Oper) (o:Oper) (K:Nat) (L:Lst) (q:Pd):Prop:=
 ∀M n s0 a s,s0.w.heap.size≤K→Has M n s0 a s L→OpR P ops o a s (fun v s'=>Xk K s s'∧q.p s' v)
theorem T.x {P:Program} {ops:Array Oper} {o:Oper} {L:Lst} {q:Pd} (h:T P ops o L q) (K:Nat):TX P ops o K L q:=
 fun M n s0 a s _ hL Q k hk=>h M n s0 a s hL Q k fun v s' ⟨e,hq⟩=>hk v s' ⟨Xk.of e K,hq⟩
def nxt:List Nat→Nat→Option Nat
 | x::y::r,j=>bif Nat.beq x j then some y else nxt (y::r) j
 | _,_=>none
def pwCh (ops:Array Oper):List Nat→Bool
 | []=>true
 | x::r=>r.all (fun y=>zg9 ops ops.size y x)&&pwCh ops r
def okCh (ops:Array Oper) (m:Nat) (ch:List Nat):Bool:=
 pwCh ops ch&&(List.range m).all fun i=>match ops[i]? with
  | none=>true
  | some o=>o.after.toList.all fun e=>!Region.binds .any e||match nxt ch e.on with | none=>true | some y=>Nat.beq y i
theorem okCh_pw {ops:Array Oper} {m:Nat} {ch:List Nat} (h:okCh ops m ch=true):pwCh ops ch=true:=by
 unfold okCh at h;rw [Bool.and_eq_true] at h;exact h.1
theorem okCh_dep {ops:Array Oper} {m:Nat} {ch:List Nat} (h:okCh ops m ch=true) {i:Nat} {o:Oper} (hi:i<m) (ho:ops[i]?=some o) (e:Edge) (he:e∈o.after.toList) (hb:Region.binds .any e=true) {y:Nat} (hy:nxt ch e.on=some y):y=i:=by
 unfold okCh at h;rw [Bool.and_eq_true,List.all_eq_true] at h;have h1:=h.2 i (by simpa using hi);rw [ho] at h1;have h2:=List.all_eq_true.1 h1 e he;simp only [hb,hy,Bool.not_true,Bool.false_or] at h2;exact Nat.eq_of_beq_eq_true h2
theorem nx_done {ops:Array Oper} {p:Nat→Prop}:∀(ch:List Nat),pwCh ops ch=true→∀c,c∈ch→(∀x,zg9 ops ops.size c x=true→p x)→(∀j x,p j→zg9 ops ops.size j x=true→p x)→¬ p c→∀j,j∈ch→p j→∃y,nxt ch j=some y∧(y=c∨p y)
 | [],_,c,hc,_,_,_,_,_,_=>by cases hc
 | x::r,h,c,hc,h1,h2,hnc,j,hj,hpj=>by
  unfold pwCh at h;rw [Bool.and_eq_true,List.all_eq_true] at h;rcases List.mem_cons.1 hc with rfl | hc
  ·rcases List.mem_cons.1 hj with rfl | hj
   ·exact absurd hpj hnc
   ·exact absurd (h2 j c hpj (h.1 j hj)) hnc
  ·match r,hc,h,hj with
   | y::r',hc,h,hj=>
    by_cases hjx:x=j
    ·subst hjx;refine ⟨y,by simp [nxt], ?_⟩;rcases List.mem_cons.1 hc with rfl | hc'
     ·exact .inl rfl
     ·right;have h3:=h.2;unfold pwCh at h3;rw [Bool.and_eq_true,List.all_eq_true] at h3;exact h1 y (h3.1 c hc')
    ·have hj':j∈y::r':=(List.mem_cons.1 hj).elim (fun e=>absurd e.symm hjx) id;obtain ⟨z,hz,hzc⟩:=nx_done (y::r') h.2 c hc h1 h2 hnc j hj' hpj;refine ⟨z, ?_,hzc⟩;unfold nxt;rw [ze2 hjx];exact hz
def maskF (ch:List Nat):Nat→List Pd→List Pd
 | _,[]=>[]
 | i,q::qs=>(bif (nxt ch i).isSome then Pd.any else q)::maskF ch (i+1) qs
def mask (ch:List Nat) (qs:List Pd):List Pd:=maskF ch 0 qs
theorem maskF_get {ch:List Nat}:∀(k:Nat) (qs:List Pd) (i:Nat),(maskF ch k qs)[i]?=(qs[i]?).map fun q=>bif (nxt ch (k+i)).isSome then Pd.any else q
 | _,[],i=>by simp [maskF]
 | k,q::qs,i=>by
  cases i with
  | zero=>simp [maskF]
  | succ i=>simp only [maskF,List.getElem?_cons_succ];rw [maskF_get (k+1) qs i,show k+1+i=k+(i+1) by omega]
theorem mask_at {ch:List Nat} {qs:List Pd} {i:Nat} {q:Pd} {s:St} {v:Value} (hq:(mask ch qs)[i]?=some q) (h:nxt ch i=none→qs[i]?=some q→q.p s v):q.p s v:=by
 unfold mask at hq;rw [maskF_get,Nat.zero_add] at hq;obtain ⟨q0,h0,rfl⟩:=Option.map_eq_some_iff.1 hq;cases hn:nxt ch i with
 | none=>
  rw [hn] at h;exact h rfl h0
 | some y=>trivial
theorem rc_key {P:Program} {ops:Array Oper} {Q:Exit→Act→World→Prop} {M:Nat→Prop} {n:Nat} {s0:St} {s:St} {L:Lst} (m:Nat) (qs:List Pd) (F:List Nat) (K:Nat) (ch:List Nat) (hK:s0.w.heap.size≤K) (hLow:Kp (fun b=>K≤b) L L) (hch:okCh ops m ch=true)
  (hok:zc1 ops m n (L.map (·.1)) F=true) (hq:qs.length=m) (hm:m≤ops.size)
  (hT:∀i o q,i<m→ops[i]?=some o→qs[i]?=some q→F.contains i=false→TX P ops o K (zfs ops qs o.after.toList L) q∧(ch.contains i=false→T P ops o (zfs ops qs o.after.toList L) q))
  (hS:∀i q,i<m→qs[i]?=some q→ch.contains i=false→∀b,q.own b→¬ K≤b)
  (hB:∀a' s',Xk K s s'→Has M n s0 a' s' (zgn ops (mask ch qs) m L)→wpOps P ops Q (List.range' m (ops.size-m)) a' s'.w):
  ∀(f:Nat) (listed:Array Bool) (a:Act) (s':St),listed.size=ops.size→((List.range ops.size).filter (fun i=>!listed.getD i true)).length=f→Xk K s s'→Has M n s0 a s' L →
   (∀i o,listed.getD i false=true→ops[i]?=some o→∀e∈o.after.toList,Region.binds .any e=true→listed.getD e.on false=true)→(∀i,i<ops.size→m≤i→listed.getD i true=false) →
   (∀i,i<m→listed.getD i true=true→(∀y,nxt ch i=some y→listed.getD y true=false)→∀d q,(ops[i]?).bind (·.dst)=some d→qs[i]?=some q→q.p s' (a.eval (.tmp d)))→(∀i∈F,listed.getD i true=true)→wpAny P .any ops Q f listed a s'.w:=by
 have hok':=hok;unfold zc1 at hok';rw [Bool.and_eq_true] at hok';obtain ⟨hF,hok'⟩:=hok';rw [List.all_eq_true] at hok';intro f
 induction f with
 | zero=>
  intro listed a s' hs hc e hL' hcl hn hd hl0;have hall:∀i,i<ops.size→listed.getD i true=true:=by
   intro i hi;have:(List.range ops.size).filter (fun i=>!listed.getD i true)=[]:=List.length_eq_zero_iff.1 hc;rw [List.filter_eq_nil_iff] at this;have:=this i (by simpa using hi);simpa using this
  have hmm:m=ops.size:=by
   rcases Nat.lt_or_ge m ops.size with h | h
   ·have:=hn m h (Nat.le_refl _);rw [hall m h] at this;cases this
   ·omega
  refine zd1 hok 0 ops.size listed a s'.w (by omega) (by omega) hs (fun i hi=>by rw [hall i hi];simp [hi]) ?_;have:=hB a s' e (zet hL' m fun i hi d q hdd hqq=>mask_at hqq (fun hn hqq=>hd i hi (hall i (by omega)) (fun y hy=>by rw [hn] at hy;cases hy) d q hdd hqq));rw [hmm] at this;simpa using this
 | succ f ih=>
  intro listed a s' hs hc e hL' hcl hn hd hl0
  by_cases hdone:∀i,i<m→listed.getD i true=true
  ·-- the tail
   have hf:f+1=ops.size-m:=by
    rw [← hc];have h1:(List.range ops.size).filter (fun i=>!listed.getD i true)=List.range' m (ops.size-m):=by
     have e1:List.range ops.size=List.range' 0 m++List.range' m (ops.size-m):=by
      rw [List.range_eq_range',show ops.size=m+(ops.size-m) by omega,← List.range'_append_1];simp
     rw [e1,List.filter_append];have e2:(List.range' 0 m).filter (fun i=>!listed.getD i true)=[]:=by
      rw [List.filter_eq_nil_iff];intro i hi;simp at hi;simp [hdone i hi]
     have e3:(List.range' m (ops.size-m)).filter (fun i=>!listed.getD i true)=List.range' m (ops.size-m):=by
      rw [List.filter_eq_self];intro i hi;simp at hi;simp [hn i (by omega) (by omega)]
     rw [e2,e3,List.nil_append]
    rw [h1];simp
   refine zd1 hok (f+1) m listed a s'.w (by omega) (Nat.le_refl _) hs (fun i hi=>?_) ?_
   ·by_cases h:i<m
    ·simp [h,hdone i h]
    ·simp [h,hn i hi (by omega)]
   ·rw [hf];exact hB a s' e (zet hL' m fun i hi d q hdd hqq=>mask_at hqq (fun hn hqq=>hd i hi (hdone i hi) (fun y hy=>by rw [hn] at hy;cases hy) d q hdd hqq))
  ·have hex:∃i,i<m∧listed.getD i true=false:=by
    have h1:=Classical.not_forall.1 hdone;obtain ⟨i,hi⟩:=h1;rw [Classical.not_imp] at hi;exact ⟨i,hi.1,by simpa using hi.2⟩
   have hlow:∀i,i∈Region.ready .any ops listed→i<m:=by
    intro i hi;obtain ⟨h1,h2,o,ho,h3⟩:=zcj.1 hi;rcases Nat.lt_or_ge i m with h | h
    ·exact h
    ·exfalso;obtain ⟨k,hk,hkl⟩:=hex;have h5:=hok' i (by simpa using h1);simp only [ho,Bool.and_eq_true] at h5;have h6:=h5.2;rw [if_neg (by omega),List.all_eq_true] at h6;have h7:=h6 k (by simp;omega);have hkF:F.contains k=false:=by
      cases hc':F.contains k
      ·rfl
      ·have:=hl0 k (by simpa using hc');rw [this] at hkl;cases hkl
     rw [hkF,Bool.false_or] at h7;have h8:=zcw (ops:=ops) (p:=fun j=>listed.getD j false=true) hcl _ i k h7 (fun o' ho'=>by rw [ho] at ho';cases ho';exact h3);have h10:listed.getD k false=listed.getD k true:=by simp [Array.getD,hs,show k<ops.size by omega]
     rw [h10,hkl] at h8;cases h8
   refine ⟨fun hnil=>?_,fun i hi=>?_⟩
   ·-- the least that isn't done is ready
    exfalso;obtain ⟨k,hk,hmin⟩:=exists_least (p:=fun i=>i<m∧listed.getD i true=false) hex;obtain ⟨o,ho⟩:∃o,ops[k]?=some o:=⟨ops[k]'(by omega),by simp⟩;have:k∈Region.ready .any ops listed:=by
     refine zcj.2 ⟨by omega,hk.2,o,ho,fun e he hb=>?_⟩;have h5:=hok' k (by simp;omega);simp only [ho,Bool.and_eq_true] at h5;have h1:=List.all_eq_true.1 h5.1 e he;simp only [hb,Bool.not_true,Bool.false_or] at h1;have h2:e.on<k:=Nat.le_of_ble_eq_true h1;have h4:listed.getD e.on false=listed.getD e.on true:=by simp [Array.getD,hs,show e.on<ops.size by omega]
     rw [h4]
     by_cases h6:listed.getD e.on true=true
     ·exact h6
     ·have:=hmin e.on ⟨by omega,by simpa using h6⟩;omega
    rw [hnil] at this;simp at this
   ·have him:=hlow i hi;obtain ⟨h1,h2,o,ho,h3⟩:=zcj.1 hi;obtain ⟨q,hqi⟩:∃q,qs[i]?=some q:=⟨qs[i]'(by omega),by simp⟩;have h5:=hok' i (by simpa using h1);have hiF:F.contains i=false:=by
     cases hc':F.contains i
     ·rfl
     ·have:=hl0 i (by simpa using hc');rw [this] at h2;cases h2
    simp only [ho,Bool.and_eq_true,if_pos him,hiF,Bool.false_or] at h5;obtain ⟨d,hdst⟩:∃d,o.dst=some d:=by
     cases hd':o.dst with
     | none=>rw [hd'] at h5;simp at h5
     | some d=>exact ⟨d,rfl⟩
    have h6:=h5.2;rw [hdst] at h6;simp only [Bool.and_eq_true] at h6;have hdep:Has M n s0 a s' (zfs ops qs o.after.toList L):=by
     refine zhi hL' _ fun e' he' hb d' q' hd' hq'=>?_;have h7:=h3 e' he' hb;have h8:=List.all_eq_true.1 h5.1 e' he';simp only [hb,Bool.not_true,Bool.false_or] at h8;have h9:e'.on<i:=Nat.le_of_ble_eq_true h8;have h10:listed.getD e'.on false=listed.getD e'.on true:=by simp [Array.getD,hs,show e'.on<ops.size by omega]
     refine hd e'.on (by omega) (h10 ▸ h7) (fun y hy=>?_) d' q' hd' hq';rw [okCh_dep hch him ho e' he' hb hy];exact h2
    have hrdy:∀x,zg9 ops ops.size i x=true→listed.getD x false=true:=fun x hx=>
     zcw (ops:=ops) (p:=fun j=>listed.getD j false=true) hcl _ i x hx (fun o' ho'=>by rw [ho] at ho';cases ho';exact h3)
    have hrcl:∀j x,listed.getD j false=true→zg9 ops ops.size j x=true→listed.getD x false=true:=fun j x hj hx=>
     zcw (ops:=ops) (p:=fun j=>listed.getD j false=true) hcl _ j x hx (fun o' ho' e he hb=>hcl j o' hj ho' e he hb)
    have h2f:listed.getD i false=false:=by rw [show listed.getD i false=listed.getD i true by simp [Array.getD,hs,h1]];exact h2
    have cont:∀(v:Value) (s'':St),Xk K s' s''→q.p s'' v→(∀j,j<m→listed.getD j true=true→(∀y,nxt ch j=some y→(listed.setIfInBounds i true).getD y true=false)→∀d' q',(ops[j]?).bind (·.dst)=some d'→qs[j]?=some q'→q'.p s'' (a.eval (.tmp d'))) →
      wpAny P .any ops Q f (listed.setIfInBounds i true) (a.put o.dst v) s''.w:=by
     intro v s'' e' hq' hkeep;have hfresh:lk L d=none:=lk_none h6.1.2;refine ih _ _ s'' (by simpa using hs) ?_ (e.trans e') ?_ ?_ ?_ ?_ ?_
     ·-- one fewer
      have hnd:((List.range ops.size).filter (fun j=>!listed.getD j true)).Nodup:=List.Nodup.sublist List.filter_sublist List.nodup_range;have hmem:i∈(List.range ops.size).filter (fun j=>!listed.getD j true):=List.mem_filter.2 ⟨by simpa using h1,by rw [h2];rfl⟩;have e1:(List.range ops.size).filter (fun j=>!(listed.setIfInBounds i true).getD j true)=((List.range ops.size).filter (fun j=>!listed.getD j true)).filter (fun j=>j != i):=by
       rw [List.filter_filter];refine List.filter_congr fun j hj=>?_;rw [zb3 (by omega)]
       by_cases hji:j=i <;> simp [hji]
      rw [e1,← List.Nodup.erase_eq_filter hnd,List.length_erase_of_mem hmem,hc];rfl
     ·have hp:=(hL'.xk e' hK hLow).put' (d:=d) h6.1.1 hq';rw [hdst];refine hp.sub fun t q'' hl=>hp.at_ t q'' ?_;unfold lk;have:d≠t:=fun he=>by rw [he] at hfresh;rw [hfresh] at hl;cases hl
      rw [ze2 this];exact hl
     ·intro j o' hj ho' e2 he2 hb2;rw [zb3 (by omega)] at hj ⊢;split
      ·rfl
      ·by_cases hji:j=i
       ·subst hji;rw [ho] at ho';cases ho';exact h3 e2 he2 hb2
       ·rw [if_neg hji] at hj;exact hcl j o' hj ho' e2 he2 hb2
     ·intro j hj hmj;rw [zb3 (by omega),if_neg (by omega)];exact hn j hj hmj
     ·intro j hj hlj hny d' q'' hd' hq'';rw [hdst]
      by_cases hji:j=i
      ·subst hji;rw [ho,Option.bind_some,hdst] at hd';cases hd';rw [hqi] at hq'';cases hq'';rw [zdn hL'.size h6.1.1];exact hq'
      ·rw [zb3 (by omega),if_neg hji] at hlj;have h7:=List.all_eq_true.1 h6.2 j (by simpa using hj);have h8:Nat.beq j i=false:=ze2 hji;rw [h8,Bool.false_or,hd'] at h7;have:d≠d':=fun he=>by simp [he] at h7
       rw [zel this];exact hkeep j hj hlj hny d' q'' hd' hq''
     ·intro j hj;rw [zb3 (by omega)];split
      ·rfl
      ·exact hl0 j hj
    have hwk:∀y,(listed.setIfInBounds i true).getD y true=false→listed.getD y true=false:=fun y hy=>by
     rw [zb3 (by omega)] at hy
     by_cases hyi:y=i
     ·simp [hyi] at hy
     ·rw [if_neg hyi] at hy;exact hy
    obtain ⟨hTX,hTT⟩:=hT i o q him ho hqi hiF;have hrun:(if Region.wanted o (yielded ops a.tmps) then o.wp P a s'.w (wpAny P .any ops Q f (listed.setIfInBounds i true)) Q else wpAny P .any ops Q f (listed.setIfInBounds i true) (a.put o.dst undef) s'.w):=by
     cases hic:ch.contains i
     ·exact hTT hic M n s0 a s' hdep Q _ fun v s'' ⟨e',hq'⟩=>cont v s'' (Xk.of e' K) hq' fun j hj hlj hny d' q' hd' hq''=>Pd.ex e' (hd j hj hlj (fun y hy=>hwk y (hny y hy)) d' q' hd' hq'')
     ·exact hTX M n s0 a s' hK hdep Q _ fun v s'' ⟨e',hq'⟩=>cont v s'' e' hq' fun j hj hlj hny d' q' hd' hq''=>by
       cases hjc:ch.contains j
       ·exact e'.pd (hS j q' hj hq'' hjc) (hd j hj hlj (fun y hy=>hwk y (hny y hy)) d' q' hd' hq'')
       ·have hlj':listed.getD j false=true:=by rw [show listed.getD j false=listed.getD j true by simp [Array.getD,hs,show j<ops.size by omega]];exact hlj
        obtain ⟨y,hy,hyi⟩:=nx_done (p:=fun x=>listed.getD x false=true) (ops:=ops) ch (okCh_pw hch) i (by simpa using hic) hrdy hrcl (by rw [h2f];decide) j (by simpa using hjc) hlj';have:=hny y hy;rw [zb3 (by omega)] at this;rcases hyi with rfl | hyl
        ·simp at this
        ·by_cases hyi:y=i
         ·simp [hyi] at this
         ·rw [if_neg hyi] at this;have hys:y<ops.size:=by
           rcases Nat.lt_or_ge y listed.size with h | h
           ·omega
           ·simp [Array.getD,Nat.not_lt.2 h] at hyl
          rw [show listed.getD y true=listed.getD y false by simp [Array.getD,hs,hys]] at this;rw [hyl] at this;cases this
    unfold wpOp;simp only [ho]
    by_cases hw:Region.wanted o (yielded ops a.tmps)=true
    ·rw [if_pos hw] at hrun ⊢;exact .inl hrun
    ·rw [if_neg hw] at hrun ⊢;exact hrun
theorem rc_end {P:Program} {ops:Array Oper} {Q:Exit→Act→World→Prop} {M:Nat→Prop} {n:Nat} {s0:St} {a:Act} {s:St} {L:Lst} {f:Nat} {listed:Array Bool} (m:Nat) (qs:List Pd) (F:List Nat) (K:Nat) (ch:List Nat) (hK:s0.w.heap.size≤K) (hLow:Kp (fun b=>K≤b) L L) (hch:okCh ops m ch=true) (hL:Has M n s0 a s L)
  (hok:zc1 ops m n (L.map (·.1)) F=true) (hst:okStart ops listed m F=true) (hc:((List.range ops.size).filter (fun i=>!listed.getD i true)).length=f) (hfl:FlOk ops qs L F) (hq:qs.length=m) (hm:m≤ops.size)
  (hT:∀i o q,i<m→ops[i]?=some o→qs[i]?=some q→F.contains i=false→TX P ops o K (zfs ops qs o.after.toList L) q∧(ch.contains i=false→T P ops o (zfs ops qs o.after.toList L) q))
  (hS:∀i q,i<m→qs[i]?=some q→ch.contains i=false→∀b,q.own b→¬ K≤b)
  (hB:∀a' s',Xk K s s'→Has M n s0 a' s' (zgn ops (mask ch qs) m L)→wpOps P ops Q (List.range' m (ops.size-m)) a' s'.w):wpAny P .any ops Q f listed a s.w:=by
 unfold okStart at hst;rw [Bool.and_eq_true,List.all_eq_true] at hst;obtain ⟨h1,h2⟩:=hst;have hsz:=Nat.eq_of_beq_eq_true h1;have hg:∀i,i<ops.size→listed.getD i true=F.contains i:=fun i hi=>by
  have:=h2 i (by simpa using hi);rw [Bool.and_eq_true] at this;exact eq_of_beq this.1
 have hgf:∀i,i<ops.size→listed.getD i false=listed.getD i true:=fun i hi=>by simp [Array.getD,hsz,hi]
 have hFm:∀i∈F,i<m:=by
  unfold zc1 at hok;rw [Bool.and_eq_true,List.all_eq_true] at hok;exact fun i hi=>Nat.le_of_ble_eq_true (hok.1 i hi)
 refine rc_key m qs F K ch hK hLow hch hok hq hm hT hS hB f listed a s hsz hc (Xk.of (Ex.refl s) K) hL ?_ ?_ ?_ ?_
 ·intro i o hi ho e he hb;have hlt:i<ops.size:=(Array.getElem?_eq_some_iff.1 ho).1;rw [hgf i hlt,hg i hlt] at hi;have:=h2 i (by simpa using hlt);rw [Bool.and_eq_true,hi,ho] at this;have h3:=this.2;simp only [Bool.not_true,Bool.false_or,Bool.and_eq_true,List.all_eq_true] at h3;have h4:=h3.2 e he;simp only [hb,Bool.not_true,Bool.false_or,Bool.and_eq_true] at h4;have h5:e.on<ops.size:=Nat.le_of_ble_eq_true h4.2;rw [hgf _ h5,hg _ h5];exact h4.1
 ·intro i hi hmi;rw [hg i hi];cases hcF:F.contains i
  ·rfl
  ·have:=hFm i (by simpa using hcF);omega
 ·intro i hi hl _ d q hd hqi;rw [hg i (by omega)] at hl;obtain ⟨o,d',q',ho,hd',hq',hlk⟩:=hfl.at i (by simpa using hl);rw [ho,Option.bind_some,hd'] at hd;rw [hq'] at hqi;cases hd;cases hqi;exact hL.get _ hlk
 ·intro i hi;have:=hFm i hi;rw [hg i (by omega)];simpa using hi
def zeg (P:Program) (ops:Array Oper) (qs0:List Pd) (L:Lst) (F:List Nat) (K:Nat) (ch:List Nat):Nat→List Oper→List Pd→Prop
 | _,_,[]=>True
 | _,[],_::_=>False
 | i,o::l,q::qs=>(F.contains i=false→TX P ops o K (zfs ops qs0 o.after.toList L) q∧(ch.contains i=false→T P ops o (zfs ops qs0 o.after.toList L) q))∧(ch.contains i=false→∀b,q.own b→¬ K≤b)∧zeg P ops qs0 L F K ch (i+1) l qs
theorem zeg.at {P:Program} {ops:Array Oper} {qs0:List Pd} {L:Lst} {F:List Nat} {K:Nat} {ch:List Nat}:∀(k:Nat) (l:List Oper) (qs:List Pd),zeg P ops qs0 L F K ch k l qs→∀(i:Nat) (o:Oper) (q:Pd),l[i]?=some o→qs[i]?=some q →
  (F.contains (k+i)=false→TX P ops o K (zfs ops qs0 o.after.toList L) q∧(ch.contains (k+i)=false→T P ops o (zfs ops qs0 o.after.toList L) q))∧(ch.contains (k+i)=false→∀b,q.own b→¬ K≤b)
 | _,_,[],_,i,o,q,_,hq=>by simp at hq
 | _,[],_::_,h,_,_,_,_,_=>h.elim
 | k,o'::l,q'::qs,h,i,o,q,ho,hq=>by
  cases i with
  | zero=>simp only [List.getElem?_cons_zero,Option.some.injEq] at ho hq;subst ho;subst hq;exact ⟨h.1,h.2.1⟩
  | succ i=>
   simp only [List.getElem?_cons_succ] at ho hq;have:=zeg.at (k+1) l qs h.2.2 i o q ho hq
   rwa [show k+1+i=k+(i+1) by omega] at this
section
variable {P : Program} {ops : Array Oper} {qs0 : List Pd} {L : Lst} {F : List Nat} {K : Nat} {ch : List Nat} {i : Nat} {o : Oper} {l : List Oper} {q : Pd} {qs : List Pd}
theorem zeg.t (h:T P ops o (zfs ops qs0 o.after.toList L) q) (hs:∀b,q.own b→¬ K≤b) (h2:zeg P ops qs0 L F K ch (i+1) l qs):zeg P ops qs0 L F K ch i (o::l) (q::qs):=⟨fun _=>⟨h.x K,fun _=>h⟩,fun _=>hs,h2⟩
theorem zeg.c (h:T P ops o (zfs ops qs0 o.after.toList L) q) (hc:ch.contains i=true) (h2:zeg P ops qs0 L F K ch (i+1) l qs):zeg P ops qs0 L F K ch i (o::l) (q::qs):=⟨fun _=>⟨h.x K,fun _=>h⟩,fun h'=>(by rw [hc] at h';cases h'),h2⟩
theorem zeg.skip (h:F.contains i=true) (hs:∀b,q.own b→¬ K≤b) (h2:zeg P ops qs0 L F K ch (i+1) l qs):zeg P ops qs0 L F K ch i (o::l) (q::qs):=⟨fun h'=>(by rw [h] at h';cases h'),fun _=>hs,h2⟩
theorem zeg.nil:zeg P ops qs0 L F K ch i l []:=by cases l <;> trivial
end
theorem rc_go {P:Program} {l:List Oper} {Q:Exit→Act→World→Prop} {M:Nat→Prop} {n:Nat} {s0:St} {a:Act} {s:St} {L:Lst} {f:Nat} {listed:Array Bool} (m:Nat) (qs:List Pd) (F:List Nat) (K:Nat) (ch:List Nat) (hK:s0.w.heap.size≤K) (hL:Has M n s0 a s L) (hLow:Kp (fun b=>K≤b) L L) (hch:okCh l.toArray m ch=true)
  (hok:zc1 l.toArray m n (L.map (·.1)) F=true) (hst:okStart l.toArray listed m F=true) (hc:((List.range l.toArray.size).filter (fun i=>!listed.getD i true)).length=f) (hfl:FlOk l.toArray qs L F) (hq:Nat.beq qs.length m=true) (hm:Nat.ble m l.length=true)
  (hT:zeg P l.toArray qs L F K ch 0 l qs)
  (hB:∀a' s',Xk K s s'→Has M n s0 a' s' (zgn l.toArray (mask ch qs) m L)→wpList P l.toArray Q (l.drop m) a' s'.w):wpAny P .any l.toArray Q f listed a s.w:=by
 refine rc_end m qs F K ch hK hLow hch hL hok hst hc hfl (Nat.eq_of_beq_eq_true hq) (by simpa using Nat.le_of_ble_eq_true hm) (fun i o q _ ho hq hF=>?_) (fun i q hi hq=>?_) fun a' s' e h=>?_
 ·have:=(zeg.at 0 l qs hT i o q (by simpa using ho) hq).1;rw [Nat.zero_add] at this;exact this hF
 ·have hil:i<l.length:=by have:=Nat.le_of_ble_eq_true hm;omega
  have:=(zeg.at 0 l qs hT i (l[i]) q (List.getElem?_eq_getElem hil) hq).2;rw [Nat.zero_add] at this;exact this
 ·have:=hB a' s' e h;rw [← wpOps_eq_wpList (l.drop m) m (fun j=>by simp)] at this;simpa using this
end
end Go.Proofs.YtaknifhhnhcchaaDoor.V
namespace Go.Proofs.YtaknifhhnhcchaaDoor.V
open Go Go.MapKept
set_option linter.unusedVariables false
section
variable {u : Bool} [Dr u]
section
variable {κ ν : Type} {K : En κ} {kv : κ → Value} {E : En ν}
theorem MpR.same {w w':World} {S S':Nat→Prop} {es clock} {xs:List (κ × ν)} (hS:∀b,S b→S' b) (h:Same S w w') (hM:MpR K kv E w S es clock xs):MpR K kv E w' S' es clock xs:=
 ⟨hM.st,hM.len,fun i e p a b=>let ⟨h1,⟨cs,h2⟩,cs',h3,h4⟩:=hM.ent i e p a b;⟨h1,⟨cs,K.mono hS (K.move h h2)⟩,cs',h3,E.mono hS (E.move h h4)⟩⟩
def FmV (K:En κ) (kv:κ→Value) (E:En ν) (w:World) (S:Nat→Prop) (v:Value) (xs:List (κ × ν)):Prop:=
 (v = .map none∧xs=[])∨∃g es clock ys,v = .map (some g)∧S g∧w.heap[g]?=some (.map es clock)∧MpR K kv E w S es clock ys∧ys.Perm xs
theorem FmV.one {w S v} {xs:List (κ × ν)} (h:FmV K kv E w S v xs):v.oneCell'=true:=by rcases h with ⟨rfl,_⟩ | ⟨_,_,_,_,rfl,_⟩ <;> rfl
def En.fmap (K:En κ) (kv:κ→Value) (E:En ν):En (List (κ × ν)) where
 sz:=1
 agg:=false
 R:=fun w S cs xs=>∃v,cs=[v]∧FmV K kv E w S v xs
 sc:=fun _=>rfl
 pos:=Nat.one_pos
 len:=by rintro _ _ _ _ ⟨v,rfl,_⟩;rfl
 one:=by rintro _ _ _ _ ⟨v,rfl,h⟩ u hu;simp at hu;subst hu;exact h.one
 mono:=by
  rintro w S S' cs xs h ⟨v,rfl,h1⟩
  refine ⟨v,rfl,h1.imp id ?_⟩
  rintro ⟨g,es,clock,ys,e,hg,hb,hM,hp⟩
  exact ⟨g,es,clock,ys,e,h g hg,hb,hM.same h (fun _ _=>rfl),hp⟩
 move:=by
  rintro w w' S cs xs h ⟨v,rfl,h1⟩
  refine ⟨v,rfl,h1.imp id ?_⟩
  rintro ⟨g,es,clock,ys,e,hg,hb,hM,hp⟩
  exact ⟨g,es,clock,ys,e,hg,(h g hg).trans hb,hM.same (fun _ h=>h) h,hp⟩
theorem rep_fmap {xs:List (κ × ν)} {s:St} {v:Value}:(Pd.rep (En.fmap K kv E) xs).p s v↔FmV K kv E s.w (zc4 s) v xs:=
 ⟨fun ⟨_,hv,u,hc,h⟩=>by subst hc;subst hv;exact h,fun h=>⟨[v],rfl,v,rfl,h⟩⟩
theorem Has.freezem {og:Option Nat} {xs:List (κ × ν)} {M:Nat→Prop} {n:Nat} {s0:St} {a:Act} {s:St} {L L':Lst} (h:Has M n s0 a s L) (t:Nat) (hl:lk L t=some (Pd.map K kv E s0.w.heap.size og xs))
  (hk:Kp (fun b=>og=some b) L L'):∃s',s'.w=s.w∧Has M n s0 a s' ((t,Pd.rep (En.fmap K kv E) xs)::L'):=by
 have ho:=h.get t hl;have hlt:=zf0 ho;obtain ⟨g,hog,hv,hN,hX,es,clock,ys,hb,hM,hp⟩:=ho;refine ⟨⟨s.w,fun b=>s.X b∧og≠some b,fun b hb=>s.lt b hb.1⟩,rfl, ?_⟩;have e:Ef (fun b=>og=some b) s ⟨s.w,fun b=>s.X b∧og≠some b,fun b hb=>s.lt b hb.1⟩:=
  ⟨⟨DR.eq rfl,rfl,rfl,rfl,Nat.le_refl _,fun _ _ _=>rfl,fun b hb=>by rw [hog] at hb;cases hb;exact hX,fun b hb=>.inl hb.1⟩,fun b hb hn=>⟨hb,hn⟩⟩
 refine (h.ef e (fun b hb=>(hlt b hb).1) hk).cons t (rep_fmap.2 (.inr ⟨g,es,clock,ys,hv,⟨s.lt _ hX,fun hx=>hx.2 hog⟩,hb,hM.go e.mv,hp⟩))
end
section
variable {κ ν : Type} [DecidableEq κ] {K : En κ} {kv : κ → Value} {E : En ν} {P : Program} {ops : Array Oper} {o : Oper} {L : Lst} {t kt et : TypeId}
end
end
end Go.Proofs.YtaknifhhnhcchaaDoor.V
namespace Go.Proofs.YtaknifhhnhcchaaDoor.V
open Go Go.MapKept
set_option linter.unusedVariables false
section
variable {u : Bool} [Dr u]
theorem y_from {P:Program} {o:Oper} {L:Lst} {α:Type} {E:En α} {xs:List α} {k:IntKind} {i:Int} {y z:Operand} {t te:TypeId} (hy:Opn L y (Pd.rep (En.slice E) xs)) (hz:Opn L z (Pd.rep (En.int k) i)) (hi:0≤i∧i≤(xs.length:Int)) (ht:P.underlying t=some (.slice te)) (hE:Ty P te E)
  (ho:o.op = .slice t y (some z) none none) (hg:o.guard=none):TY P o L (Pd.rep (En.slice E) (xs.drop i.toNat)):=
 ⟨hg,fun M n s0 ac s hL=>by
  obtain ⟨ad,cap,hv,h1,h2,h3,h4⟩:=zbp.1 (hy M n s0 ac s hL);have hiv:=(z7.1 (hz M n s0 ac s hL)).1;refine ⟨.slice (if cap=i.toNat then ad else ad.map (·.add (i.toNat*E.sz))) (xs.length-i.toNat) (cap-i.toNat),fun w=>?_,zbp.2 ⟨_,_,by rw [List.length_drop],by rw [List.length_drop];omega,fun hn=>?_,by rw [List.length_drop];omega,fun hne=>?_⟩⟩
  ·unfold execOp;rw [ho];simp only [hv,hiv,Option.map_some,Option.map_none,Instr.sliceAt,Sem.run_bind,run_underlying ht,Result.andThen_ok,Instr.slice,Instr.sliceBounds,Instr.sliceBound,asIntOf,Sem.run_pure];rw [if_pos (by omega)];simp [z6 hE]
  ·split at hn
   ·omega
   ·cases ad with
    | none=>have:=h2 rfl;omega
    | some a=>cases hn
  ·have hlt:i.toNat<xs.length:=by
    rcases Nat.lt_or_ge i.toNat xs.length with h | h
    ·exact h
    ·exact absurd (List.drop_of_length_le h) hne
   obtain ⟨b,off,css,e1,hb,hEl,hc⟩:=h4 (by intro h;rw [h] at hlt;simp at hlt);refine ⟨b,off+i.toNat*E.sz,css.drop i.toNat, ?_,hb,els_drop hEl _, ?_⟩
   ·rw [if_neg (by omega),e1];simp [zc3]
   ·intro j u hu;rw [flat_drop hEl.lens _ (by rw [hEl.1];omega),List.getElem?_drop] at hu;rw [Nat.add_assoc];exact hc _ u hu⟩
end
section
variable {u : Bool} [Dr u]
theorem t_gidxb {P:Program} {ops:Array Oper} {o:Oper} {L:Lst} {g:Nat} {xs:List Bool} {b:Bool} {k:IntKind} {i:Int} {y:Operand} {t te:TypeId} {n:Nat} (hm:(g,xs.map Value.bool)∈gtab) (hn:xs.length=n) (hy:Opn L y (Pd.rep (En.int k) i)) (he:at? xs i=some b)
  (ht:P.underlying t=some (.array n te)) (hi:(P.info? te).map (·.size)=some 1) (ho:o.op = .indexAddr t (.global g) y) (hg:o.guard=none):T P ops o L (Pd.ptr En.bool b):=
 T.pure hg fun M n0 s0 ac s hL=>by
  have hi':=(z7.1 (hy M n0 s0 ac s hL)).1;obtain ⟨hX,tt,fr,hb⟩:=hL.gls.1 _ hm;simp only at hX hb;unfold at? at he;split at he
  case isFalse=>cases he
  rename_i h0
  have hlt:i.toNat<xs.length:=(List.getElem?_eq_some_iff.1 he).1;obtain ⟨inf,h1,h2⟩:∃i,P.info? te=some i∧i.size=1:=by
   cases h:P.info? te with
   | none=>rw [h] at hi;cases hi
   | some i=>rw [h] at hi;exact ⟨i,rfl,by simpa using hi⟩
  have hsz:∀w:World,(sizeOf te).run P w = .ok 1 w:=fun w=>by simp [sizeOf,typeInfo,h1,h2]
  refine ⟨.pointer (some ⟨g,i.toNat,none⟩), ?_,g,i.toNat,[.bool b],rfl,⟨(Array.getElem?_eq_some_iff.1 hb).1,hX⟩, ?_,rfl⟩
  ·unfold execOp;rw [ho];have hgv:ac.eval (.global g) = .pointer (some ⟨g,0,none⟩):=rfl;simp only [hgv,hi',Instr.indexAt,asIntOf,Sem.run_bind,Sem.run_pure,Result.andThen_ok,run_underlying ht,Instr.sureAddr];rw [if_pos (by omega)];simp [hsz,zc3]
  ·intro j u hj;cases j with
   | zero=>
    simp at hj;subst hj;rw [Nat.add_zero,cell_of_row s.w g _ _ tt fr hb];simp [List.getElem?_map,he]
   | succ j=>simp at hj
def En.mref:En (Option Nat) where
 sz:=1
 agg:=false
 R:=fun _ _ cs x=>cs=[.map x]
 sc:=fun _=>rfl
 pos:=Nat.one_pos
 len:=by rintro _ _ _ _ rfl;rfl
 one:=by rintro _ _ _ _ rfl u hu;simp at hu;subst hu;rfl
 mono:=fun _ h=>h
 move:=fun _ h=>h
theorem zgw {x:Option Nat} {s:St} {v:Value}:(Pd.rep En.mref x).p s v↔v = .map x:=
 ⟨fun ⟨_,hv,hc⟩=>by cases hc;exact hv,fun hv=>⟨[.map x],hv,rfl⟩⟩
section
variable {κ ν : Type} {K : En κ} {kv : κ → Value} {E : En ν}
def Mc (K:En κ) (kv:κ→Value) (E:En ν) (g:Nat) (xs:List (κ × ν)) (s:St):Prop:=s.X g∧∃es clock ys,s.w.heap[g]?=some (.map es clock)∧MpR K kv E s.w (zc4 s) es clock ys∧ys.Perm xs
theorem Mc.mv {g:Nat} {xs:List (κ × ν)} {T:Nat→Prop} {s s':St} (h:Mv T s s') (hb:¬ T g∧(s.X g→s'.X g)) (hp:Mc K kv E g xs s):Mc K kv E g xs s':=by
 obtain ⟨hX,es,clock,ys,hg,hM,hpm⟩:=hp;refine ⟨hb.2 hX,es,clock,ys, ?_,hM.go h,hpm⟩;rw [h.blk g (Array.getElem?_eq_some_iff.1 hg).1 hb.1];exact hg
def Pd.mapc (K:En κ) (kv:κ→Value) (E:En ν) (g:Nat) (xs:List (κ × ν)):Pd:=⟨fun s _=>Mc K kv E g xs s,fun b=>some g=some b,fun h hb hp=>hp.mv h (hb g rfl)⟩
theorem Has.mapc {M:Nat→Prop} {n:Nat} {s0:St} {a:Act} {s:St} {L:Lst} {N g:Nat} {xs:List (κ × ν)} (h:Has M n s0 a s L) (t m:Nat) (hl:lk L t=some (Pd.map K kv E N (some g) xs)):Has M n s0 a s ((t,Pd.rep En.mref (some g))::(m,Pd.mapc K kv E g xs)::L):=by
 obtain ⟨g',e,hv,hN,hX,es,clock,ys,hg,hM,hp⟩:=h.get t hl;cases e;exact (h.cons (q:=Pd.mapc K kv E g xs) m ⟨hX,es,clock,ys,hg,hM,hp⟩).cons t (zgw.2 hv)
theorem Mc.map {g N:Nat} {xs:List (κ × ν)} {s:St} (h:Mc K kv E g xs s) (hN:N≤g):(Pd.map K kv E N (some g) xs).p s (.map (some g)):=by
 obtain ⟨hX,es,clock,ys,hg,hM,hp⟩:=h;exact ⟨g,rfl,rfl,hN,hX,es,clock,ys,hg,hM,hp⟩
end
section
variable {κ ν : Type} [DecidableEq κ] {K : En κ} {kv : κ → Value} {E : En ν} {P : Program} {ops : Array Oper} {o : Oper} {L L' : Lst} {t kt et : TypeId} {g : Nat} {Q : Exit → Act → World → Prop} {rest : List Oper} {M : Nat → Prop} {n : Nat} {s0 : St} {a : Act} {s : St}
theorem t_mgetcok {m:Nat} {xs:List (κ × ν)} {k:κ} {z:ν} {x y:Operand} (hm:lk L m=some (Pd.mapc K kv E g xs)) (hx:Opn L x (Pd.rep En.mref (some g))) (hy:Opn L y (Pd.rep K k)) (ht:P.underlying t=some (.map kt et)) (hK:KeyT P kt K kv) (hz:TyV P et E z)
  (ho:o.op = .lookup t x y true) (hg:o.guard=none):T P ops o L (Pd.tup2 (Pd.rep E (zfz xs k z)) (Pd.rep En.bool (mhas xs k))):=
 T.pure hg fun M n s0 a s hL=>by
  obtain ⟨hX,es,clock,ys,hgb,hM,hp⟩:=hL.get m hm;have hv:=zgw.1 (hx M n s0 a s hL);obtain ⟨cs,hkv,hkR⟩:=hy M n s0 a s hL;rw [hK.val hkR] at hkv;obtain ⟨i,zc,hz1,hz2,hz3⟩:=hz.zero;have hzr:(zeroValue et).run P s.w = .ok (E.val zc) s.w:=by simp [zeroValue,typeInfo,hz1,hz2]
  rcases hM.look hK k with ⟨h1,h2⟩ | ⟨j,e,v,cs',h1,h2,h3,h4,h5⟩
  ·rw [zev hp] at h2;refine ⟨.tuple #[E.val zc,.bool (mhas xs k)], ?_,_,_,rfl,⟨zc,rfl,by rw [mget_no h2];exact hz3 _ _⟩,zbl.2 rfl⟩;unfold execOp;rw [ho];simp only [hv,hkv];simp [Instr.lookup,run_underlying ht,Go.MapKept.run_getObj_map hgb,hK.check,h1,hzr,h2,Result.andThen]
  ·rw [zev hp] at h2;refine ⟨.tuple #[e.val,.bool (mhas xs k)], ?_,_,_,rfl,⟨cs',h4,by rw [← mget_perm (hM.kn hK) hp,h3];exact h5⟩,zbl.2 rfl⟩;unfold execOp;rw [ho];simp only [hv,hkv];simp [Instr.lookup,run_underlying ht,Go.MapKept.run_getObj_map hgb,hK.check,h1,h2,Result.andThen]
theorem st_mputc {m:Nat} {xs:List (κ × ν)} {k:κ} {v1:ν} {x y z:Operand} (hL:Has M n s0 a s L) (hm:lk L m=some (Pd.mapc K kv E g xs)) (hMg:M g∨s0.w.heap.size≤g) (hx:Opn L x (Pd.rep En.mref (some g))) (hy:Opn L y (Pd.rep K k)) (hz:Opn L z (Pd.rep E v1))
  (ht:P.underlying t=some (.map kt et)) (hK:KeyT P kt K kv) (ho:o.op = .mapUpdate t x y z∨o.op = .insert t x y z) (hg:o.guard=none) (hd:o.dst=none)
  (hk:Kp (fun b=>some g=some b) L L') (kk:∀s',Has M n s0 a s' ((m,Pd.mapc K kv E g (zeu xs k v1))::L')→wpList P ops Q rest a s'.w):wpList P ops Q (o::rest) a s.w:=by
 have hxv:(Pd.map K kv E 0 (some g) xs).p s (.map (some g)):=(hL.get m hm:Mc K kv E g xs s).map (Nat.zero_le _);have hv:=zgw.1 (hx M n s0 a s hL);obtain ⟨s',hr,hE,hXX,hp⟩:=run_mput (P:=P) hxv (hy M n s0 a s hL) (hz M n s0 a s hL) ht hK;refine wpList_plain hg fun K' hK'=>?_;unfold Oper.wp execOp;have h2:wpList P ops Q rest a s'.w:=by
  refine kk s' ((hL.efg hE (fun b hb=>by cases hb;exact hMg) (fun b _ hb=>hXX b hb) hk).cons m ?_);obtain ⟨g',e,_,_,hX,es,clock,ys,hg,hM,hp⟩:=hp;cases e;exact ⟨hX,es,clock,ys,hg,hM,hp⟩
 rcases ho with ho | ho
 all_goals
  simp only [ho,hv,Sem.run_bind,hr,Result.andThen_ok,Sem.run_pure];refine hK' _ _ ?_;simp only [hd];exact h2
end
structure Fc {κ ν ι:Type} (P:Program) (f:FuncId) (K:En κ) (kv:κ→Value) (E:En ν) (g:Nat) (xs:List (κ × ν)) (qs:List Pd) (Q:ι→Prop) (q:ι→Pd) (ys:ι→List (κ × ν)):Prop where
 call:∀(args:Array Value) (w:World),(callFunc f args).run P w = .ok (.enter f args) w
 run:∀s vs,Gl s→Mc K kv E g xs s→Vals s qs vs→Calls P f vs.toArray s.w fun e w'=>∃v s' i,e = .returned v∧s'.w=w'∧Fr (fun b=>some g=some b) s s'∧Q i∧(q i).p s' v∧Mc K kv E g (ys i) s'
section
variable {κ ν ι : Type} {K : En κ} {kv : κ → Value} {E : En ν} {Qi : ι → Prop} {q : ι → Pd} {ys : ι → List (κ × ν)}
def Rc (K:En κ) (kv:κ→Value) (E:En ν) (g:Nat) (Qi:ι→Prop) (q:ι→Pd) (ys:ι→List (κ × ν)):St→St→Value→Prop:=fun _ s' v=>∃i,Qi i∧(q i).p s' v∧Mc K kv E g (ys i) s'
theorem fc_of {P:Program} {f:FuncId} {fn:Func} {cd:Code} {n g:Nat} {qs:List Pd} {xs:List (κ × ν)} (hf:P.funcs[f]?=some fn) (hb:fn.body=some cd) (hn:fn.ntmps=n) (hm:(fn.name == "runtime.NumGoroutine")=false) (hq:qs.length≤n)
  (h:∀s0 a,Has (fun b=>some g=some b) n s0 a s0 ((999902,Pd.mapc K kv E g xs)::num 0 qs)→cd.wp P (bodyPost P fn (Pst (fun b=>some g=some b) (Rc K kv E g Qi q ys) s0)) a s0.w):Fc P f K kv E g xs qs Qi q ys where
 call:=fun args w=>by
  have hm':¬ fn.name = "runtime.NumGoroutine":=by simpa using hm
  simp [callFunc,hf,hm',hb]
 run:=fun s vs hg hgh hv=>by
  have hl:=zgs hv;have h0:Has (fun b=>some g=some b) n s { tmps:=vs.toArray++Array.replicate (fn.ntmps-vs.toArray.size) undef,defers:=[] } s (num 0 qs):=by
   refine ⟨?_,rfl,Fr.refl (fun b hb=>by cases hb;exact hgh.1),hg,fun t q ht=>?_⟩
   ·simp [hn,hl];omega
   ·obtain ⟨v,_,h2,h3⟩:=zha hv 0 t q ht;have:(({ tmps:=vs.toArray++Array.replicate (fn.ntmps-vs.toArray.size) undef,defers:=[] }:Act).eval (.tmp t))=v:=by
     simp only [Nat.sub_zero] at h2;have hlt:t<vs.length:=(List.getElem?_eq_some_iff.1 h2).1;simp only [Act.eval];rw [Array.getD_eq_getD_getElem?,Array.getElem?_append_left (by simpa using hlt)];simp [h2]
    rw [this];exact h3
  refine (calls_of_wp hf hb (h s _ (h0.cons 999902 hgh))).mono ?_;rintro e w' ⟨v,s',he,hw,hfr,i,h1,h2,h3⟩;exact ⟨v,s',i,he,hw,hfr,h1,h2,h3⟩
section
variable {P : Program} {ops : Array Oper} {o : Oper} {L L' : Lst} {Q : Exit → Act → World → Prop} {rest : List Oper} {M : Nat → Prop} {n : Nat} {s0 : St} {a : Act} {s : St} {g : Nat}
theorem retc {fn:Func} {t:Nat} (i:ι) (hQ:Qi i) (hr:fn.results = #[.tmp t]) (hL:Has M n s0 a s L) (hl:lk L t=some (q i)) (hm:lk L 999902=some (Pd.mapc K kv E g (ys i))):bodyPost P fn (Pst M (Rc K kv E g Qi q ys) s0) .ret a s.w:=
 ret1 hr hL ⟨i,hQ,hL.get t hl,hL.get 999902 hm⟩
theorem st_callc {f:FuncId} {zs:List Operand} {qs:List Pd} {ats:Array TypeId} {xs:List (κ × ν)} (d m:Nat) (hL:Has M n s0 a s L) (hf:Fc P f K kv E g xs qs Qi q ys) (hm:lk L m=some (Pd.mapc K kv E g xs)) (hMg:M g∨s0.w.heap.size≤g) (hx:Opns L zs qs)
  (ho:o.op = .call { callee:=.value (.func f),args:=zs.toArray,argTypes:=ats }) (hg:o.guard=none) (hd:o.dst=some d) (hn:Nat.blt d n=true) (hk:Kp (fun b=>some g=some b) L L')
  (k:∀a' s' i,Qi i→Has M n s0 a' s' ((d,q i)::(m,Pd.mapc K kv E g (ys i))::L')→wpList P ops Q rest a' s'.w):wpList P ops Q (o::rest) a s.w:=by
 have hcall:=hf.call (zs.map a.eval).toArray s.w;have e:(execOp a.eval o).run P s.w = .ok (.enter f (zs.map a.eval).toArray) s.w:=by
  have e:execOp a.eval o=callFunc f (#[]++(zs.toArray).map a.eval ++ #[]):=by unfold execOp;rw [ho];rfl
  rw [e];simpa using hcall
 refine wpList_plain hg fun K hK=>?_;unfold Oper.wp;rw [e,Oper.upon_enter];refine (hf.run s _ hL.gls (hL.get m hm) (hx.vals hL)).mono fun en w' ⟨v,s',i,he,hw,hfr,hQ,hp,hmc⟩=>?_;subst he;subst hw;refine hK _ _ ?_;rw [hd];have hE:Ef (fun b=>some g=some b) s s':=⟨hfr.mv,fun b hb _=>hfr.keep b hb⟩;exact k _ s' i hQ (((hL.efg hE (fun b hb=>by cases hb;exact hMg) (fun b _ hb=>hfr.keep b hb) hk).cons m hmc).put' hn hp)
theorem t_nc {q:Pd} {x:Operand} (hx:Opn L x q) (hp:∀s v,q.p s v→∃p,v = .pointer (some p)) (ho:o.op = .nilCheck x) (hg:o.guard=none):T P ops o L q:=
 T.pure hg fun M n s0 a s hL=>by
  have h:=hx M n s0 a s hL;obtain ⟨p,hv⟩:=hp _ _ h;refine ⟨a.eval x, ?_,h⟩;unfold execOp;rw [ho];simp [hv]
theorem zer {α:Type} {E:En α} {x:α}:∀s v,(Pd.ptr E x).p s v→∃p,v = .pointer (some p):=fun s v ⟨b,o,cs,hv,_⟩=>⟨_,hv⟩
end
end
def remL {ν:Type} (es:List MapEntry) (seen:Array Nat) (ys:List ν):List ν:=((es.zip ys).filter (fun q=>!seen.contains q.1.born)).map (·.2)
theorem rem_perm {ν:Type} (seen:Array Nat):∀(es:List MapEntry) (ys:List ν) (i:Nat) (e:MapEntry) (p:ν),(es.map (·.born)).Nodup→es[i]?=some e→ys[i]?=some p→seen.contains e.born=false→(remL es seen ys).Perm (p::remL es (seen.push e.born) ys)
 | [],_,i,e,p,_,h,_,_=>by simp at h
 | _::_,[],i,e,p,_,_,h,_=>by simp at h
 | e0::es,y0::ys,i,e,p,hn,he,hp,hs=>by
  rw [List.map_cons,List.nodup_cons] at hn;have hc:∀(b:Nat),(seen.push e.born).contains b=(seen.contains b||b==e.born):=fun b=>by
   rw [Bool.eq_iff_iff];simp
  cases i with
  | zero=>
   simp at he hp;subst he;subst hp;have h1:remL es (seen.push e0.born) ys=remL es seen ys:=by
    unfold remL
    congr 1
    apply List.filter_congr;intro q hq;have:q.1.born≠e0.born:=fun h=>hn.1 (by rw [← h];exact List.mem_map_of_mem (List.of_mem_zip hq).1);simp [this]
   unfold remL at h1 ⊢;simp only [List.zip_cons_cons,List.filter_cons,hs,hc,Bool.not_false,if_true,beq_self_eq_true,Bool.or_true,Bool.not_true];simp only [List.map_cons];simp only [hc] at h1;rw [if_neg (by simp),h1]
  | succ i=>
   simp at he hp;have ih:=rem_perm seen es ys i e p hn.2 he hp hs;have hne:e0.born≠e.born:=fun h=>hn.1 (by rw [h];exact List.mem_map_of_mem (List.mem_of_getElem? he));unfold remL at ih ⊢;simp only [List.zip_cons_cons,List.filter_cons,hc];have hb:(e0.born==e.born)=false:=by simpa using hne
   simp only [hb,Bool.or_false];simp only [hc] at ih;split
   ·simp only [List.map_cons];exact (ih.cons _).trans (List.Perm.swap _ _ _)
   ·exact ih
section
variable {κ ν : Type} {K : En κ} {kv : κ → Value} {E : En ν}
def Pd.iter (K:En κ) (kv:κ→Value) (E:En ν) (N g:Nat) (rem:List (κ × ν)) (cur:Option (κ × ν)):Pd:=
 ⟨fun s v=>v = .pointer (some ⟨g,0,none⟩)∧N≤g∧s.X g∧((∃a seen b,s.w.heap[g]?=some (.mapIter none a seen b)∧rem=[]∧cur=none) ∨
   ∃bm since seen c0 es clock ys,s.w.heap[g]?=some (.mapIter (some bm) since seen c0)∧zc4 s bm∧s.w.heap[bm]?=some (.map es clock)∧MpR K kv E s.w (zc4 s) es clock ys∧since≤c0∧since≤clock∧(∀e∈es.toList,e.born<since)∧(remL es.toList seen ys).Perm rem ∧
    ∀p,cur=some p→∃(i:Nat) (e:MapEntry) (seen':Array Nat),es.toList[i]?=some e∧ys[i]?=some p∧seen=seen'.push e.born∧c0=clock),fun b=>some g=some b,
  by
   rintro T s s' v h hb ⟨hv,hN,hX,hr⟩
   refine ⟨hv,hN,(hb g rfl).2 hX, ?_⟩
   rcases hr with ⟨a,seen,b,hg,h1,h2⟩ | ⟨bm,since,seen,c0,es,clock,ys,hg,hf,hbm,hM,h1,h2,h3,h4,h5⟩
   ·refine .inl ⟨a,seen,b, ?_,h1,h2⟩
    rw [h.blk g (Array.getElem?_eq_some_iff.1 hg).1 (hb g rfl).1];exact hg
   ·refine .inr ⟨bm,since,seen,c0,es,clock,ys, ?_,⟨Nat.lt_of_lt_of_le hf.1 h.size,fun hx=>(h.xx bm hx).elim hf.2 (fun hk=>by have:=hf.1;omega)⟩, ?_,hM.go h,h1,h2,h3,h4,h5⟩
    ·rw [h.blk g (Array.getElem?_eq_some_iff.1 hg).1 (hb g rfl).1];exact hg
    ·rw [h.blk bm hf.1 (fun ht=>hf.2 (h.tx bm ht))];exact hbm⟩
def Pd.nx (b:Bool):Pd:=⟨fun _ v=>∃l:Array Value,v = .tuple l∧l[0]?=some (.bool b),fun _=>False,fun _ _ h=>h⟩
section
variable {P : Program} {ops : Array Oper} {o : Oper} {L L' : Lst} {Q : Exit → Act → World → Prop} {rest : List Oper} {M : Nat → Prop} {n : Nat} {s0 : St} {a : Act} {s : St} {t kt et : TypeId} {g : Nat}
theorem st_range {xs:List (κ × ν)} {x:Operand} (d:Nat) (hL:Has M n s0 a s L) (hx:Opn L x (Pd.rep (En.fmap K kv E) xs)) (ht:P.underlying t=some (.map kt et)) (ho:o.op = .range t x) (hg:o.guard=none) (hd:o.dst=some d) (hn:Nat.blt d n=true)
  (k:∀a' s' g,s.w.heap.size≤g→Has M n s0 a' s' ((d,Pd.iter K kv E s0.w.heap.size g xs none)::L)→wpList P ops Q rest a' s'.w):wpList P ops Q (o::rest) a s.w:=by
 refine wpList_plain hg fun K' hK'=>?_;unfold Oper.wp execOp;rcases rep_fmap.1 (hx M n s0 a s hL) with ⟨hv,rfl⟩ | ⟨bm,es,clock,ys,hv,hf,hgb,hM,hp⟩
 ·have hr:=run_range_nilMap (P:=P) s.w t kt et ht;simp only [ho,hv,Sem.run_bind,hr,Result.andThen_ok,Sem.run_pure];refine hK' _ _ ?_;simp only [hd];refine k _ (s.pushX (.mapIter none 0 #[] 0)) s.w.heap.size (Nat.le_refl _) (hL.put (Ex.pushX s _) hn ⟨rfl,hL.ent.mv.size,.inr rfl,.inl ⟨0,#[],0,heap_alloc_new s.w _,rfl,rfl⟩⟩)
 ·have hr:=run_range_map (P:=P) s.w t kt et bm es clock ht hgb;simp only [ho,hv,Sem.run_bind,hr,Result.andThen_ok,Sem.run_pure];refine hK' _ _ ?_;simp only [hd];have hE:=Ex.pushX s (.mapIter (some bm) clock #[] clock);refine k _ (s.pushX (.mapIter (some bm) clock #[] clock)) s.w.heap.size (Nat.le_refl _) (hL.put hE hn ⟨rfl,hL.ent.mv.size,.inr rfl,.inr ⟨bm,clock,#[],clock,es,clock,ys,heap_alloc_new s.w _, ?_, ?_,hM.go hE.mv,Nat.le_refl _,Nat.le_refl _,hM.st.1, ?_,fun p h=>by cases h⟩⟩)
  ·exact ⟨Nat.lt_of_lt_of_le hf.1 hE.mv.size,fun hx=>(hE.mv.xx bm hx).elim hf.2 (fun hk=>by have:=hf.1;omega)⟩
  ·rw [hE.mv.blk bm hf.1 id];exact hgb
  ·have:remL es.toList #[] ys=ys:=by
    unfold remL;rw [List.filter_eq_self.2 (by simp)];exact List.map_snd_zip (by rw [hM.len];exact Nat.le_refl _)
   rw [this];exact hp
theorem Has.ilt {rem:List (κ × ν)} {cur:Option (κ × ν)} {N:Nat} (h:Has M n s0 a s L) (t:Nat) (hl:lk L t=some (Pd.iter K kv E N g rem cur)):∀k,some g=some k→k<s.w.heap.size:=fun k hk=>by cases hk;exact s.lt _ (h.get t hl).2.2.1
theorem st_next {rem:List (κ × ν)} {cur:Option (κ × ν)} {x:Nat} (d:Nat) (hL:Has M n s0 a s L) (hx:lk L x=some (Pd.iter K kv E s0.w.heap.size g rem cur)) (ho:o.op = .next (.tmp x) false) (hg:o.guard=none) (hd:o.dst=some d) (hn:Nat.blt d n=true) (hne:d≠x)
  (hk:Kp (fun b=>some g=some b) L L')
  (k0:∀a',rem=[]→Has M n s0 a' s ((d,Pd.nx false)::L)→wpList P ops Q rest a' s.w)
  (k1:∀a' s' p rem',rem.Perm (p::rem')→Has M n s0 a' s' ((d,Pd.nx true)::(x,Pd.iter K kv E s0.w.heap.size g rem' (some p))::L')→wpList P ops Q rest a' s'.w):wpList P ops Q (o::rest) a s.w:=by
 obtain ⟨hv,hN,hX,hr⟩:=hL.get x hx;refine wpList_plain hg fun K' hK'=>?_;unfold Oper.wp execOp;rcases hr with ⟨aa,seen,bb,hgb,rfl,_⟩ | ⟨bm,since,seen,c0,es,clock,ys,hgb,hf,hbm,hM,h1,h2,h3,h4,h5⟩
 ·have hrun:(Instr.next (.pointer (some ⟨g,0,none⟩)) false o.type).run P s.w = .ok (.tuple #[.bool false]) s.w:=by
   simp only [Instr.next,getObj,Sem.run_bind,Sem.run,hgb,Result.andThen];rfl
  simp only [ho,hv,Sem.run_bind,hrun,Result.andThen_ok,Sem.run_pure];refine hK' _ _ ?_;simp only [hd];exact k0 _ rfl (hL.put' hn ⟨_,rfl,rfl⟩)
 ·have hnd:=hM.st.2.1;rcases run_next_at (P:=P) s.w o.type g bm since c0 seen es clock hgb hbm h3 h1 with ⟨hz,hrun⟩ | ⟨e,he,w1,hw1,hrun⟩
  ·simp only [ho,hv,Sem.run_bind,hrun,Result.andThen_ok,Sem.run_pure];refine hK' _ _ ?_;simp only [hd];refine k0 _ ?_ (hL.put' hn ⟨_,rfl,rfl⟩);have hnil:remL es.toList seen ys=[]:=by
    unfold remL;rw [List.map_eq_nil_iff,List.filter_eq_nil_iff];intro q hq;have hq1:=(List.of_mem_zip hq).1;intro hc;have:q.1∈(leftOf es seen).toList:=by unfold leftOf;simp;exact ⟨by simpa using hq1,by simpa using hc⟩
    have hlen:(leftOf es seen).toList.length=0:=by simpa using hz
    rw [List.length_eq_zero_iff] at hlen;rw [hlen] at this;cases this
   rw [hnil] at h4;exact List.nil_perm.1 h4
  ·simp only [ho,hv,Sem.run_bind,hrun,Result.andThen_ok,Sem.run_pure];refine hK' _ _ ?_;simp only [hd];have he1:e∈es.toList∧seen.contains e.born=false:=by unfold leftOf at he;simp at he;exact ⟨by simpa using he.1,by simpa using he.2⟩
   obtain ⟨i,hi⟩:=List.getElem?_of_mem he1.1;have hil:i<ys.length:=by rw [← hM.len];exact (List.getElem?_eq_some_iff.1 hi).1
   have hyi:ys[i]?=some ys[i]:=List.getElem?_eq_getElem hil;have hgl:g<s.w.heap.size:=s.lt g hX;have hgbm:g≠bm:=fun e=>hf.2 (e ▸ hX)
   let w':World:=Go.ChangeMaps.setBlock w1 g (.mapIter (some bm) since (seen.push e.born) clock)
   have hh:w1.heap=s.w.heap:=by rcases hw1 with rfl | rfl <;> rfl
   have hblk:∀b,b≠g→w'.heap[b]?=s.w.heap[b]?:=fun b hb=>by
    simp [w',Go.ChangeMaps.setBlock,hh,Array.getElem?_setIfInBounds_ne (Ne.symm hb)]
   have hgg:w'.heap[g]?=some (.mapIter (some bm) since (seen.push e.born) clock):=by
    simp [w',Go.ChangeMaps.setBlock,hh,hgl]
   have hsz:w'.heap.size=s.w.heap.size:=by simp [w',Go.ChangeMaps.setBlock,hh]
   have hdr:DR s.w w':=by
    rcases hw1 with rfl | rfl
    ·exact DR.eq rfl
    ·exact DR.succ rfl
   let s':St:=⟨w',s.X,fun b hb=>by rw [hsz];exact s.lt b hb⟩
   have hE:Ef (fun b=>some g=some b) s s':=⟨⟨hdr,by rcases hw1 with rfl | rfl <;> rfl,by rcases hw1 with rfl | rfl <;> rfl,by rcases hw1 with rfl | rfl <;> rfl,by show _≤w'.heap.size;rw [hsz];exact Nat.le_refl _,fun b _ hnb=>hblk b (fun e=>hnb (by rw [e])),fun b hb=>by cases hb;exact hX,fun b hb=>.inl hb⟩,fun b hb _=>hb⟩;have hLk:Has M n s0 a s' L':=hL.ef hE (fun b hb=>by cases hb;exact hN) hk;have hit:(Pd.iter K kv E s0.w.heap.size g (remL es.toList (seen.push e.born) ys) (some ys[i])).p s' (a.eval (.tmp x)):=by
    refine ⟨hv,hN,hX,.inr ⟨bm,since,seen.push e.born,clock,es,clock,ys,hgg,⟨by show bm<w'.heap.size;rw [hsz];exact hf.1,hf.2⟩, ?_,hM.go hE.mv,h2,h2,h3,.refl _,fun p hp=>?_⟩⟩
    ·show w'.heap[bm]?=_;rw [hblk bm (Ne.symm hgbm)];exact hbm
    ·cases hp;exact ⟨i,e,seen,hi,hyi,rfl,rfl⟩
   exact k1 _ s' ys[i] _ (h4.symm.trans (rem_perm seen es.toList ys i e ys[i] hnd hi hyi he1.2)) ((hLk.cons x hit).put' hn ⟨_,rfl,rfl⟩)
theorem t_nx {b:Bool} {x:Operand} (hx:Opn L x (Pd.nx b)) (ho:o.op = .extract x 0) (hg:o.guard=none):T P ops o L (Pd.rep En.bool b):=
 T.pure hg fun M n s0 a s hL=>by
  obtain ⟨l,hv,h0⟩:=hx M n s0 a s hL;refine ⟨.bool b, ?_,zbl.2 rfl⟩;unfold execOp;rw [ho];simp [hv,Instr.extract,h0]
theorem t_entry {N:Nat} {rem:List (κ × ν)} {p:κ × ν} {x:Operand} (hx:Opn L x (Pd.iter K kv E N g rem (some p))) (hK:KeyT P kt K kv) (ho:o.op = .entry x) (hg:o.guard=none):T P ops o L (Pd.tup2 (Pd.rep K p.1) (Pd.rep E p.2)):=
 T.pure hg fun M n s0 a s hL=>by
  obtain ⟨hv,hN,hX,hr⟩:=hx M n s0 a s hL;rcases hr with ⟨aa,seen,bb,hgb,_,hc⟩ | ⟨bm,since,seen,c0,es,clock,ys,hgb,hf,hbm,hM,h1,h2,h3,h4,h5⟩
  ·cases hc
  ·obtain ⟨i,e,seen',hi,hyi,rfl,rfl⟩:=h5 p rfl;have hnd:=hM.st.2.1;obtain ⟨hk1,⟨cs,hkR⟩,cs',hv',hR'⟩:=hM.ent i e p hi hyi;have hrun:=run_entry_at (P:=P) s.w g bm since seen' es c0 e hgb hbm (List.mem_of_getElem? hi) hnd;refine ⟨.tuple #[e.key,e.val], ?_,_,_,rfl,⟨cs,by rw [hk1,hK.val hkR],hkR⟩,⟨cs',hv',hR'⟩⟩;unfold execOp;rw [ho];simp [hv,hrun,Result.andThen]
end
end
def En.nilv {α:Type} (E:En α):En (List α) where
 sz:=1
 agg:=false
 R:=fun _ _ cs xs=>cs=[.slice none 0 0]∧xs=[]
 sc:=fun _=>rfl
 pos:=Nat.one_pos
 len:=by rintro _ _ _ _ ⟨rfl,_⟩;rfl
 one:=by rintro _ _ _ _ ⟨rfl,_⟩ u hu;simp at hu;subst hu;rfl
 mono:=fun _ h=>h
 move:=fun _ h=>h
theorem zc7 {α:Type} {E:En α} {xs:List α} {s:St} {v:Value}:(Pd.rep (En.nilv E) xs).p s v↔v = .slice none 0 0∧xs=[]:=
 ⟨fun ⟨_,hv,hc,hr⟩=>by subst hc;exact ⟨hv,hr⟩,fun ⟨hv,hr⟩=>⟨[.slice none 0 0],hv,rfl,hr⟩⟩
theorem o_nilv {L:Lst} {α:Type} {E:En α}:Opn L (.const (.slice none 0 0)) (Pd.rep (En.nilv E) ([]:List α)):=o_c fun _=>zc7.2 ⟨rfl,rfl⟩
end
end Go.Proofs.YtaknifhhnhcchaaDoor.V
namespace Go.Proofs.YtaknifhhnhcchaaDoor.V
open Go Go.MapKept
set_option linter.unusedVariables false
section
variable {u : Bool} [Dr u]
section
variable {P : Program} {ops : Array Oper} {o : Oper} {L : Lst}
theorem els_take {α:Type} {E:En α} {w:World} {S:Nat→Prop} {css:List (List Value)} {xs:List α} (h:Els E w S css xs) (k:Nat):Els E w S (css.take k) (xs.take k):=by
 refine ⟨by rw [List.length_take,List.length_take,h.1],fun i c y hc hy=>?_⟩;rw [List.getElem?_take] at hc hy;split at hc
 ·rename_i hlt
  rw [if_pos hlt] at hy;exact h.2 i c y hc hy
 ·cases hc
theorem flat_take {css:List (List Value)} (k:Nat) {j:Nat} {u:Value} (h:(css.take k).flatten[j]?=some u):css.flatten[j]?=some u:=by
 have e:css.flatten=(css.take k).flatten++(css.drop k).flatten:=by rw [← List.flatten_append,List.take_append_drop]
 rw [e,List.getElem?_append_left (List.getElem?_eq_some_iff.1 h).1];exact h
theorem t_upto {α:Type} {E:En α} {xs:List α} {k:IntKind} {i:Int} {y z:Operand} {t te:TypeId} (hy:Opn L y (Pd.rep (En.slice E) xs)) (hz:Opn L z (Pd.rep (En.int k) i)) (hi:0≤i∧i≤(xs.length:Int)) (ht:P.underlying t=some (.slice te)) (hE:Ty P te E)
  (ho:o.op = .slice t y none (some z) none) (hg:o.guard=none):T P ops o L (Pd.rep (En.slice E) (xs.take i.toNat)):=
 T.pure hg fun M n s0 ac s hL=>by
  obtain ⟨ad,cap,hv,h1,h2,h3,h4⟩:=zbp.1 (hy M n s0 ac s hL);have hiv:=(z7.1 (hz M n s0 ac s hL)).1;have hlen:(xs.take i.toNat).length=i.toNat:=by rw [List.length_take];omega
  refine ⟨.slice (if cap=0 then ad else ad.map (·.add (0*E.sz))) i.toNat cap, ?_,zbp.2 ⟨_,_,by rw [hlen],by rw [hlen];omega,fun hn=>?_,by rw [hlen];omega,fun hne=>?_⟩⟩
  ·unfold execOp;rw [ho];simp only [hv,hiv,Option.map_some,Option.map_none,Instr.sliceAt,Sem.run_bind,run_underlying ht,Result.andThen_ok,Instr.slice,Instr.sliceBounds,Instr.sliceBound,asIntOf,Sem.run_pure];rw [if_pos (by omega)];simp [z6 hE]
  ·split at hn
   ·have:=h2 hn;omega
   ·cases ad with
    | none=>have:=h2 rfl;omega
    | some a=>cases hn
  ·have hlt:0<i.toNat:=by
    rcases Nat.eq_zero_or_pos i.toNat with h | h
    ·rw [h] at hne;simp at hne
    ·exact h
   obtain ⟨b,off,css,e1,hb,hEl,hc⟩:=h4 (by intro h;rw [h] at hi;simp at hi;omega);refine ⟨b,off,css.take i.toNat, ?_,hb,els_take hEl _,fun j u hu=>hc j u (flat_take _ hu)⟩;rw [if_neg (by omega),e1];simp [zc3]
end
end
end Go.Proofs.YtaknifhhnhcchaaDoor.V
namespace Go.Proofs.YtaknifhhnhcchaaDoor.V
open Go
set_option linter.unusedVariables false
abbrev SItem:Type:=Int × Int × Int × Int
abbrev SNode:Type:=Int × Int × Int × Int × Int × Cl × Str
abbrev SDesc:Type:=(List SNode)
abbrev SBranch:Type:=(List SItem) × Int
def zbs (x:SItem):List Int:=[x.1,x.2.1,x.2.2.1,x.2.2.2]
def zb7 (s:List SItem):List Int:=s.flatMap zbs
def ze9 (l:List Int):Str:=l.flatMap fun n=>Lib.itoa n++[32]
def keyS (s:List SItem):Str:=ze9 (zb7 s)
def item_Key (s:List SItem) (r:Str):Prop:=s.length≤1000∧r=keyS s
def zbv (x:List SItem) (n:Int) (r:List SItem):Prop:=0≤n∧n≤2147483648∧r=[]
def sgnI (x y:Int):Int:=if x<y then -1 else if y<x then 1 else 0
def zdi:List Int→List Int→Int
 | x::a,y::b=>if x<y then -1 else if y<x then 1 else zdi a b
 | _,_=>0
def zhf:List Int→Int
 | []=>0
 | x::l=>if x≠0 then x else zhf l
def numsL (s:List SItem):List Int:=(s.length:Int)::zb7 s
def cmpItem (x y:SItem):Int:=zhf [sgnI x.1 y.1,sgnI x.2.1 y.2.1,sgnI x.2.2.1 y.2.2.1,sgnI x.2.2.2 y.2.2.2]
def zcv (a b:List SItem):Int:=zdi (numsL a) (numsL b)
def zcf (d:List SNode) (x:SItem):Bool:=
 if x.1=5 then (x.2.1==0&&x.2.2.2==0)&&(decide (0≤x.2.2.1)&&decide (x.2.2.1≤65535))
 else match at? d x.2.1 with
  | none=>false
  | some n=>
   if x.1=1 then x.2.2.1==0&&x.2.2.2==0
   else if x.1=2 then ((n.1==7&&decide (0≤x.2.2.1))&&decide (x.2.2.1≤x.2.2.2))&&decide (x.2.2.2≤n.2.2.2.2.1)
   else if x.1=3 then ((n.1==3&&x.2.2.2==0)&&decide (0≤x.2.2.1))&&decide (x.2.2.1<(n.2.2.2.2.2.2.length:Int))
   else if x.1=4 then ((n.1==9&&x.2.2.2==0)&&decide (0≤x.2.2.1))&&decide (x.2.2.1≤255)
   else false
def opn (d:List SNode):List SItem→List (List SItem)
 | []=>[]
 | x::rest=>
  if x.1=5 then (if x.2.2.1=0 then [rest] else [])
  else match at? d x.2.1 with
  | none=>[]
  | some n=>
   if x.1=2 then (if x.2.2.1=0 then [rest] else [])++(if 0<x.2.2.2 then [(1,n.2.1,0,0)::(2,x.2.1,max (x.2.2.1-1) 0,x.2.2.2-1)::rest] else [])
   else if n.1=1 then [rest]
   else if n.1=3 then [(3,x.2.1,0,0)::rest]
   else if n.1=4 then [(1,n.2.1,0,0)::(1,n.2.2.1,0,0)::rest]
   else if n.1=5 then [(1,n.2.1,0,0)::rest,(1,n.2.2.1,0,0)::rest]
   else if n.1=6 then [rest,(1,n.2.1,0,0)::x::rest]
   else [(2,x.2.1,n.2.2.2.1,n.2.2.2.2.1)::rest]
def rdy (d:List SNode):List SItem→Bool
 | []=>true
 | x::_=>x.1==3||x.1==4||(x.1==1&&match at? d x.2.1 with | some n=>n.1==2||n.1==8||n.1==9 | none=>false)
def lv (d:List SNode):Nat→List SItem→Option (List (List SItem))
 | 0,_=>none
 | h+1,s=>if rdy d s=true then some [s] else ((opn d s).mapM (lv d h)).map List.flatten
def nzN (l:List Bool) (n:SNode):Bool:=
 if n.1=1 then true
 else if n.1=4 then (at? l n.2.1).getD false&&(at? l n.2.2.1).getD false
 else if n.1=5 then (at? l n.2.1).getD false||(at? l n.2.2.1).getD false
 else if n.1=6 then true
 else if n.1=7 then decide (n.2.2.2.1=0)||(at? l n.2.1).getD false
 else false
def nzL (d:List SNode):List Bool:=d.foldl (fun l n=>l++[nzN l n]) []
def nz (d:List SNode) (i:Int):Bool:=(at? (nzL d) i).getD false
structure ROk (d:List SNode):Prop where
 two:∀(i:Int) n,at? d i=some n→(n.1=4∨n.1=5)→(0≤n.2.1∧n.2.1<i)∧(0≤n.2.2.1∧n.2.2.1<i)
 one:∀(i:Int) n,at? d i=some n→(n.1=6∨n.1=7∨n.1=8∨n.1=9)→0≤n.2.1∧n.2.1<i
 rep:∀(i:Int) n,at? d i=some n→n.1=7→0≤n.2.2.2.1∧n.2.2.2.1≤n.2.2.2.2.1∧n.2.2.2.2.1≤255
 kind:∀(i:Int) n,at? d i=some n→1≤n.1∧n.1≤9
 ntx:∀(i:Int) n,at? d i=some n→n.1=3→n.2.2.2.2.2.2≠[]
 nn:∀(i:Int) n,at? d i=some n→(n.1=6∨n.1=7)→nz d n.2.1=false
structure DOk (d:List SNode):Prop where
 len:d.length≤1000
 txt:∀n∈d,n.2.2.2.2.2.2.length≤9223372036854775807
def zcl (d:List SNode) (s:List SItem):Bool:=s.all (zcf d)
abbrev sat (n:Nat):Int:=((min 2 n:Nat):Int)
structure Can (f:List SItem→Nat) (B:List SBranch):Prop where
 srt:B.Pairwise (fun a b=>zcv a.1 b.1<0)
 mem:∀t m,(t,m)∈B↔f t≠0∧m=sat (f t)
def insB (b:SBranch):List SBranch→List SBranch
 | []=>[b]
 | c::l=>if zcv b.1 c.1<0 then b::c::l else c::insB b l
def srtB (l:List SBranch):List SBranch:=l.foldr insB []
def zc5 (x r:List SBranch):Prop:=(x.map (·.1)).Nodup∧(∀b∈x,b.1.length≤1000)∧x.length≤2147483648∧r=srtB x
def zb2 (d:SDesc) (s:List SItem) (r:List SBranch):Prop:=ROk d∧DOk d∧d.length≤400∧d≠[]∧zcl d s=true∧s.length≤400∧r.length≤2147483648∧∃h L,lv d h s=some L∧Can (fun t=>L.count t) r
section
variable {u : Bool} [Dr u]
class Ud (P:Program) (t:TypeId) (d:outParam TypeDesc):Prop where
 h:P.underlying t=some d
class Tq {α:outParam Type} (P:Program) (t:TypeId) (E:outParam (En α)):Prop where
 h:Ty P t E
class Fd {α:Type} {β:outParam Type} (P:Program) (t:TypeId) (f:Nat) (E:En α) (a:α) (off:outParam Nat) (E':outParam (En β)) (y:outParam β):Prop where
 h:∃(fs:Array Field) (fd:Field),P.underlying t=some (.struct fs)∧fs[f]?=some fd∧Prt E off E' a y∧fd.offset=off∧Ty P fd.type E'
class Ev {α:Sort _} (a:α) (b:outParam α):Prop where
 h:a=b
instance evr {α:Sort _} {a:α}:Ev a a:=⟨rfl⟩
@[reducible] def lkr:Lst→Nat→Option Pd
 | [],_=>none
 | (d,q)::r,t=>match Nat.beq d t with
  | true=>some q
  | false=>lkr r t
theorem lkr_lk:∀{L:Lst} {t:Nat},lkr L t=lk L t
 | [],_=>rfl
 | (d,q)::r,t=>by
  rw [lk,lkr];cases Nat.beq d t
  ·exact lkr_lk
  ·rfl
class Lx (L:Lst) (t:Nat) (q:outParam Pd):Prop where
 h:lk L t=some q
instance lxi {L:Lst} {t:Nat} {q:Pd} [h:Ev (lkr L t) (some q)]:Lx L t q:=⟨lkr_lk ▸ h.h⟩
class Imp (c d:Prop):Prop where
 h:c→d
instance imp0 {c:Prop}:Imp c c:=⟨id⟩
instance imp2 {a b c:Prop} [h:Imp b c]:Imp (a∧b) c:=⟨fun x=>h.h x.2⟩
class Vw (c:Prop) (q:Pd) (q':outParam Pd):Prop where
 h:∀s v,c→q.p s v→q'.p s v
instance (priority:=low) vw0 {c:Prop} {q:Pd}:Vw c q q:=⟨fun _ _ _ h=>h⟩
instance vw1 {c d:Prop} {q:Pd} [i:Imp c d]:Vw c (Pd.when d q) q:=⟨fun _ _ hc h=>h.1 (i.h hc)⟩
class Ki (k:IntKind) (x:Int):Prop where
 h:InR k x
@[reducible] def inb:IntKind→Int→Bool
 | .i64,.ofNat n=>Nat.ble n 9223372036854775807
 | .u8,.ofNat n=>Nat.ble n 255
 | .u64,.ofNat n=>Nat.ble n 18446744073709551615
 | _,_=>false
instance kix {k:IntKind} {x:Int} [h:Ev (inb k x) true]:Ki k x:=⟨by
 have e:=h.h
 unfold inb at e
 split at e
 all_goals first | (have:=Nat.le_of_ble_eq_true e;simp [InR,IntKind.min,IntKind.max,IntKind.signed,IntKind.bits];omega) | cases e⟩
instance kin {x:Int} [h:Ev (inb .i64 x) true]:Ki .i64 (-x):=⟨by
 have e:=h.h
 unfold inb at e
 split at e
 all_goals first | (have:=Nat.le_of_ble_eq_true e;simp [InR,IntKind.min,IntKind.max,IntKind.signed,IntKind.bits];omega) | cases e | contradiction⟩
class Oc (c:Prop) (L:Lst) (x:Operand) (q:outParam Pd):Prop where
 h:c→Opn L x q
instance oct {c:Prop} {L:Lst} {t:Nat} {q q':Pd} [h:Lx L t q] [v:Vw c q q']:Oc c L (.tmp t) q':=⟨fun hc M n s0 a s hL=>v.h s _ hc (hL.get t h.h)⟩
instance oci {c:Prop} {L:Lst} {k:IntKind} {x:Int} [h:Ki k x]:Oc c L (.const (.int k x)) (Pd.rep (En.int k) x):=⟨fun _=>o_i h.h⟩
instance ocb {c:Prop} {L:Lst} {x:Bool}:Oc c L (.const (.bool x)) (Pd.rep En.bool x):=⟨fun _=>o_b⟩
class Or {α:outParam Type} (c:Prop) (L:Lst) (x:Operand) (E:outParam (En α)) (N:outParam Nat) (te:outParam TypeId) (og:outParam (Option Nat)) (xs:outParam (List α)):Prop where
 h:c→Opn L x (Pd.row E N te og xs)
instance or0 {α:Type} {E:En α} {N te:Nat} {og:Option Nat} {xs:List α} {c:Prop} {L:Lst} {x:Operand} [h:Oc c L x (Pd.row E N te og xs)]:Or c L x E N te og xs:=⟨h.h⟩
theorem op {L:Lst} {x:Operand} {q:Pd} [h:Oc True L x q]:Opn L x q:=h.h trivial
theorem opc {c:Prop} (hc:c) {L:Lst} {x:Operand} {q:Pd} [h:Oc c L x q]:Opn L x q:=h.h hc
class Oz (c:Prop) (L:Lst) (xs:List Operand) (qs:List Pd):Prop where
 h:c→Opns L xs qs
instance oz0 {c:Prop} {L:Lst}:Oz c L [] []:=⟨fun _=>.nil⟩
instance oz1 {c:Prop} {L:Lst} {x:Operand} {xs:List Operand} {q:Pd} {qs:List Pd} [h:Oc c L x q] [k:Oz c L xs qs]:Oz c L (x::xs) (q::qs):=⟨fun hc=>.cons (h.h hc) (k.h hc)⟩
instance oz2 {α:Type} {E:En α} {c:Prop} {L:Lst} {xs:List Operand} {qs:List Pd} [k:Oz c L xs qs]:Oz c L (.const (.slice none 0 0)::xs) (Pd.rep (En.slice E) []::qs):=⟨fun hc=>.cons zgl (k.h hc)⟩
instance oz3 {α:Type} {E:En α} {c:Prop} {L:Lst} {xs:List Operand} {qs:List Pd} [k:Oz c L xs qs]:Oz c L (.const (.slice none 0 0)::xs) (Pd.rep (En.nilv E) []::qs):=⟨fun hc=>.cons o_nilv (k.h hc)⟩
class Ol {α:Type} (E:En α) (c:Prop) (L:Lst) (xs:List Operand) (es:outParam (List α)):Prop where
 h:c→OpL E L xs es
instance ol0 {α:Type} {E:En α} {c:Prop} {L:Lst}:Ol E c L [] []:=⟨fun _=>.nil⟩
instance ol1 {α:Type} {E:En α} {c:Prop} {L:Lst} {x:Operand} {xs:List Operand} {e:α} {es:List α} [h:Oc c L x (Pd.rep E e)] [k:Ol E c L xs es]:Ol E c L (x::xs) (e::es):=⟨fun hc=>.cons (h.h hc) (k.h hc)⟩
theorem opz {L:Lst} {xs:List Operand} {qs:List Pd} [h:Oz True L xs qs]:Opns L xs qs:=h.h trivial
class Lp (parts:Array (Nat × Operand)) (xs:outParam (List Operand)) (n:Nat):Prop where
 h:parts=(xs.zipIdx.map fun (x,i)=>(i,x)).toArray∧n=xs.length
inductive Lq:Nat→List (Nat × Operand)→List Operand→Prop
 | nil {i:Nat}:Lq i [] []
 | cons {i:Nat} {x:Operand} {l:List (Nat × Operand)} {xs:List Operand} (h:Lq (i+1) l xs):Lq i ((i,x)::l) (x::xs)
theorem Lq.e {i:Nat} {l:List (Nat × Operand)} {xs:List Operand} (h:Lq i l xs):l=(xs.zipIdx i).map (fun (x,i)=>(i,x)):=by
 induction h with
 | nil=>rfl
 | cons _ ih=>rw [ih];rfl
class Lr (i:Nat) (l:List (Nat × Operand)) (xs:outParam (List Operand)) (n:outParam Nat):Prop where
 h:Lq i l xs∧n=xs.length
instance lr0 {i:Nat}:Lr i [] [] 0:=⟨.nil,rfl⟩
instance lr1 {i j n:Nat} {x:Operand} {l:List (Nat × Operand)} {xs:List Operand} [e:Ev (Nat.beq i j) true] [h:Lr (i+1) l xs n]:Lr i ((j,x)::l) (x::xs) (n+1):=⟨by rw [← Nat.eq_of_beq_eq_true e.h];exact .cons h.h.1,by rw [h.h.2];rfl⟩
instance lp0 {l:List (Nat × Operand)} {xs:List Operand} {n m:Nat} [h:Lr 0 l xs m] [e:Ev (Nat.beq n m) true]:Lp l.toArray xs n:=⟨by rw [h.h.1.e],by rw [Nat.eq_of_beq_eq_true e.h,h.h.2]⟩
theorem lp_lit {P:Program} {ops:Array Oper} {L:Lst} {α:Type} {E:En α} {t te:TypeId} {xs:List Operand} {es:List α} {n:Nat} {parts:Array (Nat × Operand)} {d:Option Nat} {ty:TypeId} {ps:String} {af:Array Edge} (hx:OpL E L xs es) (ht:P.underlying t=some (.slice te)) (hE:Ty P te E) (h:Lp parts xs n) (hn:n*E.sz≤16777216):T P ops ⟨d,.buildSlice t n parts,ty,ps,af,none⟩ L (Pd.rep (En.slice E) es):=zdu hx ht hE h.h.2 h.h.1 hn rfl rfl
class Cj (a b:Prop) (c:outParam Prop):Prop where
 h:c→a∧b
instance (priority:=high) cj0 {a:Prop}:Cj True a a:=⟨fun h=>⟨trivial,h⟩⟩
instance (priority:=900) cj1 {a:Prop}:Cj a True a:=⟨fun h=>⟨h,trivial⟩⟩
instance (priority:=low) cj2 {a b:Prop}:Cj a b (a∧b):=⟨id⟩
class Gi (c r:Prop) (r':outParam Prop):Prop where
 h:r'→c→r
instance (priority:=high) gi0 {c:Prop}:Gi c True True:=⟨fun _ _=>trivial⟩
instance (priority:=low) gi1 {c r:Prop}:Gi c r (c→r):=⟨id⟩
class TO (c:Prop) (P:Program) (ops:Array Oper) (o:Oper) (L:Lst) (q:outParam Pd) (r:outParam Prop):Prop where
 h:r→c→T P ops o L q
class TH (p c:Prop) (P:Program) (ops:Array Oper) (o:Oper) (L:Lst) (q:outParam Pd):Prop where
 h:p→c→T P ops o L q
section
variable {c : Prop} {P : Program} {ops : Array Oper} {L : Lst} {d : Option Nat} {ty : TypeId} {ps : String} {af : Array Edge} {x y z : Operand} {t u' : TypeId} {k : IntKind} {a b : Int}
instance to1 {q:Pd} [i0:Oc c L x q]:TO c P ops ⟨d,.move x,ty,ps,af,none⟩ L (q) (True):=⟨fun hr hc=>ze (i0.h hc) rfl rfl⟩
instance to2 {q:Pd} [i0:Oc c L x q]:TO c P ops ⟨d,.assign x,ty,ps,af,none⟩ L (q) (True):=⟨fun hr hc=>zg (i0.h hc) rfl rfl⟩
instance to3 {α:Type} {E:En α} {v:α} [i0:Tq P t E] [i1:Oc c L y (Pd.ptr E v)]:TO c P ops ⟨d,.load t y,ty,ps,af,none⟩ L (Pd.rep E v) (True):=⟨fun hr hc=>zbd i0.h (i1.h hc) rfl rfl⟩
instance to4 {α:Type} {E:En α} {v:α} {N off:Nat} {og:Option Nat} [i0:Tq P t E] [i1:Oc c L y (Pd.optr E N og off v)]:TO c P ops ⟨d,.load t y,ty,ps,af,none⟩ L (Pd.rep E v) (True):=⟨fun hr hc=>z1 i0.h (i1.h hc) rfl rfl⟩
instance to5 {α:Type} {E:En α} {v:α} {N g:Nat} [i0:Tq P t E] [i1:Oc c L y (Pd.box E N g v)]:TO c P ops ⟨d,.load t y,ty,ps,af,none⟩ L (Pd.rep E v) (True):=⟨fun hr hc=>zb0 i0.h (i1.h hc) rfl rfl⟩
instance to6 {α β:Type} {E:En α} {E':En β} {v:α} {w:β} {f off:Nat}  [i0:Oc c L x (Pd.ptr E v)] [i1:Fd P t f E v off E' w]:TO c P ops ⟨d,.fieldAddr t x f,ty,ps,af,none⟩ L (Pd.ptr E' w) (True):=⟨fun hr hc=>let ⟨fs,fd,h1,h2,h3,h4,h5⟩:=i1.h;zgc (i0.h hc) h1 h2 h3 h4 h5 rfl rfl⟩
instance to8 {α β:Type} {E:En α} {E':En β} {v:α} {w:β} {f off:Nat} {N g:Nat} [i0:Oc c L x (Pd.box E N g v)] [i1:Fd P t f E v off E' w]:TO c P ops ⟨d,.fieldAddr t x f,ty,ps,af,none⟩ L (Pd.optr E' N (some g) off w) (True):=⟨fun hr hc=>let ⟨fs,fd,h1,h2,h3,h4,h5⟩:=i1.h;zca (i0.h hc) h1 h2 h3 h4 h5 rfl rfl⟩
instance to10 [i0:Oc c L x (Pd.rep (En.int k) a)] [i1:Oc c L y (Pd.rep (En.int k) b)]:TO c P ops ⟨d,.binOp .lss t x y u',ty,ps,af,none⟩ L (Pd.rep En.bool (decide (a<b))) (True):=⟨fun hr hc=>t_lss (i0.h hc) (i1.h hc) rfl rfl⟩
instance to11 [i0:Oc c L x (Pd.rep (En.int k) a)] [i1:Oc c L y (Pd.rep (En.int k) b)]:TO c P ops ⟨d,.binOp .leq t x y u',ty,ps,af,none⟩ L (Pd.rep En.bool (decide (a≤b))) (True):=⟨fun hr hc=>t_leq (i0.h hc) (i1.h hc) rfl rfl⟩
instance to12 [i0:Oc c L x (Pd.rep (En.int k) a)] [i1:Oc c L y (Pd.rep (En.int k) b)]:TO c P ops ⟨d,.binOp .gtr t x y u',ty,ps,af,none⟩ L (Pd.rep En.bool (decide (b<a))) (True):=⟨fun hr hc=>t_gtr (i0.h hc) (i1.h hc) rfl rfl⟩
instance to13 [i0:Oc c L x (Pd.rep (En.int k) a)] [i1:Oc c L y (Pd.rep (En.int k) b)]:TO c P ops ⟨d,.binOp .geq t x y u',ty,ps,af,none⟩ L (Pd.rep En.bool (decide (b≤a))) (True):=⟨fun hr hc=>t_geq (i0.h hc) (i1.h hc) rfl rfl⟩
instance to14 [i0:Oc c L x (Pd.rep (En.int k) a)] [i1:Oc c L y (Pd.rep (En.int k) b)]:TO c P ops ⟨d,.binOp .eql t x y u',ty,ps,af,none⟩ L (Pd.rep En.bool (a==b)) (True):=⟨fun hr hc=>zdv (i0.h hc) (i1.h hc) rfl rfl⟩
instance to15 [i0:Oc c L x (Pd.rep (En.int k) a)] [i1:Oc c L y (Pd.rep (En.int k) b)]:TO c P ops ⟨d,.binOp .neq t x y u',ty,ps,af,none⟩ L (Pd.rep En.bool (a != b)) (True):=⟨fun hr hc=>t_nei (i0.h hc) (i1.h hc) rfl rfl⟩
instance to16 [i0:Oc c L x (Pd.rep (En.int .i64) a)] [i1:Oc c L y (Pd.rep (En.int .i64) b)]:TO c P ops ⟨d,.binOp .add t x y u',ty,ps,af,none⟩ L (Pd.rep (En.int .i64) (a+b)) (InR .i64 (a+b)):=⟨fun hr hc=>t_add (i0.h hc) (i1.h hc) hr rfl rfl⟩
instance to19 [i0:Oc c L x (Pd.rep (En.int .i64) a)] [i1:Oc c L y (Pd.rep (En.int .i64) b)]:TO c P ops ⟨d,.binOp .sub t x y u',ty,ps,af,none⟩ L (Pd.rep (En.int .i64) (a-b)) (InR .i64 (a-b)):=⟨fun hr hc=>t_sub (i0.h hc) (i1.h hc) hr rfl rfl⟩
instance to22 [i0:Oc c L x (Pd.rep (En.int .i64) a)] [i1:Oc c L y (Pd.rep (En.int .i64) b)]:TO c P ops ⟨d,.binOp .mul t x y u',ty,ps,af,none⟩ L (Pd.rep (En.int .i64) (a*b)) (InR .i64 (a*b)):=⟨fun hr hc=>t_mul (i0.h hc) (i1.h hc) hr rfl rfl⟩
instance to26 {v:Bool} [i0:Oc c L x (Pd.rep En.bool v)]:TO c P ops ⟨d,.unOp .not t x,ty,ps,af,none⟩ L (Pd.rep En.bool (!v)) (True):=⟨fun hr hc=>t_not (i0.h hc) rfl rfl⟩
instance to34 {v w:Bool} [i0:Oc c L x (Pd.rep En.bool v)] [i1:Oc (c∧v=true) L y (Pd.rep En.bool w)]:TO c P ops ⟨d,.pick x y (.const (.bool false)),ty,ps,af,none⟩ L (Pd.rep En.bool (v&&w)) (True):=⟨fun hr hc=>ze5 (i0.h hc) (fun e=>i1.h ⟨hc,e⟩) rfl rfl⟩
instance to35 {v w:Bool} [i0:Oc c L x (Pd.rep En.bool v)] [i1:Oc (c∧v=false) L y (Pd.rep En.bool w)]:TO c P ops ⟨d,.pick x (.const (.bool true)) y,ty,ps,af,none⟩ L (Pd.rep En.bool (v||w)) (True):=⟨fun hr hc=>t_or (i0.h hc) (fun e=>i1.h ⟨hc,e⟩) rfl rfl⟩
instance to36 {α:Type} {E:En α} {xs:List α} {te:TypeId} [i0:Oc c L y (Pd.rep (En.slice E) xs)] [i1:Ud P t (.slice te)]:TO c P ops ⟨d,.call { callee:=.builtin .len,args:=#[y],argTypes:=#[t] },ty,ps,af,none⟩ L (Pd.rep (En.int .i64) xs.length) (True):=⟨fun hr hc=>zeh (i0.h hc) i1.h rfl rfl⟩
instance to38 {v:Str} [i0:Oc c L y (Pd.rep En.str v)] [i1:Ud P t .string]:TO c P ops ⟨d,.call { callee:=.builtin .len,args:=#[y],argTypes:=#[t] },ty,ps,af,none⟩ L (Pd.rep (En.int .i64) v.length) (True):=⟨fun hr hc=>t_slen (i0.h hc) i1.h rfl rfl⟩
instance to40 {ats:Array TypeId} [i0:Oc c L x (Pd.rep (En.int k) a)] [i1:Oc c L y (Pd.rep (En.int k) b)]:TO c P ops ⟨d,.call { callee:=.builtin .min,args:=#[x,y],argTypes:=ats },ty,ps,af,none⟩ L (Pd.rep (En.int k) (min a b)) (True):=⟨fun hr hc=>t_min (i0.h hc) (i1.h hc) rfl rfl⟩
instance to41 {α:Type} {E:En α} {v:α} [i0:Oc c L y (Pd.rep E v)]:TO c P ops ⟨d,.box t y,ty,ps,af,none⟩ L (Pd.ptr E v) (True):=⟨fun hr hc=>t_box (i0.h hc) rfl rfl⟩
instance to42 {q r:Pd} [i0:Oc c L x (Pd.tup2 q r)]:TO c P ops ⟨d,.extract x 0,ty,ps,af,none⟩ L (q) (True):=⟨fun hr hc=>t_ext0 (i0.h hc) rfl rfl⟩
instance to43 {q r:Pd} [i0:Oc c L x (Pd.tup2 q r)]:TO c P ops ⟨d,.extract x 1,ty,ps,af,none⟩ L (r) (True):=⟨fun hr hc=>t_ext1 (i0.h hc) rfl rfl⟩
instance to45 {α:Type} {E:En α} {te:TypeId} {xs:List Operand} {es:List α} {n:Nat} {parts:Array (Nat × Operand)}  [i0:Ud P t (.slice te)] [i1:Tq P te E] [i2:Lp parts xs n] [i3:Ol E c L xs es]:TO c P ops ⟨d,.buildSlice t n parts,ty,ps,af,none⟩ L (Pd.rep (En.slice E) es) (n*E.sz≤16777216):=⟨fun hr hc=>lp_lit (i3.h hc) i0.h i1.h i2 hr⟩
instance to47 [i0:Oc c L y (Pd.rep (En.int .u8) a)] [i1:Ud P t (.int .u8)] [i2:Ud P u' (.int .i64)]:TO c P ops ⟨d,.convert t u' y,ty,ps,af,none⟩ L (Pd.rep (En.int .i64) a) (True):=⟨fun hr hc=>t_up (i0.h hc) (by decide) i1.h i2.h rfl rfl⟩
instance to59 {α:Type} {E:En α} {xs:List α} {e:α} {te:TypeId} [i0:Oc c L x (Pd.rep (En.slice E) xs)] [i1:Oc c L y (Pd.rep (En.int k) a)] [i2:Ud P t (.slice te)] [i3:Tq P te E]:TH (at? xs a=some e) c P ops ⟨d,.indexAddr t x y,ty,ps,af,none⟩ L (Pd.ptr E e):=⟨fun hr hc=>zdj (i0.h hc) (i1.h hc) hr i2.h i3.h rfl rfl⟩
instance to60 {α:Type} {E:En α} {xs:List α} {e:α} {N te te':Nat} {og:Option Nat} [i0:Or c L x E N te' og xs] [i1:Oc c L y (Pd.rep (En.int k) a)] [i2:Ud P t (.slice te)] [i3:Tq P te E]:TH (at? xs a=some e) c P ops ⟨d,.indexAddr t x y,ty,ps,af,none⟩ L (Pd.optr E N og (a.toNat*E.sz) e):=⟨fun hr hc=>t_idxo (i0.h hc) (i1.h hc) hr i2.h i3.h rfl rfl⟩
instance to61 {v:Str} {e:Int} [i0:Oc c L x (Pd.rep En.str v)] [i1:Oc c L y (Pd.rep (En.int k) a)] [i2:Ud P t .string]:TH (zhl v a=some e) c P ops ⟨d,.index t x y,ty,ps,af,none⟩ L (Pd.rep (En.int .u8) e):=⟨fun hr hc=>t_sidx (i0.h hc) (i1.h hc) hr i2.h rfl rfl⟩
instance toc {f:FuncId} {xs:List Operand} {qs:List Pd} {q:Pd} {ats:Array TypeId} [i:Oz c L xs qs]:TH (Fn P f qs (Rq q)) c P ops ⟨d,.call { callee:=.value (.func f),args:=xs.toArray,argTypes:=ats },ty,ps,af,none⟩ L q:=⟨fun hf hc=>zx hf (i.h hc) rfl rfl⟩
class Gd (l:List Oper) (j:Nat) (d:outParam Nat):Prop where
 h:(l[j]?).bind (·.dst)=some d
instance gd0 {l:List Oper} {d:Nat} {op:Op} {g:Option (Nat × Bool)}:Gd (⟨some d,op,ty,ps,af,g⟩::l) 0 d:=⟨rfl⟩
instance gd1 {l:List Oper} {o:Oper} {j d:Nat} [h:Gd l j d]:Gd (o::l) (j+1) d:=⟨by simpa using h.h⟩
theorem Gd.arr {l:List Oper} {j d:Nat} (h:Gd l j d):((l.toArray)[j]?).bind (·.dst)=some d:=by simpa using h.h
section
variable {l : List Oper} {j e : Nat} {o : Op} {want v : Bool} {q : Pd} {c0 r r' p : Prop} [g : Gd l j e]
include g
instance tg1 [k:Lx L e (Pd.rep En.bool v)] [i:TO (v=want) P l.toArray ⟨d,o,ty,ps,af,none⟩ L q r] [z:Gi (v=want) r r']:TO True P l.toArray ⟨d,o,ty,ps,af,some (j,want)⟩ L (Pd.when (v=want) q) r':=⟨fun hr _=>zbu rfl g.arr k.h fun hc=>i.h (z.h hr hc) hc⟩
instance tg2 [k:Lx L e (Pd.when c0 (Pd.rep En.bool v))] [i:TO (c0∧v=want) P l.toArray ⟨d,o,ty,ps,af,none⟩ L q r] [z:Gi (c0∧v=want) r r']:TO True P l.toArray ⟨d,o,ty,ps,af,some (j,want)⟩ L (Pd.when (c0∧v=want) q) r':=⟨fun hr _=>t_g rfl g.arr k.h fun hc=>i.h (z.h hr hc) hc⟩
instance th1 [k:Lx L e (Pd.rep En.bool v)] [i:TH p (v=want) P l.toArray ⟨d,o,ty,ps,af,none⟩ L q]:TH (v=want→p) True P l.toArray ⟨d,o,ty,ps,af,some (j,want)⟩ L (Pd.when (v=want) q):=⟨fun hr _=>zbu rfl g.arr k.h fun hc=>i.h (hr hc) hc⟩
end
end
theorem rr {r:Prop} (h:r:=by first | exact trivial | assumption | exact Dis.symm (by assumption) | exact And.intro rr rr | exact fun _=>rr | exact Dis.none | exact Dis.symm Dis.none | decide):r:=h
class Sb (q:Pd):Prop where
 h:∀b,¬ q.own b
instance sb_rep {α:Type} {E:En α} {x:α}:Sb (Pd.rep E x):=⟨fun _ h=>h⟩
instance sb_ptr {α:Type} {E:En α} {x:α}:Sb (Pd.ptr E x):=⟨fun _ h=>h⟩
instance sb_any:Sb Pd.any:=⟨fun _ h=>h⟩
instance sb_nilq {α:Type} {xs:List α}:Sb (Pd.nilq xs):=⟨fun _ h=>h⟩
instance sb_row {α:Type} {E:En α} {N te:Nat} {xs:List α}:Sb (Pd.row E N te none xs):=⟨fun b h=>by cases h⟩
instance sb_when {c:Prop} {q:Pd} [h:Sb q]:Sb (Pd.when c q):=⟨h.h⟩
class Ob (q:Pd) (o:outParam (Option Nat)):Prop where
 h:∀b,q.own b→o=some b
section
variable {α : Type} {E : En α} {N te g i : Nat} {og : Option Nat} {x : α} {xs : List α} {v0 : Value}
instance ob_row:Ob (Pd.row E N te og xs) og:=⟨fun _ h=>h⟩
instance ob_box:Ob (Pd.box E N g x) (some g):=⟨fun _ h=>congrArg some (Eq.symm h)⟩
instance ob_optr:Ob (Pd.optr E N og i x) og:=⟨fun _ h=>h⟩
end
class Ka (o:Option Nat) (L:Lst) (L':outParam Lst) (r:outParam Prop):Prop where
 h:r→Kp (fun b=>o=some b) L L'
section
variable {o o' : Option Nat} {L L' : Lst} {r r' : Prop} {t : Nat} {q : Pd}
instance ka0:Ka o [] [] True:=⟨fun _=>.a0⟩
instance (priority:=1100) ka1 [s:Sb q] [k:Ka o L L' r]:Ka o ((t,q)::L) ((t,q)::L') r:=⟨fun hr=>.ak (fun b hb=>(s.h b hb).elim) (k.h hr)⟩
instance (priority:=1050) ka2 [s:Ob q o] [k:Ka o L L' r]:Ka o ((t,q)::L) ((t,Pd.any)::L') r:=⟨fun hr=>.ad (k.h hr)⟩
instance ka3 [s:Ob q o'] [k:Ka o L L' r] [z:Cj (Dis o' o) r r']:Ka o ((t,q)::L) ((t,q)::L') r':=⟨fun hr=>.ak (fun b hb e=>(z.h hr).1 b (s.h b hb) e) (k.h (z.h hr).2)⟩
instance (priority:=low) ka4 [k:Ka o L L' r]:Ka o ((t,q)::L) ((t,Pd.any)::L') r:=⟨fun hr=>.ad (k.h hr)⟩
theorem ka [i:Ka o L L' r] (hr:r:=by exact rr):Kp (fun b=>o=some b) L L':=i.h hr
variable {p p' : Pd}
end
section
variable {P : Program} {ops : Array Oper} {L L' : Lst} {Q : Exit → Act → World → Prop} {rest : List Oper} {M : Nat → Prop} {n : Nat} {s0 : St} {a : Act} {s : St}
theorem Has.kk (h:Has M n s0 a s L) (hk:Kp (fun _=>False) L L':=by repeat (first | refine .cons rfl (fun _ _ h=>h) ?_ | exact .nil)):Has M n s0 a s L':=h.keep hk
inductive TSq (P:Program) (ops:Array Oper) (n:Nat):List Oper→List Oper→Lst→Lst→Prop
 | nil {l:List Oper} {L:Lst}:TSq P ops n l l L L
 | cons {o:Oper} {l l':List Oper} {L L':Lst} {q:Pd} {d:Nat} (h:T P ops o L q) (hd:o.dst=some d) (hn:Nat.blt d n=true) (h2:TSq P ops n l l' ((d,q)::L) L'):TSq P ops n (o::l) l' L L'
theorem TSq.go {l l':List Oper} (h:TSq P ops n l l' L L'):∀{a s},Has M n s0 a s L→(∀a s,Has M n s0 a s L'→wpList P ops Q l' a s.w)→wpList P ops Q l a s.w:=by
 induction h with
 | nil=>intro a s h k;exact k a s h
 | cons h hd hn _ ih=>intro a s hL k;exact st _ h hd hn hL fun a s _ hL=>ih hL k
class TL (P:Program) (ops:Array Oper) (n m:Nat) (p:Prop) (l:List Oper) (L:Lst) (l':outParam (List Oper)) (L':outParam Lst) (r:outParam Prop):Prop where
 h:p→r→TSq P ops n l l' L L'
section
variable {o : Op} {l l' : List Oper} {q : Pd} {d m : Nat} {r1 r2 r p p1 : Prop} {ty : TypeId} {ps : String} {af : Array Edge} {g : Option (Nat × Bool)}
instance tl0:TL P ops n 0 True l L l L True:=⟨fun _ _=>.nil⟩
instance tl1 [i:TO True P ops ⟨some d,o,ty,ps,af,g⟩ L q r1] [e:Ev (Nat.ble (d+1) n) true] [k:TL P ops n m p l ((d,q)::L) l' L' r2] [z:Cj r1 r2 r]:TL P ops n (m+1) p (⟨some d,o,ty,ps,af,g⟩::l) L l' L' r:=⟨fun hp hr=>.cons (i.h (z.h hr).1 trivial) rfl e.h (k.h hp (z.h hr).2)⟩
instance tl2 [i:TH p1 True P ops ⟨some d,o,ty,ps,af,g⟩ L q] [e:Ev (Nat.ble (d+1) n) true] [k:TL P ops n m p l ((d,q)::L) l' L' r]:TL P ops n (m+1) (p1∧p) (⟨some d,o,ty,ps,af,g⟩::l) L l' L' r:=⟨fun hp hr=>.cons (i.h hp.1 trivial) rfl e.h (k.h hp.2 hr)⟩
instance (priority:=high) tl3 {α:Type} {E:En α} {x y:α} [i:TO True P ops ⟨some d,o,ty,ps,af,g⟩ L (Pd.rep E y) r1] [e:Ev (Nat.ble (d+1) n) true] [k:TL P ops n m p l ((d,Pd.rep E x)::L) l' L' r2] [z:Cj r1 r2 r]:TL P ops n (m+1) (x=y∧p) (⟨some d,o,ty,ps,af,g⟩::l) L l' L' r:=⟨fun hp hr=>.cons (by rw [hp.1];exact i.h (z.h hr).1 trivial) rfl e.h (k.h hp.2 (z.h hr).2)⟩
end
theorem sl {l l':List Oper} {r p:Prop} (m:Nat) (hp:p) (hL:Has M n s0 a s L) (k:∀a s,Has M n s0 a s L'→wpList P ops Q l' a s.w) [i:TL P ops n m p l L l' L' r] (hr:r:=by exact rr):wpList P ops Q l a s.w:=(i.h hp hr).go hL k
theorem sA {l l':List Oper} {r:Prop} (m:Nat) (hL:Has M n s0 a s L) (k:∀a s, Has M n s0 a s L'→wpList P ops Q l' a s.w) [i:TL P ops n m True l L l' L' r] (hr:r := by exact rr):wpList P ops Q l a s.w := sl m trivial hL k hr
theorem sv {o:Oper} {q:Pd} {d:Nat} (h:T P ops o L q) (hL:Has M n s0 a s L) (k:∀a' s',Has M n s0 a' s' ((d,q)::L)→wpList P ops Q rest a' s'.w) (hd:o.dst=some d:=by rfl) (hn:Nat.blt d n=true:=by rfl):wpList P ops Q (o::rest) a s.w:=st d h hd hn hL fun a s _ h=>k a s h
theorem sno {α:Type} (E:En α) (te:Nat) {d:Nat} {o:Oper} (hL:Has M n s0 a s L) (k:∀a' s',Has M n s0 a' s' ((d,Pd.row E s0.w.heap.size te none ([]:List α))::L)→wpList P ops Q rest a' s'.w) (ho:o.op = .move (.const (.slice none 0 0))∨o.op = .assign (.const (.slice none 0 0)):=by first | exact .inr rfl | exact .inl rfl) (hg:o.guard=none:=by rfl) (hd:o.dst=some d:=by rfl) (hn:Nat.blt d n=true:=by rfl):wpList P ops Q (o::rest) a s.w:=sv (ho.elim (fun h=>ze o_nil h hg) fun h=>zg o_nil h hg) hL k hd hn
theorem pp {a b:Prop} (h:a) (k:b):a∧b:=⟨h,k⟩
theorem p1 {a:Prop} (h:a):a∧True := ⟨h, trivial⟩
variable {b : Code} {id : Nat} {l : List Oper}
theorem rs (h:wpList P l.toArray (Exit.then (b.wp P Q) Q) l a s.w):(Code.seq (Code.region id l.toArray false) b).wp P Q a s.w:=wp_seq (rg h)
theorem es (h:b.wp P Q a s.w):wpList P ops (Exit.then (b.wp P Q) Q) [] a s.w:=h
theorem ra {r p:Prop} (m:Nat) (hp:p) (hL:Has M n s0 a s L) (k:∀a s,Has M n s0 a s L'→b.wp P Q a s.w) [i:TL P l.toArray n m p l L [] L' r] (hr:r:=by exact rr):(Code.seq (Code.region id l.toArray false) b).wp P Q a s.w:=rs ((i.h hp hr).go hL fun a s h=>es (k a s h))
theorem rA (m:Nat) (hL:Has M n s0 a s L) (k:∀a s, Has M n s0 a s L'→b.wp P Q a s.w) {r:Prop} [i:TL P l.toArray n m True l L [] L' r] (hr:r := by exact rr):(Code.seq (Code.region id l.toArray false) b).wp P Q a s.w := ra m trivial hL k hr
theorem sB {α:Type} {E:En α} {x0 x1:α} {g:Nat} {y:Operand} {t:TypeId} {o:Oper} (c:Nat) (hL:Has M n s0 a s L) (k:∀s', Has M n s0 a s' ((c, Pd.box E s0.w.heap.size g x1)::L')→wpList P ops Q rest a s'.w) (ho:o.op = .store t (.tmp c) y := by rfl) (hc:lk L c=some (Pd.box E s0.w.heap.size g x0) := by rfl) [hy:Oc True L y (Pd.rep E x1)] [ht:Tq P t E] (hg:o.guard=none := by rfl) (hd:o.dst=none := by rfl) (hk:Kp (fun b => some g=some b) L L' := by exact ka):wpList P ops Q (o::rest) a s.w := zed c hL hc (hy.h trivial) ht.h ho hg hd hk k
@[reducible] def bnd (e:Edge):Bool:=match e.ground with
 | .textOnly _=>false
 | .gcOnly _=>false
 | _=>true
theorem bnd_eq (e:Edge):Region.binds .any e=bnd e:=by
 unfold Region.binds bnd;cases e.ground <;> rfl
@[reducible] def nthR:Lst→Nat→Option (Nat × Pd)
 | [],_=>none
 | x::_,0=>some x
 | _::r,k+1=>nthR r k
@[reducible] def depA (i:Nat) (A L:Lst):List Edge→Lst
 | []=>L
 | e::r=>match bnd e,nthR A (Nat.sub (Nat.sub i 1) e.on) with
  | true,some x=>x::depA i A L r
  | _,_=>depA i A L r
inductive AA (P:Program) (ops:Array Oper) (L:Lst):Nat→Lst→List Oper→List Pd→Lst→Prop
 | nil {i:Nat} {A:Lst} {l:List Oper}:AA P ops L i A l [] A
 | cons {i:Nat} {A A':Lst} {o:Oper} {l:List Oper} {q:Pd} {qs:List Pd} {d:Nat} (h:T P ops o (depA i A L o.after.toList) q) (hd:o.dst=some d) (h2:AA P ops L (i+1) ((d,q)::A) l qs A'):AA P ops L i A (o::l) (q::qs) A'
theorem nthR_newL {ops:Array Oper} {qs:List Pd} {L:Lst}:∀{i:Nat},(∀j,j<i→∃d q,(ops[j]?).bind (·.dst)=some d∧qs[j]?=some q)→∀j d q,j<i→(ops[j]?).bind (·.dst)=some d→qs[j]?=some q→nthR (zgn ops qs i L) (Nat.sub (Nat.sub i 1) j)=some (d,q)
 | 0,_,j,d,q,hj,_,_=>by omega
 | i+1,hall,j,d,q,hj,hd,hq=>by
  obtain ⟨d',q',h1,h2⟩:=hall i (by omega);unfold zgn;rw [h1,h2]
  by_cases hji:j=i
  ·subst hji;rw [h1] at hd;rw [h2] at hq;cases hd;cases hq;have e:Nat.sub (Nat.sub (j+1) 1) j=0:=by show j+1-1-j=0;omega
   rw [e]
  ·have e:Nat.sub (Nat.sub (i+1) 1) j=Nat.sub (Nat.sub i 1) j+1:=by show i+1-1-j=i-1-j+1;omega
   rw [e];exact nthR_newL (fun j hj=>hall j (by omega)) j d q (by omega) hd hq
theorem depA_eq {ops:Array Oper} {qs:List Pd} {L:Lst} {i:Nat} (hall:∀j,j<i→∃d q,(ops[j]?).bind (·.dst)=some d∧qs[j]?=some q):∀es:List Edge,(∀e∈es,Region.binds .any e=true→e.on<i)→depA i (zgn ops qs i L) L es=zfs ops qs es L
 | [],_=>rfl
 | e::r,h=>by
  have ih:=depA_eq (L:=L) hall r fun e he=>h e (by simp [he]);unfold depA zfs;cases hb:Region.binds .any e
  ·rw [bnd_eq] at hb;rw [hb];simp only;exact ih
  ·have hlt:=h e (by simp) hb;obtain ⟨d,q,h1,h2⟩:=hall e.on hlt;rw [bnd_eq] at hb;rw [hb,nthR_newL hall e.on d q hlt h1 h2,h1,h2];simp only;rw [ih]
theorem AA.all {l0:List Oper} {n m:Nat} (hok:zc1 l0.toArray m n (L.map (·.1)) []=true):∀{l:List Oper} {i:Nat} {A A':Lst} {qs:List Pd},AA P l0.toArray L i A l qs A'→∀(pre:List Oper) (qp:List Pd),l0=pre++l→pre.length=i→qp.length=i→(∀j,j<i→∃d q,(l0[j]?).bind (·.dst)=some d∧qp[j]?=some q)→A=zgn l0.toArray (qp++qs) i L →
  zn P l0.toArray (qp++qs) L l qs∧A'=zgn l0.toArray (qp++qs) (i+qs.length) L:=by
 intro l i A A' qs h
 induction h with
 | nil=>intro pre qp h1 h2 h3 h4 h5;exact ⟨zn.nil,by simpa using h5⟩
 | cons h hd h2 ih=>
  rename_i i A A' o l q qs d
  intro pre qp h1 h2 h3 h4 h5;have e1:l0[i]?=some o:=by rw [h1,List.getElem?_append_right (by omega),show i-pre.length=0 by omega];rfl
  have hall:∀j,j<i→∃d q',((l0.toArray)[j]?).bind (·.dst)=some d∧(qp++q::qs)[j]?=some q':=fun j hj=>by
   obtain ⟨d,q',k1,k2⟩:=h4 j hj;exact ⟨d,q',by simpa using k1,by rw [List.getElem?_append_left (by omega)];exact k2⟩
  have hdep:∀e∈o.after.toList,Region.binds .any e=true→e.on<i:=by
   unfold zc1 at hok;rw [Bool.and_eq_true,List.all_eq_true] at hok;have hil:=(List.getElem?_eq_some_iff.1 e1).1;have:=List.all_eq_true.1 hok.2 i (by simpa using hil);rw [show (l0.toArray)[i]?=some o by simpa using e1] at this;simp only [Bool.and_eq_true,List.all_eq_true] at this;intro e he hb;have:=this.1 e he;simp only [hb,Bool.not_true,Bool.false_or] at this;exact Nat.le_of_ble_eq_true this
  have e2:=ih (pre++[o]) (qp++[q]) (by rw [h1,List.append_assoc];rfl) (by simp [h2]) (by simp [h3]) (fun j hj=>by
   by_cases hji:j=i
   ·subst hji;exact ⟨d,q,by rw [e1];exact hd,by rw [List.getElem?_append_right (by omega),show j-qp.length=0 by omega];rfl⟩
   ·obtain ⟨d,q',k1,k2⟩:=h4 j (by omega);exact ⟨d,q',k1,by rw [List.getElem?_append_left (by omega)];exact k2⟩) (by
   rw [List.append_assoc];show (d,q)::A=zgn l0.toArray (qp++q::qs) (i+1) L;unfold zgn;have k1:((l0.toArray)[i]?).bind (·.dst)=some d:=by rw [show (l0.toArray)[i]?=some o by simpa using e1];exact hd
   have k2:(qp++q::qs)[i]?=some q:=by rw [List.getElem?_append_right (by omega),show i-qp.length=0 by omega];rfl
   rw [k1,k2,h5])
  rw [List.append_assoc] at e2;refine ⟨zn.cons ?_ e2.1, ?_⟩
  ·rw [← depA_eq hall _ hdep,← h5];exact h
  ·rw [e2.2];show zgn l0.toArray (qp++q::qs) (i+1+qs.length) L=zgn l0.toArray (qp++q::qs) (i+(q::qs).length) L;rw [List.length_cons];congr 1;omega
class TA (P:Program) (ops:Array Oper) (L:Lst) (i m:Nat) (p:Prop) (A:Lst) (l:List Oper) (qs:outParam (List Pd)) (A':outParam Lst) (r:outParam Prop):Prop where
 h:p→r→AA P ops L i A l qs A'
section
variable {o : Op} {l : List Oper} {q : Pd} {qs : List Pd} {A A' : Lst} {d i m : Nat} {r1 r2 r p p1 : Prop} {ty : TypeId} {ps : String} {af : List Edge} {g : Option (Nat × Bool)}
instance ta0:TA P ops L i 0 True A l [] A True:=⟨fun _ _=>.nil⟩
instance ta1 [j:TO True P ops ⟨some d,o,ty,ps,af.toArray,g⟩ (depA i A L af) q r1] [k:TA P ops L (i+1) m p ((d,q)::A) l qs A' r2] [z:Cj r1 r2 r]:TA P ops L i (m+1) p A (⟨some d,o,ty,ps,af.toArray,g⟩::l) (q::qs) A' r:=⟨fun hp hr=>.cons (j.h (z.h hr).1 trivial) rfl (k.h hp (z.h hr).2)⟩
instance ta2 [j:TH p1 True P ops ⟨some d,o,ty,ps,af.toArray,g⟩ (depA i A L af) q] [k:TA P ops L (i+1) m p ((d,q)::A) l qs A' r]:TA P ops L i (m+1) (p1∧p) A (⟨some d,o,ty,ps,af.toArray,g⟩::l) (q::qs) A' r:=⟨fun hp hr=>.cons (j.h hp.1 trivial) rfl (k.h hp.2 hr)⟩
end
class Dp (m:Nat) (l:List Oper) (l':outParam (List Oper)):Prop where
 h:l.drop m=l'
instance dp0 {l:List Oper}:Dp 0 l l:=⟨rfl⟩
instance dp1 {m:Nat} {o:Oper} {l l':List Oper} [h:Dp m l l']:Dp (m+1) (o::l) l':=⟨by rw [List.drop_succ_cons];exact h.h⟩
theorem dp {m:Nat} {l l':List Oper} [i:Dp m l l'] (h:wpList P ops Q l' a s.w):wpList P ops Q (l.drop m) a s.w:=i.h ▸ h
theorem rdx {l':List Oper} {r p:Prop} {qs:List Pd} (m:Nat) (hp:p) (hL:Has M n s0 a s L) (hB:∀a' s',Has M n s0 a' s' L'→wpList P l.toArray Q l' a' s'.w) [i:TA P l.toArray L 0 m p L l qs L' r] [j:Dp m l l'] (hr:r:=by exact rr)
  (hf:P.follows .mixedOrders=true:=by exact zcm) (hok:zc1 l.toArray m n (L.map (·.1)) []=true:=by kernel_rfl) (hq:Nat.beq qs.length m=true:=by rfl) (hm:Nat.ble m l.length=true:=by rfl):(Code.region id l.toArray true).wp P Q a s.w:=by
 have h:=AA.all hok (i.h hp hr) [] [] rfl rfl rfl (fun j hj=>by omega) rfl;refine rda hf m qs hL hok hq hm h.1 fun a s _ hL=>dp (hB a s ?_);have e:=h.2;rw [Nat.zero_add,Nat.eq_of_beq_eq_true hq] at e;rw [e];exact hL
theorem cn {t:Nat} {b:Bool} {x y:Code} {A B:Prop} (hL:Has M n s0 a s L) (h:(b=true→A)∧(b=false→B)) (h1:A→x.wp P Q a s.w) (h2:B→y.wp P Q a s.w) (hl:lk L t=some (Pd.rep En.bool b):=by rfl):(Code.cond (.tmp t) x y).wp P Q a s.w:=cnd hL hl (fun e=>h1 (h.1 e)) (fun e=>h2 (h.2 e))
section
variable {α : Type} {E : En α} {te g : Nat} {og : Option Nat} {xs : List α} {x : α}
theorem fzl (t:Nat) (hL:Has M n s0 a s L) (k:∀s',Has M n s0 a s' ((t,Pd.rep (En.slice E) xs)::L')→wpList P ops Q l a s'.w) (hl:lk L t=some (Pd.row E s0.w.heap.size te og xs):=by rfl) (hk:Kp (fun b=>og=some b) L L':=by exact ka):wpList P ops Q l a s.w:=by
 obtain ⟨s',hw,h⟩:=hL.freeze t hl hk;rw [← hw];exact k s' h
end
theorem lpn {c:Code} (I:Nat→Act→St→Prop) (k0:Nat) (h0:I k0 a s)
  (round:∀k a s,I (k+1) a s→∀K:Act→World→Prop,(∀a' s',I k a' s'→K a' s'.w)→c.wp P (Exit.then K Q) a s.w) (hz:∀a s,I 0 a s→False:=by intro a s h;repeat (obtain ⟨_,h⟩:=h)):(Code.loop c).wp P Q a s.w:=
 lpg I k0 h0 fun k a s h K hK=>match k,h with
  | 0,h=>(hz a s h).elim
  | k+1,h=>round k a s h K fun a' s' h'=>hK k a' s' (Nat.lt_succ_self k) h'
end
end
end Go.Proofs.YtaknifhhnhcchaaDoor.V
namespace Go.Proofs.YtaknifhhnhcchaaDoor.V
open Go
set_option linter.unusedVariables false
set_option maxRecDepth 100000
section
variable {u : Bool} [Dr u]
noncomputable abbrev En.SItem:En SItem:=(En.cat (En.int .i64) (En.cat (En.int .i64) (En.cat (En.int .i64) (En.int .i64))))
noncomputable abbrev EnF111:En (SItem × SItem × Int→Prop):=En.fun Tryd.prog (fun q=>[Pd.rep En.SItem q.1,Pd.rep En.SItem q.2.1]) (fun q=>Rq (Pd.rep (En.int .i64) q.2.2))
noncomputable abbrev En.SNode:En SNode:=(En.cat (En.int .i64) (En.cat (En.int .i64) (En.cat (En.int .i64) (En.cat (En.int .i64) (En.cat (En.int .i64) (En.cat En.cls En.str))))))
noncomputable abbrev En.SDesc:En SDesc:=En.solo (En.slice En.SNode)
noncomputable abbrev En.SBranch:En SBranch:=(En.cat (En.slice En.SItem) (En.int .i64))
theorem ty3:Ty Tryd.prog 3 (En.int .i64):=⟨⟨_,_,rfl,rfl,rfl,rfl,by decide⟩,_,rfl,rfl⟩
theorem ty4:Ty Tryd.prog 4 En.bool:=⟨⟨_,_,rfl,rfl,rfl,rfl,by decide⟩,_,rfl,rfl⟩
theorem ty9:Ty Tryd.prog 9 En.str:=⟨⟨_,_,rfl,rfl,rfl,rfl,by decide⟩,_,rfl,rfl⟩
theorem ty39:Ty Tryd.prog 39 (En.slice En.SNode):=⟨⟨_,_,rfl,rfl,rfl,rfl,by decide⟩,_,rfl,rfl⟩
theorem zeb:Ty Tryd.prog 41 En.SDesc:=⟨⟨_,_,rfl,rfl,rfl,rfl,by decide⟩,_,rfl,rfl⟩
theorem ty43:Ty Tryd.prog 43 (En.slice En.SItem):=⟨⟨_,_,rfl,rfl,rfl,rfl,by decide⟩,_,rfl,rfl⟩
theorem zec:Ty Tryd.prog 47 En.SItem:=⟨⟨_,_,rfl,rfl,rfl,rfl,by decide⟩,_,rfl,rfl⟩
theorem ty51:Ty Tryd.prog 51 En.SBranch:=⟨⟨_,_,rfl,rfl,rfl,rfl,by decide⟩,_,rfl,rfl⟩
theorem ty67:Ty Tryd.prog 67 En.cls:=⟨⟨_,_,rfl,rfl,rfl,rfl,by decide⟩,_,rfl,rfl⟩
theorem ty69:Ty Tryd.prog 69 En.SNode:=⟨⟨_,_,rfl,rfl,rfl,rfl,by decide⟩,_,rfl,rfl⟩
theorem zga:TyZ Tryd.prog 41 En.SDesc ([]:SDesc):=⟨_,_,[.slice none 0 0],rfl,rfl,by rfl,fun _ _=>⟨_,rfl,zei _ _ _⟩⟩
theorem zdw:TyZ Tryd.prog 47 En.SItem ((0,0,0,0):SItem):=⟨_,_,([.int .i64 0]++([.int .i64 0]++([.int .i64 0]++[.int .i64 0]))),rfl,rfl,by rfl,fun _ _=>⟨_,_,rfl,⟨rfl,by decide⟩,⟨_,_,rfl,⟨rfl,by decide⟩,⟨_,_,rfl,⟨rfl,by decide⟩,⟨rfl,by decide⟩⟩⟩⟩⟩
theorem zfj:TyZ Tryd.prog 69 En.SNode ((0,0,0,0,0,(0#256),([]:Str)):SNode):=⟨_,_,([.int .i64 0]++([.int .i64 0]++([.int .i64 0]++([.int .i64 0]++([.int .i64 0]++(ze1 0#256++[.string ⟨#[]⟩])))))),rfl,rfl,by rfl,fun _ _=>⟨_,_,rfl,⟨rfl,by decide⟩,⟨_,_,rfl,⟨rfl,by decide⟩,⟨_,_,rfl,⟨rfl,by decide⟩,⟨_,_,rfl,⟨rfl,by decide⟩,⟨_,_,rfl,⟨rfl,by decide⟩,⟨_,_,rfl,rfl,⟨rfl,by decide⟩⟩⟩⟩⟩⟩⟩⟩
theorem stt41:Stt Tryd.prog 41 [(0,1)]:=⟨_,Tryd.underlying41,by kernel_rfl⟩
theorem zfv:Stt Tryd.prog 47 [(0,1),(1,1),(2,1),(3,1)]:=⟨_,Tryd.underlying47,by kernel_rfl⟩
theorem stt69:Stt Tryd.prog 69 [(0,1),(1,1),(2,1),(3,1),(4,1),(5,4),(9,1)]:=⟨_,Tryd.underlying69,by kernel_rfl⟩
instance ud3:Ud Tryd.prog 3 (.int .i64):=⟨Tryd.underlying3⟩
instance ud5:Ud Tryd.prog 5 (.int .u8):=⟨Tryd.underlying5⟩
instance ud9:Ud Tryd.prog 9 (.string):=⟨Tryd.underlying9⟩
instance ud34:Ud Tryd.prog 34 (.slice 3):=⟨Tryd.underlying34⟩
instance ud39:Ud Tryd.prog 39 (.slice 69):=⟨Tryd.underlying39⟩
instance ud42:Ud Tryd.prog 42 (.slice 47):=⟨Tryd.underlying42⟩
instance ud43:Ud Tryd.prog 43 (.slice 47):=⟨Tryd.underlying43⟩
instance ud52:Ud Tryd.prog 52 (.slice 43):=⟨Tryd.underlying52⟩
instance ud98:Ud Tryd.prog 98 (.array 10 4):=⟨Tryd.underlying98⟩
instance tq3:Tq Tryd.prog 3 (En.int .i64):=⟨ty3⟩
instance tq4:Tq Tryd.prog 4 En.bool:=⟨ty4⟩
instance tq9:Tq Tryd.prog 9 En.str:=⟨ty9⟩
instance tq39:Tq Tryd.prog 39 (En.slice En.SNode):=⟨ty39⟩
instance tq41:Tq Tryd.prog 41 En.SDesc:=⟨zeb⟩
instance tq43:Tq Tryd.prog 43 (En.slice En.SItem):=⟨ty43⟩
instance tq47:Tq Tryd.prog 47 En.SItem:=⟨zec⟩
instance tq67:Tq Tryd.prog 67 En.cls:=⟨ty67⟩
instance tq69:Tq Tryd.prog 69 En.SNode:=⟨ty69⟩
instance fd41_0 {a:SDesc}:Fd Tryd.prog 41 0 En.SDesc a 0 (En.slice En.SNode) a:=⟨_,_,Tryd.underlying41,rfl,(zdk (zk _ _)),rfl,ty39⟩
instance fd47_0 {a:SItem}:Fd Tryd.prog 47 0 En.SItem a 0 (En.int .i64) a.1:=⟨_,_,Tryd.underlying47,rfl,(zu (zk _ _)),rfl,ty3⟩
instance fd47_1 {a:SItem}:Fd Tryd.prog 47 1 En.SItem a 1 (En.int .i64) a.2.1:=⟨_,_,Tryd.underlying47,rfl,(zi (zu (zk _ _)) rfl),rfl,ty3⟩
instance fd47_2 {a:SItem}:Fd Tryd.prog 47 2 En.SItem a 2 (En.int .i64) a.2.2.1:=⟨_,_,Tryd.underlying47,rfl,(zi (zi (zu (zk _ _)) rfl) rfl),rfl,ty3⟩
instance fd47_3 {a:SItem}:Fd Tryd.prog 47 3 En.SItem a 3 (En.int .i64) a.2.2.2:=⟨_,_,Tryd.underlying47,rfl,(zi (zi (zi (zk _ _) rfl) rfl) rfl),rfl,ty3⟩
instance fd51_0 {a:SBranch}:Fd Tryd.prog 51 0 En.SBranch a 0 (En.slice En.SItem) a.1:=⟨_,_,Tryd.underlying51,rfl,(zu (zk _ _)),rfl,ty43⟩
instance fd69_0 {a:SNode}:Fd Tryd.prog 69 0 En.SNode a 0 (En.int .i64) a.1:=⟨_,_,Tryd.underlying69,rfl,(zu (zk _ _)),rfl,ty3⟩
instance fd69_1 {a:SNode}:Fd Tryd.prog 69 1 En.SNode a 1 (En.int .i64) a.2.1:=⟨_,_,Tryd.underlying69,rfl,(zi (zu (zk _ _)) rfl),rfl,ty3⟩
instance fd69_2 {a:SNode}:Fd Tryd.prog 69 2 En.SNode a 2 (En.int .i64) a.2.2.1:=⟨_,_,Tryd.underlying69,rfl,(zi (zi (zu (zk _ _)) rfl) rfl),rfl,ty3⟩
instance fd69_3 {a:SNode}:Fd Tryd.prog 69 3 En.SNode a 3 (En.int .i64) a.2.2.2.1:=⟨_,_,Tryd.underlying69,rfl,(zi (zi (zi (zu (zk _ _)) rfl) rfl) rfl),rfl,ty3⟩
instance fd69_4 {a:SNode}:Fd Tryd.prog 69 4 En.SNode a 4 (En.int .i64) a.2.2.2.2.1:=⟨_,_,Tryd.underlying69,rfl,(zi (zi (zi (zi (zu (zk _ _)) rfl) rfl) rfl) rfl),rfl,ty3⟩
instance fd69_5 {a:SNode}:Fd Tryd.prog 69 5 En.SNode a 5 En.cls a.2.2.2.2.2.1:=⟨_,_,Tryd.underlying69,rfl,(zi (zi (zi (zi (zi (zu (zk _ _)) rfl) rfl) rfl) rfl) rfl),rfl,ty67⟩
instance fd69_6 {a:SNode}:Fd Tryd.prog 69 6 En.SNode a 9 En.str a.2.2.2.2.2.2:=⟨_,_,Tryd.underlying69,rfl,(zi (zi (zi (zi (zi (zi (zk _ _) rfl) rfl) rfl) rfl) rfl) rfl),rfl,ty9⟩
theorem eqi47:EqI Tryd.prog 2 47 En.SItem:=zgr rfl (by kernel_rfl) (by kernel_rfl) rfl (zcn (EqI.up (zdo Tryd.underlying3) (by decide)) ty3 (by kernel_rfl) (by kernel_rfl) (zcn (EqI.up (zdo Tryd.underlying3) (by decide)) ty3 (by kernel_rfl) (by kernel_rfl) (zcn (EqI.up (zdo Tryd.underlying3) (by decide)) ty3 (by kernel_rfl) (by kernel_rfl) (eqfs_last (EqI.up (zdo Tryd.underlying3) (by decide)) ty3 (by kernel_rfl) (by kernel_rfl)))))
theorem eq47:Eqv Tryd.prog 47 En.SItem:=zgq eqi47 (by decide) rfl (by kernel_rfl)
theorem eqi69:EqI Tryd.prog 3 69 En.SNode:=zgr rfl (by kernel_rfl) (by kernel_rfl) rfl (zcn (EqI.up (zdo Tryd.underlying3) (by decide)) ty3 (by kernel_rfl) (by kernel_rfl) (zcn (EqI.up (zdo Tryd.underlying3) (by decide)) ty3 (by kernel_rfl) (by kernel_rfl) (zcn (EqI.up (zdo Tryd.underlying3) (by decide)) ty3 (by kernel_rfl) (by kernel_rfl) (zcn (EqI.up (zdo Tryd.underlying3) (by decide)) ty3 (by kernel_rfl) (by kernel_rfl) (zcn (EqI.up (zdo Tryd.underlying3) (by decide)) ty3 (by kernel_rfl) (by kernel_rfl) (zcn (EqI.up (eqi_cls Tryd.underlying67 Tryd.underlying65 (by kernel_rfl)) (by decide)) ty67 (by kernel_rfl) (by kernel_rfl) (eqfs_last (EqI.up (eqi_str Tryd.underlying9) (by decide)) ty9 (by kernel_rfl) (by kernel_rfl))))))))
theorem eq69:Eqv Tryd.prog 69 En.SNode:=zgq eqi69 (by decide) rfl (by kernel_rfl)
end
end Go.Proofs.YtaknifhhnhcchaaDoor.V
namespace Go.Proofs.YtaknifhhnhcchaaDoor.V
open Go
set_option linter.unusedVariables false
def zb.j1 (r_:(List SItem)) (newslice8:(List SItem)):Prop:=r_=newslice8
def zb.l1 (slices_:(List (List SItem))) (X1:(List SItem)→Prop):Nat→(List SItem)→Int→Prop
 | 0,_,_=>False
 | k_0+1,newslice11,v13=>((decide (v13<(slices_.length:Int)))=true→∃e19:(List SItem),at? slices_ v13=some e19∧(newslice11.length+e19.length≤2147483648)∧(InR .i64 (v13+1))∧zb.l1 slices_ X1 k_0 (newslice11++e19) (v13+1))∧((decide (v13<(slices_.length:Int)))=false→X1 newslice11)
def zb.j2 (slices_:(List (List SItem))) (r_:(List SItem)) (size2:Int):Prop:=∃r4:(List SItem),zbv [] size2 r4∧∃k14,zb.l1 slices_ (zb.j1 r_) k14 r4 0
def zb.l2 (slices_:(List (List SItem))) (X2:Int→Prop):Nat→Int→Int→Prop
 | 0,_,_=>False
 | k_0+1,size24,v25=>((decide (v25<(slices_.length:Int)))=true→∃e31:(List SItem),at? slices_ v25=some e31∧(InR .i64 (size24+(e31.length:Int)))∧((decide (size24+(e31.length:Int)<0))=true→False)∧((decide (size24+(e31.length:Int)<0))=false→(InR .i64 (v25+1))∧zb.l2 slices_ X2 k_0 (size24+(e31.length:Int)) (v25+1)))∧((decide (v25<(slices_.length:Int)))=false→X2 size24)
def zb (slices_:(List (List SItem))) (r_:(List SItem)):Prop:=∃k26,zb.l2 slices_ (zb.j2 slices_ r_) k26 0 0
def zb4 (x_:Int) (r_:Bool):Prop:=r_=(x_ != x_)
def zbi (x_:Int) (y_:Int) (r_:Int):Prop:=∃r1:Bool,zb4 x_ r1∧∃r3:Bool,zb4 y_ r3∧((r1)=true→((r3)=true→r_=0)∧((r3)=false→r_=(-1)))∧((r1)=false→((r3)=true→r_=1)∧((r3)=false→((decide (x_<y_))=true→r_=(-1))∧((decide (x_<y_))=false→((decide (y_<x_))=true→r_=1)∧((decide (y_<x_))=false→r_=0))))
def za.j1 (s1_:(List SItem)) (s2_:(List SItem)) (r_:Int):Prop:=((decide ((s1_.length:Int)<(s2_.length:Int)))=true→r_=(-1))∧((decide ((s1_.length:Int)<(s2_.length:Int)))=false→r_=0)
def za.l1 (s1_:(List SItem)) (s2_:(List SItem)) (cmp_:(SItem × SItem × Int→Prop)) (r_:Int) (X1:Prop):Nat→Int→Prop
 | 0,_=>False
 | k_0+1,v4=>((decide (v4<(s1_.length:Int)))=true→∃e10:SItem,at? s1_ v4=some e10∧((decide ((s2_.length:Int)≤v4))=true→r_=1)∧((decide ((s2_.length:Int)≤v4))=false→∃e14:SItem,at? s2_ v4=some e14∧∃r18:Int,cmp_ (e10,e14,r18)∧(((r18 != 0))=true→r_=r18)∧(((r18 != 0))=false→(InR .i64 (v4+1))∧za.l1 s1_ s2_ cmp_ r_ X1 k_0 (v4+1))))∧((decide (v4<(s1_.length:Int)))=false→X1)
def za (s1_:(List SItem)) (s2_:(List SItem)) (cmp_:(SItem × SItem × Int→Prop)) (r_:Int):Prop:=∃k5,za.l1 s1_ s2_ cmp_ r_ (za.j1 s1_ s2_ r_) k5 0
def zbh.j1 (r_:Int):Prop:=r_=0
def zbh.l1 (vals_:(List Int)) (r_:Int) (X1:Prop):Nat→Int→Prop
 | 0,_=>False
 | k_0+1,v3=>((decide (v3<(vals_.length:Int)))=true→∃e9:Int,at? vals_ v3=some e9∧(((e9 != 0))=true→r_=e9)∧(((e9 != 0))=false→(InR .i64 (v3+1))∧zbh.l1 vals_ r_ X1 k_0 (v3+1)))∧((decide (v3<(vals_.length:Int)))=false→X1)
def zbh (vals_:(List Int)) (r_:Int):Prop:=∃k4,zbh.l1 vals_ r_ (zbh.j1 r_) k4 0
def zbf (s_:(List SItem)) (r_:(List SItem)):Prop:=∀b2:Bool,(b2=true→s_=[])→((b2)=true→r_=([]:(List SItem)))∧((b2)=false→(([]:(List SItem)).length+s_.length≤2147483648)∧r_=([]:(List SItem))++s_)
def zcs (s_:Str) (i_:Int) (from_:Int) (to_:Int) (r_:Bool):Prop:=∃c1:Int,(((decide (i_<(s_.length:Int)))=true)→zhl s_ i_=some c1)∧∃b3:Bool,b3=((decide (i_<(s_.length:Int)))&&(decide (from_≤c1)))∧∃c5:Int,(((b3)=true)→zhl s_ i_=some c5)∧r_=(b3&&(decide (c5≤to_)))
def zp.j1 (r_:Bool):Prop:=r_=true
def zp.l1 (s_:Str) (r_:Bool) (X1:Prop):Nat→Int→Prop
 | 0,_=>False
 | k_0+1,i3=>((decide (i3<(s_.length:Int)))=true→∃c8:Int,zhl s_ i3=some c8∧(InR .i64 (i3+1))∧∃r11:Bool,zcs s_ (i3+1) 128 191 r11∧(InR .i64 (i3+2))∧∃r14:Bool,zcs s_ (i3+2) 128 191 r14∧(InR .i64 (i3+3))∧∃r17:Bool,zcs s_ (i3+3) 128 191 r17∧((decide (c8<128))=true→(InR .i64 (i3+1))∧zp.l1 s_ r_ X1 k_0 (i3+1))∧((decide (c8<128))=false→∃b20:Bool,b20=(((decide (194≤c8))&&(decide (c8≤223)))&&r11)∧((b20)=true→(InR .i64 (i3+2))∧zp.l1 s_ r_ X1 k_0 (i3+2))∧((b20)=false→((((c8==224))=true)→InR .i64 (i3+1))∧∃r24:Bool,((((c8==224))=true)→zcs s_ (i3+1) 160 191 r24)∧(((((c8==224)&&r24)&&r14))=true→(InR .i64 (i3+3))∧zp.l1 s_ r_ X1 k_0 (i3+3))∧(((((c8==224)&&r24)&&r14))=false→∃b27:Bool,b27=(((decide (225≤c8))&&(decide (c8≤236)))||(c8==238))∧(((((b27||(c8==239))&&r11)&&r14))=true→(InR .i64 (i3+3))∧zp.l1 s_ r_ X1 k_0 (i3+3))∧(((((b27||(c8==239))&&r11)&&r14))=false→((((c8==237))=true)→InR .i64 (i3+1))∧∃r31:Bool,((((c8==237))=true)→zcs s_ (i3+1) 128 159 r31)∧(((((c8==237)&&r31)&&r14))=true→(InR .i64 (i3+3))∧zp.l1 s_ r_ X1 k_0 (i3+3))∧(((((c8==237)&&r31)&&r14))=false→((((c8==240))=true)→InR .i64 (i3+1))∧∃r35:Bool,((((c8==240))=true)→zcs s_ (i3+1) 144 191 r35)∧((((((c8==240)&&r35)&&r14)&&r17))=true→(InR .i64 (i3+4))∧zp.l1 s_ r_ X1 k_0 (i3+4))∧((((((c8==240)&&r35)&&r14)&&r17))=false→∃b38:Bool,b38=(((decide (241≤c8))&&(decide (c8≤243)))&&r11)∧((((b38&&r14)&&r17))=true→(InR .i64 (i3+4))∧zp.l1 s_ r_ X1 k_0 (i3+4))∧((((b38&&r14)&&r17))=false→((((c8==244))=true)→InR .i64 (i3+1))∧∃r42:Bool,((((c8==244))=true)→zcs s_ (i3+1) 128 143 r42)∧((((((c8==244)&&r42)&&r14)&&r17))=true→(InR .i64 (i3+4))∧zp.l1 s_ r_ X1 k_0 (i3+4))∧((((((c8==244)&&r42)&&r14)&&r17))=false→r_=false)))))))))∧((decide (i3<(s_.length:Int)))=false→X1)
def zp (s_:Str) (r_:Bool):Prop:=∃k4,zp.l1 s_ r_ (zp.j1 r_) k4 0
def zh.j1 (r_:(List SNode)) (out2:(List SNode)):Prop:=r_=out2
def zh.j2 (L1_:(List SNode)→Int→Prop) (out5:(List SNode)) (i7:Int) (n22:SNode):Prop:=(out5.length+[n22].length≤2147483648)∧(InR .i64 (i7+1))∧L1_ (out5++[n22]) (i7+1)
def zh.j3 (L1_:(List SNode)→Int→Prop) (by_:Int) (out5:(List SNode)) (i7:Int) (n18:SNode):Prop:=((((n18.1==4)||(n18.1==5)))=true→(InR .i64 (n18.2.2.1+by_))∧(zh.j2 (L1_) out5 i7) (n18.1,n18.2.1,n18.2.2.1+by_,n18.2.2.2.1,n18.2.2.2.2.1,n18.2.2.2.2.2.1,n18.2.2.2.2.2.2))∧((((n18.1==4)||(n18.1==5)))=false→(zh.j2 (L1_) out5 i7) n18)
def zh.l1 (l_:(List SNode)) (by_:Int) (X1:(List SNode)→Prop):Nat→(List SNode)→Int→Prop
 | 0,_,_=>False
 | k_0+1,out5,i7=>((decide (i7<(l_.length:Int)))=true→∃e13:SNode,at? l_ i7=some e13∧((decide (4≤e13.1))=true→(InR .i64 (e13.2.1+by_))∧(zh.j3 (zh.l1 l_ by_ X1 k_0) by_ out5 i7) (e13.1,e13.2.1+by_,e13.2.2.1,e13.2.2.2.1,e13.2.2.2.2.1,e13.2.2.2.2.2.1,e13.2.2.2.2.2.2))∧((decide (4≤e13.1))=false→(zh.j3 (zh.l1 l_ by_ X1 k_0) by_ out5 i7) e13))∧((decide (i7<(l_.length:Int)))=false→X1 out5)
def zh (l_:(List SNode)) (by_:Int) (r_:(List SNode)):Prop:=∃k8,zh.l1 l_ by_ (zh.j1 r_) k8 ([]:(List SNode)) 0
def zd5 (kind_:Int) (lo_:Int) (hi_:Int) (a_:SDesc) (r_:SDesc):Prop:=∃r4:(List SNode),zh a_ 0 r4∧(InR .i64 ((a_.length:Int)-1))∧(r4.length+[(kind_,(a_.length:Int)-1,0,lo_,hi_,(0#256),([]:Str))].length≤2147483648)∧r_=r4++[(kind_,(a_.length:Int)-1,0,lo_,hi_,(0#256),([]:Str))]
def zd6 (kind_:Int) (a_:SDesc) (b_:SDesc) (r_:SDesc):Prop:=∃r4:(List SNode),zh a_ 0 r4∧∃r6:(List SNode),zh b_ (a_.length:Int) r6∧(r4.length+r6.length≤2147483648)∧(InR .i64 ((a_.length:Int)-1))∧(InR .i64 ((a_.length:Int)+(b_.length:Int)))∧(InR .i64 (((a_.length:Int)+(b_.length:Int))-1))∧((r4++r6).length+[(kind_,(a_.length:Int)-1,((a_.length:Int)+(b_.length:Int))-1,0,0,(0#256),([]:Str))].length≤2147483648)∧r_=(r4++r6)++[(kind_,(a_.length:Int)-1,((a_.length:Int)+(b_.length:Int))-1,0,0,(0#256),([]:Str))]
def zbk.j1 (d_:SDesc) (r_:Bool) (n2:Int):Prop:=∃b4:Bool,b4=((decide ((d_.length:Int)≤100))&&(decide (n2≤2000)))∧r_=b4
def zbk.l1 (d_:SDesc) (X1:Int→Prop):Nat→Int→Int→Prop
 | 0,_,_=>False
 | k_0+1,n6,i7=>∃b12:Bool,b12=((decide (i7<(d_.length:Int)))&&(decide (i7<200)))∧((b12)=true→∃e15:SNode,at? d_ i7=some e15∧(InR .i64 (n6+(e15.2.2.2.2.2.2.length:Int)))∧(InR .i64 (i7+1))∧zbk.l1 d_ X1 k_0 (n6+(e15.2.2.2.2.2.2.length:Int)) (i7+1))∧((b12)=false→X1 n6)
def zbk (d_:SDesc) (r_:Bool):Prop:=∃k8,zbk.l1 d_ (zbk.j1 d_ r_) k8 0 0
def zba.j1 (s_:Str) (r_:Bool):Prop:=∃r3:Bool,(((decide (0<(s_.length:Int)))=true)→zp s_ r3)∧r_=((decide (0<(s_.length:Int)))&&r3)
def zba.l1 (s_:Str) (r_:Bool) (X1:Prop):Nat→Int→Prop
 | 0,_=>False
 | k_0+1,i5=>((decide (i5<(s_.length:Int)))=true→∃c11:Int,zhl s_ i5=some c11∧(((c11==34))=true→r_=false)∧(((c11==34))=false→(InR .i64 (i5+1))∧zba.l1 s_ r_ X1 k_0 (i5+1)))∧((decide (i5<(s_.length:Int)))=false→X1)
def zba (s_:Str) (r_:Bool):Prop:=∃k6,zba.l1 s_ r_ (zba.j1 s_ r_) k6 0
def zf.j1 (n_:(List SNode)→Int→Int→Prop) (l_:(List SNode)) (i_:Int) (r_:Int) (e2:SNode) (want23:SNode):Prop:=(InR .i64 (i_-1))∧∃r27:Int,n_ l_ (i_-1) r27∧(((e2 != want23))=true→r_=(-1))∧(((e2 != want23))=false→r_=r27)
def zf.j2 (n_:(List SNode)→Int→Int→Prop) (l_:(List SNode)) (i_:Int) (r_:Int) (e2:SNode) (v33:Bool):Prop:=((v33)=true→(InR .i64 (i_-1))∧(InR .i64 (i_-1))∧∃r38:Int,n_ l_ (i_-1) r38∧((decide (r38<0))=true→r_=(-1))∧((decide (r38<0))=false→(InR .i64 (r38-1))∧(InR .i64 (r38-1))∧∃r43:Int,n_ l_ (r38-1) r43∧∃b46:Bool,b46=(e2 != (e2.1,r38-1,i_-1,0,0,(0#256),([]:Str)))∧((b46)=true→r_=(-1))∧((b46)=false→r_=r43)))∧((v33)=false→r_=(-1))
def zf.j3 (n_:(List SNode)→Int→Int→Prop) (l_:(List SNode)) (i_:Int) (r_:Int) (e2:SNode) (v18:Bool):Prop:=((v18)=true→(InR .i64 (i_-1))∧(((e2.1==7))=true→∃b30:Bool,b30=((decide (e2.2.2.2.1<0))||(decide (e2.2.2.2.2.1<e2.2.2.2.1)))∧(((b30||(decide (255<e2.2.2.2.2.1))))=true→r_=(-1))∧(((b30||(decide (255<e2.2.2.2.2.1))))=false→(zf.j1 (n_) l_ i_ r_ e2) (e2.1,i_-1,0,e2.2.2.2.1,e2.2.2.2.2.1,(0#256),([]:Str))))∧(((e2.1==7))=false→(zf.j1 (n_) l_ i_ r_ e2) (e2.1,i_-1,0,0,0,(0#256),([]:Str))))∧((v18)=false→(((e2.1==4))=true→(zf.j2 (n_) l_ i_ r_ e2) (e2.1==4))∧(((e2.1==4))=false→(zf.j2 (n_) l_ i_ r_ e2) (e2.1==5)))
def zf.n:Nat→(List SNode)→Int→Int→Prop
 | 0,_,_,_=>False
 | k_+1,l_,i_,r_=>((decide (i_<0))=true→r_=(-1))∧((decide (i_<0))=false→∃e2:SNode,at? l_ i_=some e2∧(((e2.1==1))=true→(((e2 != (e2.1,0,0,0,0,(0#256),([]:Str))))=true→r_=(-1))∧(((e2 != (e2.1,0,0,0,0,(0#256),([]:Str))))=false→r_=i_))∧(((e2.1==1))=false→(((e2.1==2))=true→∃b10:Bool,b10=(e2 != (e2.1,0,0,0,0,e2.2.2.2.2.2.1,([]:Str)))∧((b10)=true→r_=(-1))∧((b10)=false→r_=i_))∧(((e2.1==2))=false→(((e2.1==3))=true→∃r12:Bool,zba e2.2.2.2.2.2.2 r12∧(((!r12))=true→r_=(-1))∧(((!r12))=false→∃b15:Bool,b15=(e2 != (e2.1,0,0,0,0,(0#256),e2.2.2.2.2.2.2))∧((b15)=true→r_=(-1))∧((b15)=false→r_=i_)))∧(((e2.1==3))=false→(((e2.1==6))=true→(zf.j3 (zf.n k_) l_ i_ r_ e2) (e2.1==6))∧(((e2.1==6))=false→(((e2.1==7))=true→(zf.j3 (zf.n k_) l_ i_ r_ e2) (e2.1==7))∧(((e2.1==7))=false→(((e2.1==8))=true→(zf.j3 (zf.n k_) l_ i_ r_ e2) (e2.1==8))∧(((e2.1==8))=false→(zf.j3 (zf.n k_) l_ i_ r_ e2) (e2.1==9))))))))
def zf (l_:(List SNode)) (i_:Int) (r_:Int):Prop:=∃k_,zf.n k_ l_ i_ r_
def zd7 (d_:SDesc) (r_:Bool):Prop:=(((decide (0<(d_.length:Int)))=true)→InR .i64 ((d_.length:Int)-1))∧∃r2:Int,(((decide (0<(d_.length:Int)))=true)→zf d_ ((d_.length:Int)-1) r2)∧r_=((decide (0<(d_.length:Int)))&&(r2==0))
def zd.j1 (i_:Int) (r_:Int) (l2:(List Int)):Prop:=∃e5:Int,at? l2 i_=some e5∧r_=e5
def zd.j2 (L1_:(List Int)→Int→Prop) (l7:(List Int)) (k9:Int) (w20:Int):Prop:=(l7.length+[(min 2 w20)].length≤2147483648)∧(InR .i64 (k9+1))∧L1_ (l7++[(min 2 w20)]) (k9+1)
def zd.j3 (L2_:Int→Int→Prop) (w37:Int) (t38:Int) (p46:Int):Prop:=(InR .i64 (w37+p46))∧(InR .i64 (t38+1))∧L2_ (min 2 (w37+p46)) (t38+1)
def zd.l3 (l7:(List Int)) (e15:SNode) (t38:Int) (X3:Int→Prop):Nat→Int→Int→Prop
 | 0,_,_=>False
 | k_0+1,p51,m52=>((decide (m52<t38))=true→∃e59:Int,at? l7 e15.2.1=some e59∧(InR .i64 (p51*e59))∧(InR .i64 (m52+1))∧zd.l3 l7 e15 t38 X3 k_0 (min 2 (p51*e59)) (m52+1))∧((decide (m52<t38))=false→X3 p51)
def zd.l2 (l7:(List Int)) (e15:SNode) (X2:Int→Prop):Nat→Int→Int→Prop
 | 0,_,_=>False
 | k_0+1,w37,t38=>((decide (t38≤e15.2.2.2.2.1))=true→∃k53,zd.l3 l7 e15 t38 (zd.j3 (zd.l2 l7 e15 X2 k_0) w37 t38) k53 1 0)∧((decide (t38≤e15.2.2.2.2.1))=false→X2 w37)
def zd.l1 (d_:SDesc) (i_:Int) (X1:(List Int)→Prop):Nat→(List Int)→Int→Prop
 | 0,_,_=>False
 | k_0+1,l7,k9=>((decide (k9≤i_))=true→∃e15:SNode,at? d_ k9=some e15∧(((e15.1==1))=true→(zd.j2 (zd.l1 d_ i_ X1 k_0) l7 k9) 1)∧(((e15.1==1))=false→(((e15.1==4))=true→∃e25:Int,at? l7 e15.2.1=some e25∧∃e27:Int,at? l7 e15.2.2.1=some e27∧(InR .i64 (e25*e27))∧(zd.j2 (zd.l1 d_ i_ X1 k_0) l7 k9) (e25*e27))∧(((e15.1==4))=false→(((e15.1==5))=true→∃e30:Int,at? l7 e15.2.1=some e30∧∃e32:Int,at? l7 e15.2.2.1=some e32∧(InR .i64 (e30+e32))∧(zd.j2 (zd.l1 d_ i_ X1 k_0) l7 k9) (e30+e32))∧(((e15.1==5))=false→(((e15.1==6))=true→∃e35:Int,at? l7 e15.2.1=some e35∧((decide (0<e35))=true→(zd.j2 (zd.l1 d_ i_ X1 k_0) l7 k9) 2)∧((decide (0<e35))=false→(zd.j2 (zd.l1 d_ i_ X1 k_0) l7 k9) 1))∧(((e15.1==6))=false→(((e15.1==7))=true→∃k39,zd.l2 l7 e15 (zd.j2 (zd.l1 d_ i_ X1 k_0) l7 k9) k39 0 e15.2.2.2.1)∧(((e15.1==7))=false→(zd.j2 (zd.l1 d_ i_ X1 k_0) l7 k9) 0))))))∧((decide (k9≤i_))=false→X1 l7)
def zd (d_:SDesc) (i_:Int) (r_:Int):Prop:=∃k10,zd.l1 d_ i_ (zd.j1 i_ r_) k10 ([]:(List Int)) 0
def zy.j1 (r_:(Int × Bool)):Prop:=r_=(0,false)
def zy.l1 (d_:SDesc) (r_:(Int × Bool)) (X1:Prop):Nat→Int→Prop
 | 0,_=>False
 | k_0+1,i3=>((decide (i3<(d_.length:Int)))=true→∃e9:SNode,at? d_ i3=some e9∧∃e11:SNode,(((((e9.1==6)||(e9.1==7)))=true)→at? d_ i3=some e11)∧∃r13:Int,(((((e9.1==6)||(e9.1==7)))=true)→zd d_ e11.2.1 r13)∧(((((e9.1==6)||(e9.1==7))&&(r13 != 0)))=true→r_=(i3,true))∧(((((e9.1==6)||(e9.1==7))&&(r13 != 0)))=false→(InR .i64 (i3+1))∧zy.l1 d_ r_ X1 k_0 (i3+1)))∧((decide (i3<(d_.length:Int)))=false→X1)
def zy (d_:SDesc) (r_:(Int × Bool)):Prop:=∃k4,zy.l1 d_ r_ (zy.j1 r_) k4 0
def zc0 (d_:SDesc) (r_:Bool):Prop:=∃r2:Bool,zd7 d_ r2∧(((!r2))=true→r_=false)∧(((!r2))=false→∃r4:(Int × Bool),zy d_ r4∧r_=(!r4.2))
def zbr (x_:SItem) (y_:SItem) (r_:Int):Prop:=∃r1:Int,zbi x_.1 y_.1 r1∧∃r3:Int,zbi x_.2.1 y_.2.1 r3∧∃r5:Int,zbi x_.2.2.1 y_.2.2.1 r5∧∃r7:Int,zbi x_.2.2.2 y_.2.2.2 r7∧∃r9:Int,zbh [r1,r3,r5,r7] r9∧r_=r9
def zc9 (a_:(List SItem)) (b_:(List SItem)) (r_:Int):Prop:=∃r2:Int,zbi (a_.length:Int) (b_.length:Int) r2∧(((r2 != 0))=true→r_=r2)∧(((r2 != 0))=false→∃r4:Int,za a_ b_ (fun q_=>zbr q_.1 q_.2.1 q_.2.2) r4∧r_=r4)
def zv.j1 (r_:(List Int)) (out3:(List Int)):Prop:=r_=out3
def zv.l1 (s_:(List SItem)) (X1:(List Int)→Prop):Nat→(List Int)→Int→Prop
 | 0,_,_=>False
 | k_0+1,out6,i8=>((decide (i8<(s_.length:Int)))=true→∃e14:SItem,at? s_ i8=some e14∧∃e16:SItem,at? s_ i8=some e16∧∃e18:SItem,at? s_ i8=some e18∧∃e20:SItem,at? s_ i8=some e20∧(out6.length+[e14.1,e16.2.1,e18.2.2.1,e20.2.2.2].length≤2147483648)∧(InR .i64 (i8+1))∧zv.l1 s_ X1 k_0 (out6++[e14.1,e16.2.1,e18.2.2.1,e20.2.2.2]) (i8+1))∧((decide (i8<(s_.length:Int)))=false→X1 out6)
def zv (s_:(List SItem)) (r_:(List Int)):Prop:=∃k9,zv.l1 s_ (zv.j1 r_) k9 [(s_.length:Int)] 0
def zo.j1 (r_:Int):Prop:=r_=0
def zo.l1 (r1:(List Int)) (r3:(List Int)) (r_:Int) (X1:Prop):Nat→Int→Prop
 | 0,_=>False
 | k_0+1,i7=>∃b12:Bool,b12=((decide (i7<(r1.length:Int)))&&(decide (i7<(r3.length:Int))))∧((b12)=true→∃e16:Int,at? r1 i7=some e16∧∃e18:Int,at? r3 i7=some e18∧((decide (e16<e18))=true→r_=(-1))∧((decide (e16<e18))=false→∃e20:Int,at? r1 i7=some e20∧∃e22:Int,at? r3 i7=some e22∧((decide (e22<e20))=true→r_=1)∧((decide (e22<e20))=false→(InR .i64 (i7+1))∧zo.l1 r1 r3 r_ X1 k_0 (i7+1))))∧((b12)=false→X1)
def zo (a_:(List SItem)) (b_:(List SItem)) (r_:Int):Prop:=∃r1:(List Int),zv a_ r1∧∃r3:(List Int),zv b_ r3∧∃k8,zo.l1 r1 r3 r_ (zo.j1 r_) k8 0
def zdg (a_:(List SItem)) (b_:(List SItem)) (r_:Bool):Prop:=∃r1:Int,zo a_ b_ r1∧r_=(r1==0)
def zd4 (d_:SDesc) (x_:SItem) (r_:Bool):Prop:=(((x_.1==5))=true→∃b2:Bool,b2=(((x_.2.1==0)&&(x_.2.2.2==0))&&(decide (0≤x_.2.2.1)))∧r_=(b2&&(decide (x_.2.2.1≤65535))))∧(((x_.1==5))=false→∃b5:Bool,b5=((decide (x_.2.1<0))||(decide ((d_.length:Int)≤x_.2.1)))∧((b5)=true→r_=false)∧((b5)=false→∃e7:SNode,at? d_ x_.2.1=some e7∧(((x_.1==1))=true→r_=((x_.2.2.1==0)&&(x_.2.2.2==0)))∧(((x_.1==1))=false→(((x_.1==2))=true→∃b11:Bool,b11=(((e7.1==7)&&(decide (0≤x_.2.2.1)))&&(decide (x_.2.2.1≤x_.2.2.2)))∧r_=(b11&&(decide (x_.2.2.2≤e7.2.2.2.2.1))))∧(((x_.1==2))=false→(((x_.1==3))=true→∃b13:Bool,b13=(((e7.1==3)&&(x_.2.2.2==0))&&(decide (0≤x_.2.2.1)))∧∃b15:Bool,b15=(b13&&(decide (x_.2.2.1<(e7.2.2.2.2.2.2.length:Int))))∧r_=b15)∧(((x_.1==3))=false→(((x_.1==4))=true→∃b17:Bool,b17=(((e7.1==9)&&(x_.2.2.2==0))&&(decide (0≤x_.2.2.1)))∧r_=(b17&&(decide (x_.2.2.1≤255))))∧(((x_.1==4))=false→r_=false))))))
def zbg.j1 (r_:Bool):Prop:=r_=true
def zbg.l1 (d_:SDesc) (s_:(List SItem)) (r_:Bool) (X1:Prop):Nat→Int→Prop
 | 0,_=>False
 | k_0+1,i3=>((decide (i3<(s_.length:Int)))=true→∃e9:SItem,at? s_ i3=some e9∧∃r11:Bool,zd4 d_ e9 r11∧(((!r11))=true→r_=false)∧(((!r11))=false→(InR .i64 (i3+1))∧zbg.l1 d_ s_ r_ X1 k_0 (i3+1)))∧((decide (i3<(s_.length:Int)))=false→X1)
def zbg (d_:SDesc) (s_:(List SItem)) (r_:Bool):Prop:=∃k4,zbg.l1 d_ s_ r_ (zbg.j1 r_) k4 0
end Go.Proofs.YtaknifhhnhcchaaDoor.V
