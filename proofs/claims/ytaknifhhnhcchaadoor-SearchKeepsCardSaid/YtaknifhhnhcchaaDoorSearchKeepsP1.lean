/-
  The texts that the law's proof needs, part 1.
-/
import Derived.BigCall
import Derived.Deep.LoopGhost
import Derived.KernelRfl
import Derived.Laws.AppendOwnNone
import Derived.Laws.StructEq
import Derived.Laws.Tables
import Derived.Lib.AppendIntMem
import Derived.Lib.Hide
import Derived.Lib.ItoaLen
import Derived.Lib.ItoaNum
import Derived.Maps.Keyed
import Derived.OpenShut
import Derived.Orders
import Derived.ProofKit
import Derived.Shelf.LaysM
import Derived.Shelf.SlLaysF0
import Derived.Shelf.Strconv.Itoa3
import Derived.Shelf.Strings.BuilderK
import Derived.Test.YtaknifhhnhcchaaDoorChecked
import Derived.WalkKit

namespace Go.Proofs.YtaknifhhnhcchaaDoor.V
theorem J {α:Sort _}{a:α}:a=a:=rfl
open Go
def gtab:List (Nat × List Value):=[(1,(List.range 20).map fun i=>Value.int .u64 ((10 ^ i:Nat):Int))]
def fidV:Option Nat→Value
 | some f=>.func (.func f) #[] #[]
 | none=>.nilFunc
def Fmst (es:Array MapEntry) (clock:Nat) (ys:List (Int × Option Nat)):Prop:=
 Go.MapKept.Stamped es clock∧es.toList.length=ys.length∧∀(i:Nat) (e:MapEntry) (p:Int × Option Nat),es.toList[i]?=some e→ys[i]?=some p→e.key = .int .i64 p.1∧(-9223372036854775808≤p.1∧p.1≤9223372036854775807)∧e.val=fidV p.2
def gmap:List (Nat × List (Int × Option Nat)):=[]
set_option linter.unusedVariables false
structure St where
 w:World
 X:Nat→Prop
 lt:∀b,X b→b<w.heap.size
class Dr (u:outParam Bool) where
 R:World→World→Prop
 eq:∀{w w':World},w'.drawn=w.drawn→R w w'
 succ:∀{w w':World},w'.drawn=w.drawn+1→R w w'
 trans:∀{a b c:World},R a b→R b c→R a c
instance (priority:=low) dNone:Dr false:=⟨fun _ _=>True,fun _=>trivial,fun _=>trivial,fun _ _=>trivial⟩
theorem DR.kit {w w':World}:dNone.R w w':=trivial
section
variable {u : Bool} [Dr u]
def DR (w w':World):Prop:=Dr.R w w'
theorem DR.eq {w w':World} (h:w'.drawn=w.drawn):DR w w':=Dr.eq h
theorem DR.succ {w w':World} (h:w'.drawn=w.drawn+1):DR w w':=Dr.succ h
theorem DR.trans {a b c:World} (h:DR a b) (k:DR b c):DR a c:=Dr.trans h k
structure Mv (T:Nat→Prop) (s s':St):Prop where
 dr:DR s.w s'.w
 os:s'.w.os=s.w.os
 tape:s'.w.tape=s.w.tape
 output:s'.w.output=s.w.output
 size:s.w.heap.size≤s'.w.heap.size
 blk:∀b,b<s.w.heap.size→¬ T b→s'.w.heap[b]?=s.w.heap[b]?
 tx:∀b,T b→s.X b
 xx:∀b,s'.X b→s.X b∨s.w.heap.size≤b
structure Ex (s s':St):Prop where
 mv:Mv (fun _=>False) s s'
 keep:∀b,s.X b→s'.X b
theorem Mv.refl (T:Nat→Prop) (s:St) (h:∀b,T b→s.X b):Mv T s s:=⟨DR.eq rfl,rfl,rfl,rfl,Nat.le_refl _,fun _ _ _=>rfl,h,fun _ h=>.inl h⟩
theorem Ex.refl (s:St):Ex s s:=⟨Mv.refl _ s (fun _ h=>h.elim),fun _ h=>h⟩
theorem Ex.trans {a b c:St} (h:Ex a b) (k:Ex b c):Ex a c:=
 ⟨⟨h.mv.dr.trans k.mv.dr,k.mv.os.trans h.mv.os,k.mv.tape.trans h.mv.tape,k.mv.output.trans h.mv.output,Nat.le_trans h.mv.size k.mv.size,
  fun i hi hn=>(k.mv.blk i (Nat.lt_of_lt_of_le hi h.mv.size) hn).trans (h.mv.blk i hi hn),fun _ h=>h.elim,
  fun i hi=>(k.mv.xx i hi).elim (fun j=>h.mv.xx i j) (fun j=>.inr (Nat.le_trans h.mv.size j))⟩,fun i hi=>k.keep i (h.keep i hi)⟩
def Gl (s:St):Prop:=(∀p∈gtab,¬ s.X p.1∧∃t fr,s.w.heap[p.1]?=some (.cells p.2.toArray t fr)) ∧
 ∀p∈gmap,¬ s.X p.1∧∃m t fr es clock ys,s.w.heap[p.1]?=some (.cells #[.map (some m)] t fr)∧¬ s.X m∧s.w.heap[m]?=some (.map es clock)∧Fmst es clock ys∧ys.Perm p.2
theorem Gl.mv {T:Nat→Prop} {s s':St} (h:Gl s) (m:Mv T s s'):Gl s':=by
 have key:∀b o,¬ s.X b→s.w.heap[b]?=some o→¬ s'.X b∧s'.w.heap[b]?=some o:=fun b o h1 h2=>by
  have hlt:b<s.w.heap.size:=(Array.getElem?_eq_some_iff.1 h2).1;refine ⟨fun hx=>(m.xx _ hx).elim h1 (fun hk=>by omega), ?_⟩;rw [m.blk _ hlt (fun ht=>h1 (m.tx _ ht))];exact h2
 refine ⟨fun p hp=>?_,fun p hp=>?_⟩
 ·obtain ⟨h1,t,fr,h2⟩:=h.1 p hp;obtain ⟨k1,k2⟩:=key _ _ h1 h2;exact ⟨k1,t,fr,k2⟩
 ·obtain ⟨h1,b,t,fr,es,clock,ys,h2,h3,h4,h5,h6⟩:=h.2 p hp;obtain ⟨k1,k2⟩:=key _ _ h1 h2;obtain ⟨k3,k4⟩:=key _ _ h3 h4;exact ⟨k1,b,t,fr,es,clock,ys,k2,k3,k4,h5,h6⟩
abbrev N0:Nat→Prop:=fun _=>False
structure Fr (M:Nat→Prop) (s s':St):Prop where
 mv:Mv M s s'
 keep:∀b,s.X b→s'.X b
theorem Fr.ex {s s':St} (h:Fr N0 s s'):Ex s s':=⟨h.mv,h.keep⟩
theorem Fr.refl {M:Nat→Prop} {s:St} (h:∀b,M b→s.X b):Fr M s s:=⟨Mv.refl M s h,fun _ h=>h⟩
theorem Fr.trans {M:Nat→Prop} {a b c:St} (h:Fr M a b) (k:Ex b c):Fr M a c:=
 ⟨⟨h.mv.dr.trans k.mv.dr,k.mv.os.trans h.mv.os,k.mv.tape.trans h.mv.tape,k.mv.output.trans h.mv.output,Nat.le_trans h.mv.size k.mv.size,
  fun i hi hn=>(k.mv.blk i (Nat.lt_of_lt_of_le hi h.mv.size) (fun h=>h)).trans (h.mv.blk i hi hn),h.mv.tx,
  fun i hi=>(k.mv.xx i hi).elim (fun j=>h.mv.xx i j) (fun j=>.inr (Nat.le_trans h.mv.size j))⟩,fun i hi=>k.keep i (h.keep i hi)⟩
structure Pd where
 p:St→Value→Prop
 own:Nat→Prop
 mv:∀{T s s' v},Mv T s s'→(∀b,own b→¬ T b∧(s.X b→s'.X b))→p s v→p s' v
theorem Pd.ex {q:Pd} {s s':St} {v:Value} (h:Ex s s') (hq:q.p s v):q.p s' v:=q.mv h.mv (fun b _=>⟨id,h.keep b⟩) hq
def Pd.any:Pd:=⟨fun _ _=>True,fun _=>False,fun _ _ h=>h⟩
def Pd.is (x:Value):Pd:=⟨fun _ v=>v=x,fun _=>False,fun _ _ h=>h⟩
def Pd.when (c:Prop) (q:Pd):Pd:=⟨fun s v=>(c→q.p s v)∧(¬ c→v=undef),q.own,fun h hb hp=>⟨fun hc=>q.mv h hb (hp.1 hc),hp.2⟩⟩
abbrev Lst:=List (Nat × Pd)
def lk:Lst→Nat→Option Pd
 | [],_=>none
 | (d,q)::r,t=>bif Nat.beq d t then some q else lk r t
structure Has (M:Nat→Prop) (n:Nat) (s0:St) (a:Act) (s:St) (L:Lst):Prop where
 size:a.tmps.size=n
 defers:a.defers=[]
 ent:Fr M s0 s
 gl:Gl s0
 at_:∀t q,lk L t=some q→q.p s (a.eval (.tmp t))
theorem Has.gls {M:Nat→Prop} {n:Nat} {s0:St} {a:Act} {s:St} {L:Lst} (h:Has M n s0 a s L):Gl s:=h.gl.mv h.ent.mv
theorem Has.get {M:Nat→Prop} {n:Nat} {s0:St} {a:Act} {s:St} {L:Lst} (h:Has M n s0 a s L) (t:Nat) {q:Pd} (e:lk L t=some q):q.p s (a.eval (.tmp t)):=h.at_ t q e
theorem zco {a:Act} {d n:Nat} {v:Value} (hn:a.tmps.size=n) (hd:Nat.blt d n=true):(a.put (some d) v).eval (.tmp d)=v:=by
 have:d<a.tmps.size:=by rw [hn];exact Nat.le_of_ble_eq_true hd
 simp [Act.eval,Act.put,Array.getD,this]
theorem zda {a:Act} {d t:Nat} {v:Value} (h:d≠t):(a.put (some d) v).eval (.tmp t)=a.eval (.tmp t):=by
 simp [Act.eval,Act.put,Array.getElem?_setIfInBounds_ne h]
theorem zef {d t:Nat} (h:d≠t):Nat.beq d t=false:=by
 rw [← Bool.not_eq_true];exact fun e=>h (Nat.eq_of_beq_eq_true e)
theorem Has.put {M:Nat→Prop} {n:Nat} {s0:St} {a:Act} {s s':St} {L:Lst} (h:Has M n s0 a s L) (e:Ex s s') {d:Nat} (hd:Nat.blt d n=true) {v:Value} {q:Pd} (hq:q.p s' v):
  Has M n s0 (a.put (some d) v) s' ((d,q)::L) where
 size:=by simp [Act.put,h.size]
 defers:=h.defers
 ent:=h.ent.trans e
 gl:=h.gl
 at_:=by
  intro t q' hl;unfold lk at hl
  by_cases ht:d=t
  ·subst ht;simp at hl;subst hl;rw [zco h.size hd];exact hq
  ·have:Nat.beq d t=false:=zef ht;rw [this] at hl;rw [zda ht];exact Pd.ex e (h.at_ t q' hl)
theorem Has.ex {M:Nat→Prop} {n:Nat} {s0:St} {a:Act} {s s':St} {L:Lst} (h:Has M n s0 a s L) (e:Ex s s'):Has M n s0 a s' L where
 size:=h.size
 defers:=h.defers
 ent:=h.ent.trans e
 gl:=h.gl
 at_:=fun t q hl=>Pd.ex e (h.at_ t q hl)
theorem Has.sub {M:Nat→Prop} {n:Nat} {s0:St} {a:Act} {s:St} {L L':Lst} (h:Has M n s0 a s L) (hs:∀t q,lk L' t=some q→q.p s (a.eval (.tmp t))):Has M n s0 a s L':=
 ⟨h.size,h.defers,h.ent,h.gl,hs⟩
theorem Has.cons {M:Nat→Prop} {n:Nat} {s0:St} {a:Act} {s:St} {L:Lst} (h:Has M n s0 a s L) (d:Nat) {q:Pd} (hq:q.p s (a.eval (.tmp d))):Has M n s0 a s ((d,q)::L):=by
 refine ⟨h.size,h.defers,h.ent,h.gl,fun t q' hl=>?_⟩;unfold lk at hl
 by_cases ht:d=t
 ·subst ht;simp at hl;subst hl;exact hq
 ·have:Nat.beq d t=false:=zef ht;rw [this] at hl;exact h.at_ t q' hl
def OpR (P:Program) (ops:Array Oper) (o:Oper) (a:Act) (s:St) (K:Value→St→Prop):Prop:=
 ∀(Q:Exit→Act→World→Prop) (k:Act→World→Prop),(∀v s',K v s'→k (a.put o.dst v) s'.w) →
  (if Region.wanted o (yielded ops a.tmps) then o.wp P a s.w k Q else k (a.put o.dst undef) s.w)
def T (P:Program) (ops:Array Oper) (o:Oper) (L:Lst) (q:Pd):Prop:=
 ∀M n s0 a s,Has M n s0 a s L→OpR P ops o a s (fun v s'=>Ex s s'∧q.p s' v)
theorem OpR.of_run {P:Program} {ops:Array Oper} {o:Oper} {a:Act} {s:St} {K:Value→St→Prop} (hg:o.guard=none) {v:Value} {s':St}
  (h:(execOp a.eval o).run P s.w = .ok (.value v) s'.w) (hK:K v s'):OpR P ops o a s K:=by
 intro Q k hk;simp only [Region.wanted,hg,if_true];unfold Oper.wp;rw [h];exact hk v s' hK
theorem st {P:Program} {ops:Array Oper} {Q:Exit→Act→World→Prop} {rest:List Oper} {o:Oper} {M:Nat→Prop} {n:Nat} {s0:St} {a:Act} {s:St} {L:Lst} {q:Pd} (d:Nat)
  (h:T P ops o L q) (hd:o.dst=some d) (hn:Nat.blt d n=true) (hL:Has M n s0 a s L)
  (k:∀a' s',Ex s s'→Has M n s0 a' s' ((d,q)::L)→wpList P ops Q rest a' s'.w):wpList P ops Q (o::rest) a s.w:=by
 refine wpList_step fun K hK=>?_;refine h M n s0 a s hL Q K fun v s' ⟨e,hq⟩=>hK _ _ ?_;rw [hd];exact k _ s' e (hL.put e hn hq)
theorem sx {P:Program} {ops:Array Oper} {Q:Exit→Act→World→Prop} {rest:List Oper} {o:Oper} {M:Nat→Prop} {n:Nat} {s0:St} {a:Act} {s:St} {L:Lst} {q:Pd} (d:Nat)
  (h:T P ops o L q) (hL:Has M n s0 a s L) (k:∀a' s',Ex s s'→Has M n s0 a' s' ((d,q)::L)→wpList P ops Q rest a' s'.w) (hd:o.dst=some d:=by rfl) (hn:Nat.blt d n=true:=by rfl):wpList P ops Q (o::rest) a s.w:=st d h hd hn hL k
theorem sw {P:Program}{ops:Array Oper}{Q:Exit→Act→World→Prop}{rest:List Oper}{o:Oper}{M:Nat→Prop}{n:Nat}{s0:St}{a:Act}{s:St}{L:Lst}{q:Pd}(d:Nat)
  (h:T P ops o L q) (hL:Has M n s0 a s L) (k:∀a' s',Has M n s0 a' s' ((d,q)::L)→wpList P ops Q rest a' s'.w) (hd:o.dst=some d:=by rfl) (hn:Nat.blt d n=true:=by rfl):wpList P ops Q (o::rest) a s.w:=st d h hd hn hL fun a s _ h=>k a s h
theorem nE {p:Nat→Prop} (b:Nat) (h:False):p b:=h.elim
theorem en' {P:Program} {ops:Array Oper} {Q:Exit→Act→World→Prop} {a:Act} {w:World} (h:Q .normal a w):wpList P ops Q [] a w:=h
theorem rg {P:Program} {id:Nat} {l:List Oper} {Q:Exit→Act→World→Prop} {a:Act} {w:World} (h:wpList P l.toArray Q l a w):(Code.region id l.toArray false).wp P Q a w:=wp_region_lit h
def depL (ops:Array Oper) (qs:List Pd):List Edge→Lst→Lst
 | [],L=>L
 | e::r,L=>match Region.binds .any e,(ops[e.on]?).bind (·.dst),qs[e.on]? with
  | true,some d,some q=>(d,q)::depL ops qs r L
  | _,_,_=>depL ops qs r L
def reach (ops:Array Oper):Nat→Nat→Nat→Bool
 | 0,_,_=>false
 | f+1,i,k=>match ops[i]? with
  | none=>false
  | some o=>(o.after.toList.any fun e=>Region.binds .any e&&Nat.beq e.on k)||(o.after.toList.any fun e=>Region.binds .any e&&reach ops f e.on k)
theorem zdp {ops:Array Oper} {p:Nat→Prop} (hp:∀i o,p i→ops[i]?=some o→∀e∈o.after.toList,Region.binds .any e=true→p e.on):
  ∀(f i k:Nat),reach ops f i k=true→(∀o,ops[i]?=some o→∀e∈o.after.toList,Region.binds .any e=true→p e.on)→p k:=by
 intro f
 induction f with
 | zero=>intro i k h;cases h
 | succ f ih=>
  intro i k h hi;unfold reach at h;cases ho:ops[i]? with
  | none=>rw [ho] at h;cases h
  | some o=>
   simp only [ho,Bool.or_eq_true,List.any_eq_true,Bool.and_eq_true] at h;rcases h with ⟨e,he,hb,hk⟩ | ⟨e,he,hb,hk⟩
   ·rw [← Nat.eq_of_beq_eq_true hk];exact hi o ho e he hb
   ·have:=hi o ho e he hb;exact ih e.on k hk fun o' ho'=>hp e.on o' this ho'
def zcg (ops:Array Oper) (m n:Nat) (ks:List Nat) (F:List Nat):Bool:=
 (F.all fun k=>Nat.blt k m) &&
 (List.range ops.size).all fun i=>match ops[i]? with
  | none=>false
  | some o=>(o.after.toList.all fun e=>!Region.binds .any e||Nat.blt e.on i) &&
   (if i<m then F.contains i||(match o.dst with
    | none=>false
    | some d=>Nat.blt d n&&ks.all (fun t=>!Nat.beq t d)&&(List.range m).all fun j=>Nat.beq j i||!((ops[j]?).bind (·.dst)==some d))
   else (List.range i).all fun k=>F.contains k||reach ops ops.size i k)
theorem zch {ops:Array Oper} {listed:Array Bool} {i:Nat}:i∈Region.ready .any ops listed ↔
  i<ops.size∧listed.getD i true=false∧∃o,ops[i]?=some o∧∀e∈o.after.toList,Region.binds .any e=true→listed.getD e.on false=true:=by
 unfold Region.ready;simp only [List.mem_filter,List.mem_range,Bool.and_eq_true,Bool.not_eq_true'];constructor
 ·rintro ⟨h1,h2,h3⟩;refine ⟨h1,h2, ?_⟩;cases ho:ops[i]? with
  | none=>simp [ho] at h3
  | some o=>
   refine ⟨o,rfl,fun e he hb=>?_⟩;simp only [ho,Option.map_some,Option.getD_some] at h3;rw [← Array.all_toList,List.all_eq_true] at h3;have:=h3 e he;simpa [hb] using this
 ·rintro ⟨h1,h2,o,ho,h3⟩;refine ⟨h1,h2, ?_⟩;simp only [ho,Option.map_some,Option.getD_some];rw [← Array.all_toList,List.all_eq_true];intro e he;cases hb:Region.binds .any e
  ·simp
  ·simp [h3 e he hb]
theorem zc3 {listed:Array Bool} {i k:Nat} {d:Bool} (h:i<listed.size):(listed.setIfInBounds i true).getD k d=if k=i then true else listed.getD k d:=by
 simp only [Array.getD_eq_getD_getElem?,Array.getElem?_setIfInBounds]
 by_cases hk:k=i
 ·subst hk;simp [h]
 ·simp [hk,Ne.symm hk]
theorem zeb {P:Program} {ops:Array Oper} {Q:Exit→Act→World→Prop} {m n:Nat} {ks F:List Nat} (hok:zcg ops m n ks F=true):
  ∀(f k:Nat) (listed:Array Bool) (a:Act) (w:World),k+f=ops.size→m≤k→listed.size=ops.size→(∀i,i<ops.size→listed.getD i true=decide (i<k)) →
   wpOps P ops Q (List.range' k f) a w→wpAny P .any ops Q f listed a w:=by
 unfold zcg at hok;rw [Bool.and_eq_true] at hok;obtain ⟨hF,hok⟩:=hok;rw [List.all_eq_true] at hok hF;intro f
 induction f with
 | zero=>
  intro k listed a w hk hm hs hl h;refine ⟨?_,h⟩;cases hr:Region.ready .any ops listed with
  | nil=>rfl
  | cons x xs=>
   have hx:x∈Region.ready .any ops listed:=by rw [hr];simp
   obtain ⟨h1,h2,_⟩:=zch.1 hx;rw [hl x h1] at h2;simp at h2;omega
 | succ f ih=>
  intro k listed a w hk hm hs hl h;rw [List.range'_succ,wpOps_cons] at h;have hkr:k∈Region.ready .any ops listed:=by
   obtain ⟨o,ho⟩:∃o,ops[k]?=some o:=⟨ops[k]'(by omega),by simp⟩;refine zch.2 ⟨by omega,by rw [hl k (by omega)];simp,o,ho,fun e he hb=>?_⟩;have:=hok k (by simp;omega);simp only [ho,Bool.and_eq_true] at this;have h1:=List.all_eq_true.1 this.1 e he;simp only [hb,Bool.not_true,Bool.false_or] at h1;have h2:e.on<k:=Nat.le_of_ble_eq_true h1;have h3:=hl e.on (by omega);have h4:listed.getD e.on false=listed.getD e.on true:=by simp [Array.getD,hs,show e.on<ops.size by omega]
   rw [h4,h3];simpa using h2
  refine ⟨fun he=>by rw [he] at hkr;simp at hkr,fun i hi=>?_⟩;obtain ⟨h1,h2,o,ho,h3⟩:=zch.1 hi;have hik:¬ i<k:=by rw [hl i h1] at h2;simpa using h2
  have:i=k:=by
   rcases Nat.lt_or_ge k i with hlt | hge
   ·exfalso;have h5:=hok i (by simpa using h1);simp only [ho,Bool.and_eq_true] at h5;have h6:=h5.2;rw [if_neg (by omega),List.all_eq_true] at h6;have h7:=h6 k (by simpa using hlt);have hkF:F.contains k=false:=by
     cases hc:F.contains k
     ·rfl
     ·have:=hF k (by simpa using hc);have:k<m:=Nat.le_of_ble_eq_true this;omega
    rw [hkF,Bool.false_or] at h7;have h8:=zdp (ops:=ops) (p:=fun j=>listed.getD j false=true) (fun j o' hj ho' e he hb=>by
     have hjs:j<ops.size:=by
      rcases Nat.lt_or_ge j ops.size with h | h
      ·exact h
      ·simp [Array.getElem?_eq_none h] at ho'
     have hjk:j<k:=by
      have:listed.getD j false=listed.getD j true:=by simp [Array.getD,hs,hjs]
      rw [this,hl j hjs] at hj;simpa using hj
     have hok2:=hok j (by simpa using hjs);simp only [ho',Bool.and_eq_true] at hok2;have h9:=List.all_eq_true.1 hok2.1 e he;simp only [hb,Bool.not_true,Bool.false_or] at h9;have h10:e.on<j:=Nat.le_of_ble_eq_true h9;have:listed.getD e.on false=listed.getD e.on true:=by simp [Array.getD,hs,show e.on<ops.size by omega]
     rw [this,hl e.on (by omega)];simp;omega) _ i k h7 (fun o' ho'=>by rw [ho] at ho';cases ho';exact h3)
    have h10:listed.getD k false=listed.getD k true:=by simp [Array.getD,hs,show k<ops.size by omega]
    rw [h10,hl k (by omega)] at h8;simp at h8
   ·omega
  subst this;refine wpOp_mono (fun a w hw=>ih (i+1) _ a w (by omega) (by omega) (by simpa using hs) (fun j hj=>?_) hw) h;rw [zc3 (by omega),hl j hj]
  by_cases hj':j=i
  ·simp [hj']
  ·simp only [if_neg hj',decide_eq_decide];omega
theorem depL_has {ops:Array Oper} {qs:List Pd} {M:Nat→Prop} {n:Nat} {s0:St} {a:Act} {s:St} {L:Lst} (hL:Has M n s0 a s L):
  ∀(es:List Edge),(∀e∈es,Region.binds .any e=true→∀d q,(ops[e.on]?).bind (·.dst)=some d→qs[e.on]?=some q→q.p s (a.eval (.tmp d)))→Has M n s0 a s (depL ops qs es L)
 | [],_=>hL
 | e::r,h=>by
  have ih:=depL_has hL r (fun e' he'=>h e' (by simp [he']));unfold depL;split
  ·rename_i d q hb hd hq
   exact ih.cons d (h e (by simp) hb d q hd hq)
  ·exact ih
theorem lk_none {L:Lst} {d:Nat} (h:(L.map (·.1)).all (fun t=>!Nat.beq t d)=true):lk L d=none:=by
 induction L with
 | nil=>rfl
 | cons x r ih=>
  simp only [List.map_cons,List.all_cons,Bool.and_eq_true,Bool.not_eq_true'] at h;unfold lk;rw [h.1];exact ih h.2
def zer (ops:Array Oper) (qs:List Pd):Nat→Lst→Lst
 | 0,L=>L
 | i+1,L=>match (ops[i]?).bind (·.dst),qs[i]? with
  | some d,some q=>(d,q)::zer ops qs i L
  | _,_=>zer ops qs i L
theorem zeq {ops:Array Oper} {qs:List Pd} {M:Nat→Prop} {n:Nat} {s0:St} {a:Act} {s:St} {L:Lst} (hL:Has M n s0 a s L):
  ∀m,(∀i,i<m→∀d q,(ops[i]?).bind (·.dst)=some d→qs[i]?=some q→q.p s (a.eval (.tmp d)))→Has M n s0 a s (zer ops qs m L)
 | 0,_=>hL
 | m+1,h=>by
  have ih:=zeq hL m (fun i hi=>h i (by omega));unfold zer;split
  ·rename_i d q hd hq
   exact ih.cons d (h m (by omega) d q hd hq)
  ·exact ih
theorem rd_key {P:Program} {ops:Array Oper} {Q:Exit→Act→World→Prop} {M:Nat→Prop} {n:Nat} {s0:St} {s:St} {L:Lst} (m:Nat) (qs:List Pd) (F:List Nat)
  (hok:zcg ops m n (L.map (·.1)) F=true) (hq:qs.length=m) (hm:m≤ops.size)
  (hT:∀i o q,i<m→ops[i]?=some o→qs[i]?=some q→F.contains i=false→T P ops o (depL ops qs o.after.toList L) q)
  (hB:∀a' s',Ex s s'→Has M n s0 a' s' (zer ops qs m L)→wpOps P ops Q (List.range' m (ops.size-m)) a' s'.w):
  ∀(f:Nat) (listed:Array Bool) (a:Act) (s':St),listed.size=ops.size→((List.range ops.size).filter (fun i=>!listed.getD i true)).length=f→Ex s s'→Has M n s0 a s' L →
   (∀i o,listed.getD i false=true→ops[i]?=some o→∀e∈o.after.toList,Region.binds .any e=true→listed.getD e.on false=true)→(∀i,i<ops.size→m≤i→listed.getD i true=false) →
   (∀i,i<m→listed.getD i true=true→∀d q,(ops[i]?).bind (·.dst)=some d→qs[i]?=some q→q.p s' (a.eval (.tmp d)))→(∀i∈F,listed.getD i true=true)→wpAny P .any ops Q f listed a s'.w:=by
 have hok':=hok;unfold zcg at hok';rw [Bool.and_eq_true] at hok';obtain ⟨hF,hok'⟩:=hok';rw [List.all_eq_true] at hok';intro f
 induction f with
 | zero=>
  intro listed a s' hs hc e hL' hcl hn hd hl0;have hall:∀i,i<ops.size→listed.getD i true=true:=by
   intro i hi;have:(List.range ops.size).filter (fun i=>!listed.getD i true)=[]:=List.length_eq_zero_iff.1 hc;rw [List.filter_eq_nil_iff] at this;have:=this i (by simpa using hi);simpa using this
  have hmm:m=ops.size:=by
   rcases Nat.lt_or_ge m ops.size with h | h
   ·have:=hn m h (Nat.le_refl _);rw [hall m h] at this;cases this
   ·omega
  refine zeb hok 0 ops.size listed a s'.w (by omega) (by omega) hs (fun i hi=>by rw [hall i hi];simp [hi]) ?_;have:=hB a s' e (zeq hL' m fun i hi=>hd i hi (hall i (by omega)));rw [hmm] at this;simpa using this
 | succ f ih=>
  intro listed a s' hs hc e hL' hcl hn hd hl0
  by_cases hdone:∀i,i<m→listed.getD i true=true
  ·-- the tail
   have hf:f+1=ops.size-m:=by
    rw [← hc];have h1:(List.range ops.size).filter (fun i=>!listed.getD i true)=List.range' m (ops.size-m):=by
     have e1:List.range ops.size=List.range' 0 m++List.range' m (ops.size-m):=by
      rw [List.range_eq_range',show ops.size=m+(ops.size-m) by omega,← List.range'_append_1];simp
     rw [e1,List.filter_append];have e2:(List.range' 0 m).filter (fun i=>!listed.getD i true)=[]:=by
      rw [List.filter_eq_nil_iff];intro i hi;simp at hi;simp [hdone i hi]
     have e3:(List.range' m (ops.size-m)).filter (fun i=>!listed.getD i true)=List.range' m (ops.size-m):=by
      rw [List.filter_eq_self];intro i hi;simp at hi;simp [hn i (by omega) (by omega)]
     rw [e2,e3,List.nil_append]
    rw [h1];simp
   refine zeb hok (f+1) m listed a s'.w (by omega) (Nat.le_refl _) hs (fun i hi=>?_) ?_
   ·by_cases h:i<m
    ·simp [h,hdone i h]
    ·simp [h,hn i hi (by omega)]
   ·rw [hf];exact hB a s' e (zeq hL' m fun i hi=>hd i hi (hdone i hi))
  ·have hex:∃i,i<m∧listed.getD i true=false:=by
    have h1:=Classical.not_forall.1 hdone;obtain ⟨i,hi⟩:=h1;rw [Classical.not_imp] at hi;exact ⟨i,hi.1,by simpa using hi.2⟩
   have hlow:∀i,i∈Region.ready .any ops listed→i<m:=by
    intro i hi;obtain ⟨h1,h2,o,ho,h3⟩:=zch.1 hi;rcases Nat.lt_or_ge i m with h | h
    ·exact h
    ·exfalso;obtain ⟨k,hk,hkl⟩:=hex;have h5:=hok' i (by simpa using h1);simp only [ho,Bool.and_eq_true] at h5;have h6:=h5.2;rw [if_neg (by omega),List.all_eq_true] at h6;have h7:=h6 k (by simp;omega);have hkF:F.contains k=false:=by
      cases hc':F.contains k
      ·rfl
      ·have:=hl0 k (by simpa using hc');rw [this] at hkl;cases hkl
     rw [hkF,Bool.false_or] at h7;have h8:=zdp (ops:=ops) (p:=fun j=>listed.getD j false=true) hcl _ i k h7 (fun o' ho'=>by rw [ho] at ho';cases ho';exact h3);have h10:listed.getD k false=listed.getD k true:=by simp [Array.getD,hs,show k<ops.size by omega]
     rw [h10,hkl] at h8;cases h8
   refine ⟨fun hnil=>?_,fun i hi=>?_⟩
   ·-- the least that isn't done is ready
    exfalso;obtain ⟨k,hk,hmin⟩:=exists_least (p:=fun i=>i<m∧listed.getD i true=false) hex;obtain ⟨o,ho⟩:∃o,ops[k]?=some o:=⟨ops[k]'(by omega),by simp⟩;have:k∈Region.ready .any ops listed:=by
     refine zch.2 ⟨by omega,hk.2,o,ho,fun e he hb=>?_⟩;have h5:=hok' k (by simp;omega);simp only [ho,Bool.and_eq_true] at h5;have h1:=List.all_eq_true.1 h5.1 e he;simp only [hb,Bool.not_true,Bool.false_or] at h1;have h2:e.on<k:=Nat.le_of_ble_eq_true h1;have h4:listed.getD e.on false=listed.getD e.on true:=by simp [Array.getD,hs,show e.on<ops.size by omega]
     rw [h4]
     by_cases h6:listed.getD e.on true=true
     ·exact h6
     ·have:=hmin e.on ⟨by omega,by simpa using h6⟩;omega
    rw [hnil] at this;simp at this
   ·have him:=hlow i hi;obtain ⟨h1,h2,o,ho,h3⟩:=zch.1 hi;obtain ⟨q,hqi⟩:∃q,qs[i]?=some q:=⟨qs[i]'(by omega),by simp⟩;have h5:=hok' i (by simpa using h1);have hiF:F.contains i=false:=by
     cases hc':F.contains i
     ·rfl
     ·have:=hl0 i (by simpa using hc');rw [this] at h2;cases h2
    simp only [ho,Bool.and_eq_true,if_pos him,hiF,Bool.false_or] at h5;obtain ⟨d,hdst⟩:∃d,o.dst=some d:=by
     cases hd':o.dst with
     | none=>rw [hd'] at h5;simp at h5
     | some d=>exact ⟨d,rfl⟩
    have h6:=h5.2;rw [hdst] at h6;simp only [Bool.and_eq_true] at h6;have hdep:Has M n s0 a s' (depL ops qs o.after.toList L):=by
     refine depL_has hL' _ fun e' he' hb d' q' hd' hq'=>?_;have h7:=h3 e' he' hb;have h8:=List.all_eq_true.1 h5.1 e' he';simp only [hb,Bool.not_true,Bool.false_or] at h8;have h9:e'.on<i:=Nat.le_of_ble_eq_true h8;have h10:listed.getD e'.on false=listed.getD e'.on true:=by simp [Array.getD,hs,show e'.on<ops.size by omega]
     exact hd e'.on (by omega) (h10 ▸ h7) d' q' hd' hq'
    have hrun:=hT i o q him ho hqi hiF M n s0 a s' hdep Q (wpAny P .any ops Q f (listed.setIfInBounds i true)) ?_
    ·unfold wpOp;simp only [ho]
     by_cases hw:Region.wanted o (yielded ops a.tmps)=true
     ·rw [if_pos hw] at hrun ⊢;exact .inl hrun
     ·rw [if_neg hw] at hrun ⊢;exact hrun
    ·rintro v s'' ⟨e',hq'⟩;have hfresh:lk L d=none:=lk_none h6.1.2;refine ih _ _ s'' (by simpa using hs) ?_ (e.trans e') ?_ ?_ ?_ ?_ ?_
     ·-- one fewer
      have hnd:((List.range ops.size).filter (fun j=>!listed.getD j true)).Nodup:=List.Nodup.sublist List.filter_sublist List.nodup_range;have hmem:i∈(List.range ops.size).filter (fun j=>!listed.getD j true):=List.mem_filter.2 ⟨by simpa using h1,by rw [h2];rfl⟩;have e1:(List.range ops.size).filter (fun j=>!(listed.setIfInBounds i true).getD j true)=((List.range ops.size).filter (fun j=>!listed.getD j true)).filter (fun j=>j != i):=by
       rw [List.filter_filter];refine List.filter_congr fun j hj=>?_;rw [zc3 (by omega)]
       by_cases hji:j=i <;> simp [hji]
      rw [e1,← List.Nodup.erase_eq_filter hnd,List.length_erase_of_mem hmem,hc];rfl
     ·have hp:=hL'.put e' (d:=d) h6.1.1 hq';rw [hdst];refine hp.sub fun t q'' hl=>hp.at_ t q'' ?_;unfold lk;have:d≠t:=fun he=>by rw [he] at hfresh;rw [hfresh] at hl;cases hl
      rw [zef this];exact hl
     ·intro j o' hj ho' e2 he2 hb2;rw [zc3 (by omega)] at hj ⊢;split
      ·rfl
      ·by_cases hji:j=i
       ·subst hji;rw [ho] at ho';cases ho';exact h3 e2 he2 hb2
       ·rw [if_neg hji] at hj;exact hcl j o' hj ho' e2 he2 hb2
     ·intro j hj hmj;rw [zc3 (by omega),if_neg (by omega)];exact hn j hj hmj
     ·intro j hj hlj d' q'' hd' hq'';rw [hdst]
      by_cases hji:j=i
      ·subst hji;rw [ho,Option.bind_some,hdst] at hd';cases hd';rw [hqi] at hq'';cases hq'';rw [zco hL'.size h6.1.1];exact hq'
      ·rw [zc3 (by omega),if_neg hji] at hlj;have h7:=List.all_eq_true.1 h6.2 j (by simpa using hj);have h8:Nat.beq j i=false:=zef hji;rw [h8,Bool.false_or,hd'] at h7;have:d≠d':=fun he=>by simp [he] at h7
       rw [zda this];exact Pd.ex e' (hd j hj hlj d' q'' hd' hq'')
     ·intro j hj;rw [zc3 (by omega)];split
      ·rfl
      ·exact hl0 j hj
theorem rd {P:Program} {id:Nat} {ops:Array Oper} {Q:Exit→Act→World→Prop} {M:Nat→Prop} {n:Nat} {s0:St} {a:Act} {s:St} {L:Lst} (hf:P.follows .mixedOrders=true) (m:Nat) (qs:List Pd)
  (hL:Has M n s0 a s L) (hok:zcg ops m n (L.map (·.1)) []=true) (hq:qs.length=m) (hm:m≤ops.size)
  (hT:∀i o q,i<m→ops[i]?=some o→qs[i]?=some q→T P ops o (depL ops qs o.after.toList L) q)
  (hB:∀a' s',Ex s s'→Has M n s0 a' s' (zer ops qs m L)→wpOps P ops Q (List.range' m (ops.size-m)) a' s'.w):(Code.region id ops true).wp P Q a s.w:=by
 refine wp_region_any hf ?_;have:=rd_key m qs [] hok hq hm (fun i o q h1 h2 h3 _=>hT i o q h1 h2 h3) hB ops.size (Array.replicate ops.size false) a ⟨{ s.w with drawn:=s.w.drawn+1 },s.X,s.lt⟩ (by simp) ?_ ⟨⟨DR.succ rfl,rfl,rfl,rfl,Nat.le_refl _,fun _ _ _=>rfl,fun _ h=>h.elim,fun _ h=>.inl h⟩,fun _ h=>h⟩ ?_ ?_ ?_ ?_ (fun i h=>by cases h)
 ·exact this
 ·rw [List.filter_eq_self.2]
  ·simp
  ·intro i hi;simp at hi;simp [hi]
 ·exact hL.ex ⟨⟨DR.succ rfl,rfl,rfl,rfl,Nat.le_refl _,fun _ _ _=>rfl,fun _ h=>h.elim,fun _ h=>.inl h⟩,fun _ h=>h⟩
 ·intro i o h;simp [Array.getD] at h
 ·intro i hi _;simp [hi]
 ·intro i hi h;simp [show i<ops.size by omega] at h
def TY (P:Program) (o:Oper) (L:Lst) (q:Pd):Prop:=o.guard=none∧∀M n s0 a s,Has M n s0 a s L→∃v,(∀w,(execOp a.eval o).run P w = .ok (.value v) w)∧q.p s v
theorem rdf {P:Program} {id:Nat} {ops:Array Oper} {Q:Exit→Act→World→Prop} {M:Nat→Prop} {n:Nat} {s0:St} {a:Act} {s:St} {L:Lst} (N:Nat) (hf:P.follows .mixedOrders=true) (hL:Has M n s0 a s L) (hN:ops.size=N)
  (h:∀s',Ex s s'→Has M n s0 a s' L→wpAny P .any ops Q N (Array.replicate N false) a s'.w):(Code.region id ops true).wp P Q a s.w:=by
 refine wp_region_any hf ?_;subst hN;have e:Ex s ⟨{ s.w with drawn:=s.w.drawn+1 },s.X,s.lt⟩:=⟨⟨DR.succ rfl,rfl,rfl,rfl,Nat.le_refl _,fun _ _ _=>rfl,fun _ h=>h.elim,fun _ h=>.inl h⟩,fun _ h=>h⟩;exact h _ e (hL.ex e)
theorem fl_take {P:Program} {ops:Array Oper} {Q:Exit→Act→World→Prop} {M:Nat→Prop} {n:Nat} {s0:St} {a:Act} {s:St} {L:Lst} {f:Nat} {listed:Array Bool} {o:Oper} {q:Pd} (i d:Nat) (hL:Has M n s0 a s L) (hi:ops[i]?=some o) (hs:Region.noSelect ops=true)
  (hf:Region.free .any ops listed i=true) (hr:(Region.ready .any ops listed).contains i=true) (hQ:∀v c a w,Q (.panic c) (a.put (some d) v) w→Q (.panic c) a w) (hT:TY P o L q) (hd:o.dst=some d) (hn:Nat.blt d n=true)
  (k:∀a',Has M n s0 a' s ((d,q)::L)→wpAny P .any ops Q f (listed.setIfInBounds i true) a' s.w):wpAny P .any ops Q (f+1) listed a s.w:=by
 obtain ⟨hg,hT⟩:=hT;obtain ⟨v,hv,hq⟩:=hT M n s0 a s hL;refine wpAny_take hi hs hf hr (fun c a w=>by rw [hd];exact hQ v c a w) (.inl ⟨by simp [Region.wanted,hg],hv⟩) ?_;rw [hd];exact k _ (hL.put (Ex.refl s) hn hq)
def okStart (ops:Array Oper) (listed:Array Bool) (m:Nat) (F:List Nat):Bool:=
 Nat.beq listed.size ops.size&&(List.range ops.size).all fun i=>(listed.getD i true==F.contains i)&&(!F.contains i||(Nat.blt i m&&(match ops[i]? with
  | none=>false
  | some o=>o.after.toList.all fun e=>!Region.binds .any e||F.contains e.on&&Nat.blt e.on ops.size)))
inductive FlOk (ops:Array Oper) (qs:List Pd) (L:Lst):List Nat→Prop
 | nil:FlOk ops qs L []
 | cons {i d:Nat} {o:Oper} {q:Pd} {r:List Nat} (ho:ops[i]?=some o) (hd:o.dst=some d) (hq:qs[i]?=some q) (hl:lk L d=some q) (h:FlOk ops qs L r):FlOk ops qs L (i::r)
theorem FlOk.at {ops:Array Oper} {qs:List Pd} {L:Lst} {F:List Nat} (h:FlOk ops qs L F):∀i∈F,∃o d q,ops[i]?=some o∧o.dst=some d∧qs[i]?=some q∧lk L d=some q:=by
 induction h with
 | nil=>intro i h;cases h
 | cons ho hd hq hl _ ih=>
  intro i hi;rcases List.mem_cons.1 hi with rfl | hi
  ·exact ⟨_,_,_,ho,hd,hq,hl⟩
  ·exact ih i hi
theorem fl_end {P:Program} {ops:Array Oper} {Q:Exit→Act→World→Prop} {M:Nat→Prop} {n:Nat} {s0:St} {a:Act} {s:St} {L:Lst} {f:Nat} {listed:Array Bool} (m:Nat) (qs:List Pd) (F:List Nat) (hL:Has M n s0 a s L)
  (hok:zcg ops m n (L.map (·.1)) F=true) (hst:okStart ops listed m F=true) (hc:((List.range ops.size).filter (fun i=>!listed.getD i true)).length=f) (hfl:FlOk ops qs L F) (hq:qs.length=m) (hm:m≤ops.size)
  (hT:∀i o q,i<m→ops[i]?=some o→qs[i]?=some q→F.contains i=false→T P ops o (depL ops qs o.after.toList L) q)
  (hB:∀a' s',Ex s s'→Has M n s0 a' s' (zer ops qs m L)→wpOps P ops Q (List.range' m (ops.size-m)) a' s'.w):wpAny P .any ops Q f listed a s.w:=by
 unfold okStart at hst;rw [Bool.and_eq_true,List.all_eq_true] at hst;obtain ⟨h1,h2⟩:=hst;have hsz:=Nat.eq_of_beq_eq_true h1;have hg:∀i,i<ops.size→listed.getD i true=F.contains i:=fun i hi=>by
  have:=h2 i (by simpa using hi);rw [Bool.and_eq_true] at this;exact eq_of_beq this.1
 have hgf:∀i,i<ops.size→listed.getD i false=listed.getD i true:=fun i hi=>by simp [Array.getD,hsz,hi]
 have hFm:∀i∈F,i<m:=by
  unfold zcg at hok;rw [Bool.and_eq_true,List.all_eq_true] at hok;exact fun i hi=>Nat.le_of_ble_eq_true (hok.1 i hi)
 refine rd_key m qs F hok hq hm hT hB f listed a s hsz hc (Ex.refl s) hL ?_ ?_ ?_ ?_
 ·intro i o hi ho e he hb;have hlt:i<ops.size:=(Array.getElem?_eq_some_iff.1 ho).1;rw [hgf i hlt,hg i hlt] at hi;have:=h2 i (by simpa using hlt);rw [Bool.and_eq_true,hi,ho] at this;have h3:=this.2;simp only [Bool.not_true,Bool.false_or,Bool.and_eq_true,List.all_eq_true] at h3;have h4:=h3.2 e he;simp only [hb,Bool.not_true,Bool.false_or,Bool.and_eq_true] at h4;have h5:e.on<ops.size:=Nat.le_of_ble_eq_true h4.2;rw [hgf _ h5,hg _ h5];exact h4.1
 ·intro i hi hmi;rw [hg i hi];cases hcF:F.contains i
  ·rfl
  ·have:=hFm i (by simpa using hcF);omega
 ·intro i hi hl d q hd hqi;rw [hg i (by omega)] at hl;obtain ⟨o,d',q',ho,hd',hq',hlk⟩:=hfl.at i (by simpa using hl);rw [ho,Option.bind_some,hd'] at hd;rw [hq'] at hqi;cases hd;cases hqi;exact hL.get _ hlk
 ·intro i hi;have:=hFm i hi;rw [hg i (by omega)];simpa using hi
end
end Go.Proofs.YtaknifhhnhcchaaDoor.V
namespace Go.Proofs.YtaknifhhnhcchaaDoor.V
open Go
set_option linter.unusedVariables false
section
variable {u : Bool} [Dr u]
def zcd (s:St):Nat→Prop:=fun b=>b<s.w.heap.size∧¬ s.X b
def Same (S:Nat→Prop) (w w':World):Prop:=∀b,S b→w'.heap[b]?=w.heap[b]?
structure En (α:Type) where
 sz:Nat
 agg:Bool
 R:World→(Nat→Prop)→List Value→α→Prop
 sc:agg=false→sz=1
 pos:0<sz
 len:∀{w S cs x},R w S cs x→cs.length=sz
 one:∀{w S cs x},R w S cs x→∀u∈cs,u.oneCell'=true
 mono:∀{w S S' cs x},(∀b,S b→S' b)→R w S cs x→R w S' cs x
 move:∀{w w' S cs x},Same S w w'→R w S cs x→R w' S cs x
def En.val {α:Type} (E:En α) (cs:List Value):Value:=bif E.agg then .agg cs.toArray else cs.headD undef
theorem En.val_cells {α:Type} {E:En α} {w S cs x} (h:E.R w S cs x):(E.val cs).cells=cs.toArray:=by
 unfold En.val;cases ha:E.agg
 ·have hl:=E.len h;rw [E.sc ha] at hl
  match cs,hl with
  | [u],_=>
   have h1:=E.one h u (by simp);simp only [cond_false,List.headD_cons];cases u <;> first | rfl | simp [Value.oneCell'] at h1
 ·rfl
theorem En.go {α:Type} (E:En α) {T:Nat→Prop} {s s':St} {cs:List Value} {x:α} (h:Mv T s s') (hR:E.R s.w (zcd s) cs x):E.R s'.w (zcd s') cs x:=
 E.mono (fun b hb=>⟨Nat.lt_of_lt_of_le hb.1 h.size,fun hx=>(h.xx b hx).elim hb.2 (fun hk=>by have:=hb.1;omega)⟩)
  (E.move (fun b hb=>h.blk b hb.1 (fun ht=>hb.2 (h.tx b ht))) hR)
def Pd.rep {α:Type} (E:En α) (x:α):Pd:=
 ⟨fun s v=>∃cs,v=E.val cs∧E.R s.w (zcd s) cs x,fun _=>False,fun h _ ⟨cs,hv,hR⟩=>⟨cs,hv,E.go h hR⟩⟩
def zbs (w:World) (b o:Nat) (cs:List Value):Prop:=∀j u,cs[j]?=some u→w.cell? ⟨b,o+j,none⟩=some u
theorem zbs.same {w w':World} {b o:Nat} {cs:List Value} (h:zbs w b o cs) (hb:w'.heap[b]?=w.heap[b]?):zbs w' b o cs:=
 fun j u hu=>by rw [World.cell?_of_block (w:=w) hb];exact h j u hu
theorem zc0 (b o j:Nat):(⟨b,o,none⟩:Addr).add j=⟨b,o+j,none⟩:=by unfold Addr.add;split <;> simp_all
def Pd.ptr {α:Type} (E:En α) (x:α):Pd:=
 ⟨fun s v=>∃b o cs,v = .pointer (some ⟨b,o,none⟩)∧zcd s b∧zbs s.w b o cs∧E.R s.w (zcd s) cs x,fun _=>False,
  fun {T s s' v} h _ ⟨b,o,cs,hv,hb,hc,hR⟩=>⟨b,o,cs,hv,
   ⟨Nat.lt_of_lt_of_le hb.1 h.size,fun hx=>(h.xx b hx).elim hb.2 (fun hk=>by have:=hb.1;omega)⟩,
   hc.same (h.blk b hb.1 (fun ht=>hb.2 (h.tx b ht))),E.go h hR⟩⟩
def Pd.optr {α:Type} (E:En α) (N:Nat) (og:Option Nat) (o:Nat) (x:α):Pd:=
 ⟨fun s v=>∃g,og=some g∧v = .pointer (some ⟨g,o,none⟩)∧N≤g∧g<s.w.heap.size∧s.X g∧∃cs,zbs s.w g o cs∧E.R s.w (zcd s) cs x,fun b=>og=some b,
  fun {T s s' v} h hb ⟨g,ho,hv,hN,hg,hx,cs,hc,hR⟩=>⟨g,ho,hv,hN,Nat.lt_of_lt_of_le hg h.size,(hb g ho).2 hx,cs,hc.same (h.blk g hg (hb g ho).1),E.go h hR⟩⟩
def Pd.box {α:Type} (E:En α) (N g:Nat) (x:α):Pd:=
 ⟨fun s v=>v = .pointer (some ⟨g,0,none⟩)∧N≤g∧s.X g∧∃cs t,s.w.heap[g]?=some (.cells cs.toArray t (0,0))∧E.R s.w (zcd s) cs x,fun b=>b=g,
  fun {T s s' v} h hb ⟨hv,hN,hx,cs,t,hc,hR⟩=>⟨hv,hN,(hb g rfl).2 hx,cs,t,by
   rw [h.blk g (Array.getElem?_eq_some_iff.1 hc).1 (hb g rfl).1];exact hc,E.go h hR⟩⟩
def InR (k:IntKind) (x:Int):Prop:=k.min≤x∧x≤k.max
instance (k : IntKind) (x : Int) : Decidable (InR k x):=by unfold InR; infer_instance
def En.int (k:IntKind):En Int where
 sz:=1
 agg:=false
 R:=fun _ _ cs x=>cs=[.int k x]∧InR k x
 sc:=fun _=>rfl
 pos:=Nat.one_pos
 len:=by rintro _ _ _ _ ⟨rfl,_⟩;rfl
 one:=by rintro _ _ _ _ ⟨rfl,_⟩ u hu;simp at hu;subst hu;rfl
 mono:=fun _ h=>h
 move:=fun _ h=>h
def En.bool:En Bool where
 sz:=1
 agg:=false
 R:=fun _ _ cs x=>cs=[.bool x]
 sc:=fun _=>rfl
 pos:=Nat.one_pos
 len:=by rintro _ _ _ _ rfl;rfl
 one:=by rintro _ _ _ _ rfl u hu;simp at hu;subst hu;rfl
 mono:=fun _ h=>h
 move:=fun _ h=>h
abbrev Str:=List UInt8
def En.str:En Str where
 sz:=1
 agg:=false
 R:=fun _ _ cs x=>cs=[.string ⟨x.toArray⟩]∧x.length≤9223372036854775807
 sc:=fun _=>rfl
 pos:=Nat.one_pos
 len:=by rintro _ _ _ _ ⟨rfl,_⟩;rfl
 one:=by rintro _ _ _ _ ⟨rfl,_⟩ u hu;simp at hu;subst hu;rfl
 mono:=fun _ h=>h
 move:=fun _ h=>h
theorem zbg {k:IntKind} {x:Int} {s:St} {v:Value}:(Pd.rep (En.int k) x).p s v↔v = .int k x∧InR k x:=
 ⟨fun ⟨_,hv,hc,hr⟩=>by subst hc;exact ⟨hv,hr⟩,fun ⟨hv,hr⟩=>⟨[.int k x],hv,rfl,hr⟩⟩
theorem zbc {x:Bool} {s:St} {v:Value}:(Pd.rep En.bool x).p s v↔v = .bool x:=
 ⟨fun ⟨_,hv,hc⟩=>by cases hc;exact hv,fun hv=>⟨[.bool x],hv,rfl⟩⟩
theorem rep_str {x:Str} {s:St} {v:Value}:(Pd.rep En.str x).p s v↔v = .string ⟨x.toArray⟩∧x.length≤9223372036854775807:=
 ⟨fun ⟨_,hv,hc,hr⟩=>by subst hc;exact ⟨hv,hr⟩,fun ⟨hv,hr⟩=>⟨[.string ⟨x.toArray⟩],hv,rfl,hr⟩⟩
def Opn (L:Lst) (x:Operand) (q:Pd):Prop:=∀M n s0 a s,Has M n s0 a s L→q.p s (a.eval x)
theorem o_t {L:Lst} (t:Nat) {q:Pd} (h:lk L t=some q):Opn L (.tmp t) q:=fun _ _ _ _ _ hL=>hL.get t h
theorem O {L:Lst}(t:Nat){q:Pd}(h:lk L t=some q):Opn L (.tmp t) q:=o_t t h
theorem o_c {L:Lst} {v:Value} {q:Pd} (h:∀s,q.p s v):Opn L (.const v) q:=fun _ _ _ _ s _=>h s
theorem o_i {L:Lst} {k:IntKind} {x:Int} (h:InR k x):Opn L (.const (.int k x)) (Pd.rep (En.int k) x):=o_c fun _=>zbg.2 ⟨rfl,h⟩
theorem oI {L:Lst}{x:Int}(h:InR .i64 x:=by decide):Opn L (.const (.int .i64 x)) (Pd.rep (En.int .i64) x):=o_i h
abbrev Pi (x:Int):Pd:=Pd.rep (En.int .i64) x
theorem o_b {L:Lst} {x:Bool}:Opn L (.const (.bool x)) (Pd.rep En.bool x):=o_c fun _=>zbc.2 rfl
section
variable {P : Program} {ops : Array Oper} {o : Oper} {L : Lst}
theorem T.mk {q:Pd} (hg:o.guard=none) (h:∀M n s0 a s,Has M n s0 a s L→∃v s',(execOp a.eval o).run P s.w = .ok (.value v) s'.w∧Ex s s'∧q.p s' v):T P ops o L q:=
 fun M n s0 a s hL=>by
  obtain ⟨v,s',h1,h2,h3⟩:=h M n s0 a s hL;exact OpR.of_run hg h1 ⟨h2,h3⟩
theorem T.pure {q:Pd} (hg:o.guard=none) (h:∀M n s0 a s,Has M n s0 a s L→∃v,(execOp a.eval o).run P s.w = .ok (.value v) s.w∧q.p s v):T P ops o L q:=
 T.mk hg fun M n s0 a s hL=>let ⟨v,h1,h2⟩:=h M n s0 a s hL;⟨v,s,h1,Ex.refl s,h2⟩
theorem zf {x:Operand} {q:Pd} (h:Opn L x q) (ho:o.op = .move x) (hg:o.guard=none):T P ops o L q:=
 T.pure hg fun M n s0 a s hL=>⟨a.eval x,by unfold execOp;rw [ho];rfl,h M n s0 a s hL⟩
theorem zh {x:Operand} {q:Pd} (h:Opn L x q) (ho:o.op = .assign x) (hg:o.guard=none):T P ops o L q:=
 T.pure hg fun M n s0 a s hL=>⟨a.eval x,by unfold execOp;rw [ho];rfl,h M n s0 a s hL⟩
theorem wrap_in {k:IntKind} {x:Int} (h:InR k x):k.wrap x=x:=by
 unfold InR at h;cases k <;> simp [IntKind.min,IntKind.max,IntKind.signed,IntKind.bits] at h <;> simp [IntKind.wrap,IntKind.signed,IntKind.bits] <;> omega
theorem t_arith {k:IntKind} {x y:Operand} {a b:Int} (op:BinOp) (f:Int→Int→Int) (hf:∀a b,(Op.intArith op k a b:Sem Value)=Pure.pure (.int k (k.wrap (f a b)))) (hop:op = .add∨op = .sub∨op = .mul)
  (hx:Opn L x (Pd.rep (En.int k) a)) (hy:Opn L y (Pd.rep (En.int k) b)) (hr:InR k (f a b)) {t u:TypeId} (ho:o.op = .binOp op t x y u) (hg:o.guard=none):
  T P ops o L (Pd.rep (En.int k) (f a b)):=
 T.pure hg fun M n s0 ac s hL=>by
  have h1:=(zbg.1 (hx M n s0 ac s hL)).1;have h2:=(zbg.1 (hy M n s0 ac s hL)).1;refine ⟨.int k (f a b), ?_,zbg.2 ⟨rfl,hr⟩⟩;unfold execOp;rw [ho];simp only [h1,h2];rcases hop with rfl | rfl | rfl <;> simp [eqGuard,binOp,hf,wrap_in hr]
theorem zb4 {k:IntKind} {x y:Operand} {a b:Int} (hx:Opn L x (Pd.rep (En.int k) a)) (hy:Opn L y (Pd.rep (En.int k) b)) (hr:InR k (a+b)) {t u:TypeId} (ho:o.op = .binOp .add t x y u) (hg:o.guard=none):
  T P ops o L (Pd.rep (En.int k) (a+b)):=t_arith .add (· + ·) (fun _ _=>rfl) (.inl rfl) hx hy hr ho hg
theorem t_sub {k:IntKind} {x y:Operand} {a b:Int} (hx:Opn L x (Pd.rep (En.int k) a)) (hy:Opn L y (Pd.rep (En.int k) b)) (hr:InR k (a-b)) {t u:TypeId} (ho:o.op = .binOp .sub t x y u) (hg:o.guard=none):
  T P ops o L (Pd.rep (En.int k) (a-b)):=t_arith .sub (· - ·) (fun _ _=>rfl) (.inr (.inl rfl)) hx hy hr ho hg
theorem t_cmp {k:IntKind} {x y:Operand} {a b:Int} (op:BinOp) (f:Int→Int→Bool) (hf:(fun a b=>(Op.intCmp op a b:Sem Value))=fun a b=>Pure.pure (.bool (f a b)))
  (hop:op = .lss∨op = .leq∨op = .gtr∨op = .geq∨op = .eql∨op = .neq)
  (hx:Opn L x (Pd.rep (En.int k) a)) (hy:Opn L y (Pd.rep (En.int k) b)) {t u:TypeId} (ho:o.op = .binOp op t x y u) (hg:o.guard=none):
  T P ops o L (Pd.rep En.bool (f a b)):=
 T.pure hg fun M n s0 ac s hL=>by
  have h1:=(zbg.1 (hx M n s0 ac s hL)).1;have h2:=(zbg.1 (hy M n s0 ac s hL)).1;have hf':(Op.intCmp op a b:Sem Value)=Pure.pure (.bool (f a b)):=congrFun (congrFun hf a) b;refine ⟨.bool (f a b), ?_,zbc.2 rfl⟩;unfold execOp;rw [ho];simp only [h1,h2];rcases hop with rfl | rfl | rfl | rfl | rfl | rfl <;> simp [eqGuard,binOp,hf']
theorem zcr {k:IntKind} {x y:Operand} {a b:Int} (hx:Opn L x (Pd.rep (En.int k) a)) (hy:Opn L y (Pd.rep (En.int k) b)) {t u:TypeId} (ho:o.op = .binOp .lss t x y u) (hg:o.guard=none):
  T P ops o L (Pd.rep En.bool (decide (a<b))):=t_cmp .lss (fun a b=>decide (a<b)) rfl (.inl rfl) hx hy ho hg
theorem t_leq {k:IntKind} {x y:Operand} {a b:Int} (hx:Opn L x (Pd.rep (En.int k) a)) (hy:Opn L y (Pd.rep (En.int k) b)) {t u:TypeId} (ho:o.op = .binOp .leq t x y u) (hg:o.guard=none):
  T P ops o L (Pd.rep En.bool (decide (a≤b))):=t_cmp .leq (fun a b=>decide (a≤b)) rfl (.inr (.inl rfl)) hx hy ho hg
theorem t_gtr {k:IntKind} {x y:Operand} {a b:Int} (hx:Opn L x (Pd.rep (En.int k) a)) (hy:Opn L y (Pd.rep (En.int k) b)) {t u:TypeId} (ho:o.op = .binOp .gtr t x y u) (hg:o.guard=none):
  T P ops o L (Pd.rep En.bool (decide (b<a))):=t_cmp .gtr (fun a b=>decide (b<a)) rfl (.inr (.inr (.inl rfl))) hx hy ho hg
theorem t_geq {k:IntKind} {x y:Operand} {a b:Int} (hx:Opn L x (Pd.rep (En.int k) a)) (hy:Opn L y (Pd.rep (En.int k) b)) {t u:TypeId} (ho:o.op = .binOp .geq t x y u) (hg:o.guard=none):
  T P ops o L (Pd.rep En.bool (decide (b≤a))):=t_cmp .geq (fun a b=>decide (b≤a)) rfl (.inr (.inr (.inr (.inl rfl)))) hx hy ho hg
theorem zd0 {k:IntKind} {x y:Operand} {a b:Int} (hx:Opn L x (Pd.rep (En.int k) a)) (hy:Opn L y (Pd.rep (En.int k) b)) {t u:TypeId} (ho:o.op = .binOp .eql t x y u) (hg:o.guard=none):
  T P ops o L (Pd.rep En.bool (a==b)):=t_cmp .eql (fun a b=>a==b) rfl (.inr (.inr (.inr (.inr (.inl rfl))))) hx hy ho hg
theorem t_nei {k:IntKind} {x y:Operand} {a b:Int} (hx:Opn L x (Pd.rep (En.int k) a)) (hy:Opn L y (Pd.rep (En.int k) b)) {t u:TypeId} (ho:o.op = .binOp .neq t x y u) (hg:o.guard=none):
  T P ops o L (Pd.rep En.bool (a != b)):=t_cmp .neq (fun a b=>a != b) rfl (.inr (.inr (.inr (.inr (.inr rfl))))) hx hy ho hg
theorem zei {x:Operand} {a:Bool} (hx:Opn L x (Pd.rep En.bool a)) {t:TypeId} (ho:o.op = .unOp .not t x) (hg:o.guard=none):T P ops o L (Pd.rep En.bool (!a)):=
 T.pure hg fun M n s0 ac s hL=>by
  have h1:=zbc.1 (hx M n s0 ac s hL);refine ⟨.bool (!a), ?_,zbc.2 rfl⟩;unfold execOp;rw [ho];simp [h1,Op.unary]
structure Ty {α:Type} (P:Program) (t:TypeId) (E:En α):Prop where
 info:∃i z,P.info? t=some i∧i.size=E.sz∧i.zero=some z∧z.cells.size=E.sz∧i.bytes≤65536
 agg:∃d,P.underlying t=some d∧(match d with | .struct _ | .array _ _=>true | _=>false)=E.agg
theorem zd3 {α:Type} {t:TypeId} {E:En α} (h:Ty P t E) (w:World):(isAgg t).run P w = .ok E.agg w:=by
 obtain ⟨d,hd,he⟩:=h.agg;unfold isAgg;simp only [Sem.run_bind,run_underlying hd,Result.andThen_ok];rw [← he];cases d <;> rfl
theorem z1 {α:Type} {t:TypeId} {E:En α} (h:Ty P t E) (w:World):(sizeOf t).run P w = .ok E.sz w:=by
 obtain ⟨i,z,hi,he,_⟩:=h.info;simp [sizeOf,typeInfo,hi,he]
theorem zbx {α:Type} {t:TypeId} {E:En α} (h:Ty P t E) {w w':World} {S:Nat→Prop} {cs:List Value} {x:α} (hR:E.R w' S cs x) {b o:Nat} (hc:zbs w b o cs):
  (loadVar t ⟨b,o,none⟩).run P w = .ok (E.val cs) w:=by
 unfold loadVar;simp only [Sem.run_bind,zd3 h,Result.andThen_ok];have hl:=E.len hR;cases ha:E.agg
 ·have h1:=E.sc ha;rw [h1] at hl
  match cs,hl with
  | [u],_=>
   have:=hc 0 u rfl;simp [En.val,ha,show w.cell? ⟨b,o,none⟩=some u from this]
 ·simp only [if_true,Sem.run_bind,z1 h,Result.andThen_ok];have:(loadCells ⟨b,o,none⟩ E.sz).run P w = .ok cs.toArray w:=by
   rw [← hl];exact run_loadCells_list w ⟨b,o,none⟩ cs (fun j v hv=>by rw [zc0];exact hc j v hv)
  simp [this,En.val,ha]
theorem zm {α:Type} {E:En α} {x:α} {y:Operand} {t:TypeId} (ht:Ty P t E) (hy:Opn L y (Pd.ptr E x)) (ho:o.op = .load t y) (hg:o.guard=none):T P ops o L (Pd.rep E x):=
 T.pure hg fun M n s0 ac s hL=>by
  obtain ⟨b,off,cs,hv,hb,hc,hR⟩:=hy M n s0 ac s hL;refine ⟨E.val cs, ?_,cs,rfl,hR⟩;unfold execOp;rw [ho];simp [hv,Instr.loadAt,Instr.sureAddr,zbx ht hR hc]
theorem z7 {α:Type} {E:En α} {x:α} {y:Operand} {t:TypeId} {N off:Nat} {og:Option Nat} (ht:Ty P t E) (hy:Opn L y (Pd.optr E N og off x)) (ho:o.op = .load t y) (hg:o.guard=none):T P ops o L (Pd.rep E x):=
 T.pure hg fun M n s0 ac s hL=>by
  obtain ⟨g,_,hv,_,_,_,cs,hc,hR⟩:=hy M n s0 ac s hL;refine ⟨E.val cs, ?_,cs,rfl,hR⟩;unfold execOp;rw [ho];simp [hv,Instr.loadAt,Instr.sureAddr,zbx ht hR hc]
theorem zy {w:World} {g:Nat} {cs:List Value} {t:TypeId} {fr:Nat × Nat} (h:w.heap[g]?=some (.cells cs.toArray t fr)):zbs w g 0 cs:=
 fun j u hu=>by rw [Nat.zero_add,cell_of_row w g j cs.toArray t fr h];simpa using hu
theorem zc8 {α:Type} {E:En α} {x:α} {y:Operand} {t:TypeId} {N g:Nat} (ht:Ty P t E) (hy:Opn L y (Pd.box E N g x)) (ho:o.op = .load t y) (hg:o.guard=none):T P ops o L (Pd.rep E x):=
 T.pure hg fun M n s0 ac s hL=>by
  obtain ⟨hv,_,_,cs,t',hc,hR⟩:=hy M n s0 ac s hL;refine ⟨E.val cs, ?_,cs,rfl,hR⟩;unfold execOp;rw [ho];simp [hv,Instr.loadAt,Instr.sureAddr,zbx ht hR (zy hc)]
theorem run_conv {k k':IntKind} {t u:TypeId} {x:Int} (ht:P.underlying t=some (.int k)) (hu:P.underlying u=some (.int k')) (w:World):(convert t u (.int k x)).run P w = .ok (.int k' (k'.wrap x)) w:=by
 simp [convert,run_underlying ht,run_underlying hu,go_sem]
theorem t_up {k k':IntKind} {x:Int} {y:Operand} {t u:TypeId} (hy:Opn L y (Pd.rep (En.int k) x)) (hk:k'.min≤k.min∧k.max≤k'.max) (ht:P.underlying t=some (.int k)) (hu:P.underlying u=some (.int k')) (ho:o.op = .convert t u y) (hg:o.guard=none):
  T P ops o L (Pd.rep (En.int k') x):=
 T.pure hg fun M n s0 ac s hL=>by
  obtain ⟨h1,h2⟩:=zbg.1 (hy M n s0 ac s hL);have hr:InR k' x:=⟨Int.le_trans hk.1 h2.1,Int.le_trans h2.2 hk.2⟩;refine ⟨.int k' x, ?_,zbg.2 ⟨rfl,hr⟩⟩;unfold execOp;rw [ho];have:=run_conv (k:=k) (k':=k') (x:=x) ht hu s.w;simp only [h1,Sem.run_bind,this,Result.andThen_ok,Sem.run_pure,wrap_in hr]
theorem t_g {c0:Prop} {b want:Bool} {j d:Nat} {q:Pd} (hg:o.guard=some (j,want)) (hj:(ops[j]?).bind (·.dst)=some d) (hl:lk L d=some (Pd.when c0 (Pd.rep En.bool b))) (h:c0∧b=want→T P ops { o with guard:=none } L q):
  T P ops o L (Pd.when (c0∧b=want) q):=fun M n s0 a s hL Q k hk=>by
 have hd:=hL.get d hl;have hw:Region.wanted o (yielded ops a.tmps)=true↔c0∧b=want:=by
  simp only [Region.wanted,hg];have:yielded ops a.tmps j=match a.eval (.tmp d) with | .bool x=>some x | _=>none:=by
   unfold yielded;cases ho:ops[j]? with
   | none=>rw [ho] at hj;cases hj
   | some oj=>
    rw [ho] at hj;simp only [Option.bind_some] at hj;simp only [hj,Act.eval,Option.bind_some,Array.getD_eq_getD_getElem?];cases a.tmps[d]? with
    | none=>simp [undef]
    | some v=>cases v <;> rfl
  rw [this]
  by_cases h0:c0
  ·rw [zbc.1 (hd.1 h0)];simp [h0]
  ·rw [hd.2 h0];simp [h0,undef]
 by_cases hc:c0∧b=want
 ·rw [if_pos (hw.2 hc)];have:=h hc M n s0 a s hL Q k (fun v s' ⟨e,hq⟩=>hk v s' ⟨e,fun _=>hq,fun hn=>absurd hc hn⟩);obtain ⟨dst,op,type,pos,after,guard⟩:=o;exact this
 ·rw [if_neg (fun h=>hc (hw.1 h))];exact hk undef s ⟨Ex.refl s,fun h=>absurd h hc,fun _=>rfl⟩
theorem z8 {b want:Bool} {j d:Nat} {q:Pd} (hg:o.guard=some (j,want)) (hj:(ops[j]?).bind (·.dst)=some d) (hl:lk L d=some (Pd.rep En.bool b)) (h:b=want→T P ops { o with guard:=none } L q):
  T P ops o L (Pd.when (b=want) q):=fun M n s0 a s hL Q k hk=>by
 have hd:=zbc.1 (hL.get d hl);have hw:Region.wanted o (yielded ops a.tmps)=true↔b=want:=by
  simp only [Region.wanted,hg];have:yielded ops a.tmps j=match a.eval (.tmp d) with | .bool x=>some x | _=>none:=by
   unfold yielded;cases ho:ops[j]? with
   | none=>rw [ho] at hj;cases hj
   | some oj=>
    rw [ho] at hj;simp only [Option.bind_some] at hj;simp only [hj,Act.eval,Option.bind_some,Array.getD_eq_getD_getElem?];cases a.tmps[d]? with
    | none=>simp [undef]
    | some v=>cases v <;> rfl
  rw [this,hd];simp
 by_cases hc:b=want
 ·rw [if_pos (hw.2 hc)];have:=h hc M n s0 a s hL Q k (fun v s' ⟨e,hq⟩=>hk v s' ⟨e,fun _=>hq,fun hn=>absurd hc hn⟩);obtain ⟨dst,op,type,pos,after,guard⟩:=o;exact this
 ·rw [if_neg (fun h=>hc (hw.1 h))];exact hk undef s ⟨Ex.refl s,fun h=>absurd h hc,fun _=>rfl⟩
theorem o_w {c:Prop} (hc:c) (t:Nat) {q:Pd} (h:lk L t=some (Pd.when c q)):Opn L (.tmp t) q:=fun _ _ _ _ _ hL=>(hL.get t h).1 hc
theorem zc5 {x y:Operand} {a b:Bool} (hx:Opn L x (Pd.rep En.bool a)) (hy:a=true→Opn L y (Pd.rep En.bool b)) (ho:o.op = .pick x y (.const (.bool false))) (hg:o.guard=none):T P ops o L (Pd.rep En.bool (a&&b)):=
 T.pure hg fun M n s0 ac s hL=>by
  have h1:=zbc.1 (hx M n s0 ac s hL);refine ⟨.bool (a&&b), ?_,zbc.2 rfl⟩;unfold execOp;rw [ho];cases a
  ·have hcn:ac.eval (.const (.bool false)) = .bool false:=rfl;simp [h1,asBool,hcn]
  ·have h2:=zbc.1 (hy rfl M n s0 ac s hL);simp [h1,h2,asBool]
theorem t_or {x y:Operand} {a b:Bool} (hx:Opn L x (Pd.rep En.bool a)) (hy:a=false→Opn L y (Pd.rep En.bool b)) (ho:o.op = .pick x (.const (.bool true)) y) (hg:o.guard=none):T P ops o L (Pd.rep En.bool (a||b)):=
 T.pure hg fun M n s0 ac s hL=>by
  have h1:=zbc.1 (hx M n s0 ac s hL);refine ⟨.bool (a||b), ?_,zbc.2 rfl⟩;unfold execOp;rw [ho];cases a
  ·have h2:=zbc.1 (hy rfl M n s0 ac s hL);simp [h1,h2,asBool]
  ·have hcn:ac.eval (.const (.bool true)) = .bool true:=rfl;simp [h1,asBool,hcn]
def St.push (s:St) (ob:Obj):St:=⟨s.w.alloc ob,s.X,fun b hb=>Nat.lt_of_lt_of_le (s.lt b hb) (by simp)⟩
theorem Ex.push (s:St) (ob:Obj):Ex s (s.push ob):=
 ⟨⟨DR.eq rfl,rfl,rfl,rfl,by simp [St.push],fun b hb _=>Go.RowKit.Below.heap_alloc s.w ob b hb,fun _ h=>h.elim,fun _ h=>.inl h⟩,fun _ h=>h⟩
end
end
end Go.Proofs.YtaknifhhnhcchaaDoor.V
namespace Go.Proofs.YtaknifhhnhcchaaDoor.V
open Go
set_option linter.unusedVariables false
section
variable {u : Bool} [Dr u]
def at? {α:Type} (xs:List α) (i:Int):Option α:=if 0≤i then xs[i.toNat]? else none
def Els {α:Type} (E:En α) (w:World) (S:Nat→Prop) (css:List (List Value)) (xs:List α):Prop:=
 css.length=xs.length∧∀(i:Nat) (cs:List Value) (x:α),css[i]?=some cs→xs[i]?=some x→E.R w S cs x
theorem Els.lens {α:Type} {E:En α} {w S css} {xs:List α} (h:Els E w S css xs):∀cs∈css,cs.length=E.sz:=by
 intro cs hcs;obtain ⟨i,hi⟩:=List.getElem?_of_mem hcs;have hlt:i<css.length:=(List.getElem?_eq_some_iff.1 hi).1;have hx:xs[i]?=some (xs[i]'(h.1 ▸ hlt)):=by simp
 exact E.len (h.2 i cs _ hi hx)
theorem zcn {css:List (List Value)} {n:Nat} (h:∀cs∈css,cs.length=n):css.flatten.length=css.length*n:=by
 induction css with
 | nil=>simp
 | cons c r ih=>
  simp only [List.flatten_cons,List.length_append,List.length_cons];rw [ih (fun x hx=>h x (by simp [hx])),h c (by simp),Nat.add_mul];omega
theorem zeu {css:List (List Value)} {n:Nat} (h:∀cs∈css,cs.length=n):∀{i:Nat} {cs:List Value} {j:Nat} {u:Value},css[i]?=some cs→cs[j]?=some u→css.flatten[i*n+j]?=some u:=by
 induction css with
 | nil=>intro i cs j u hi;simp at hi
 | cons c r ih=>
  intro i cs j u hi hj;have hc:c.length=n:=h c (by simp);cases i with
  | zero=>
   simp at hi;subst hi;rw [List.flatten_cons,Nat.zero_mul,Nat.zero_add,List.getElem?_append_left (List.getElem?_eq_some_iff.1 hj).1];exact hj
  | succ i=>
   simp at hi;rw [List.flatten_cons,List.getElem?_append_right (by rw [hc,Nat.succ_mul];omega)];rw [show (i+1)*n+j-c.length=i*n+j by rw [hc,Nat.succ_mul];omega];exact ih (fun x hx=>h x (by simp [hx])) hi hj
def lim:Nat:=9223372036854775807
def SlV {α:Type} (E:En α) (w:World) (S:Nat→Prop) (v:Value) (xs:List α):Prop:=
 ∃ad cap,v = .slice ad xs.length cap∧xs.length≤cap∧(ad=none→cap=0)∧xs.length≤lim ∧
  (xs≠[]→∃b off css,ad=some ⟨b,off,none⟩∧S b∧Els E w S css xs∧zbs w b off css.flatten)
def En.slice {α:Type} (E:En α):En (List α) where
 sz:=1
 agg:=false
 R:=fun w S cs xs=>∃v,cs=[v]∧SlV E w S v xs
 sc:=fun _=>rfl
 pos:=Nat.one_pos
 len:=by rintro _ _ _ _ ⟨v,rfl,_⟩;rfl
 one:=by rintro _ _ _ _ ⟨v,rfl,ad,cap,rfl,_⟩ u hu;simp at hu;subst hu;rfl
 mono:=by
  rintro w S S' cs xs h ⟨v,rfl,ad,cap,hv,h1,h2,h3,h4⟩
  refine ⟨v,rfl,ad,cap,hv,h1,h2,h3,fun hne=>?_⟩
  obtain ⟨b,off,css,e,hb,hE,hc⟩:=h4 hne
  exact ⟨b,off,css,e,h b hb,⟨hE.1,fun i cs x a b=>E.mono h (hE.2 i cs x a b)⟩,hc⟩
 move:=by
  rintro w w' S cs xs h ⟨v,rfl,ad,cap,hv,h1,h2,h3,h4⟩
  refine ⟨v,rfl,ad,cap,hv,h1,h2,h3,fun hne=>?_⟩
  obtain ⟨b,off,css,e,hb,hE,hc⟩:=h4 hne
  exact ⟨b,off,css,e,hb,⟨hE.1,fun i cs x a b=>E.move h (hE.2 i cs x a b)⟩,hc.same (h b hb)⟩
theorem zbj {α:Type} {E:En α} {xs:List α} {s:St} {v:Value}:(Pd.rep (En.slice E) xs).p s v↔SlV E s.w (zcd s) v xs:=
 ⟨fun ⟨_,hv,u,hc,h⟩=>by subst hc;subst hv;exact h,fun h=>⟨[v],rfl,v,rfl,h⟩⟩
theorem zbu {α:Type} (E:En α) (w:World) (S:Nat→Prop):SlV E w S (.slice none 0 0) ([]:List α):=⟨none,0,rfl,Nat.le_refl _,fun _=>rfl,Nat.zero_le _,fun h=>absurd rfl h⟩
def Pd.row {α:Type} (E:En α) (N:Nat) (te:TypeId) (og:Option Nat) (xs:List α):Pd:=
 ⟨fun s v=>v.ownBlock=og∧(∀g,og=some g→s.X g)∧xs.length≤lim∧∃css,Els E s.w (zcd s) css xs∧s.w.ownsRow N te E.sz v xs.length css.flatten,fun b=>og=some b,
  by
   rintro T s s' v h hb ⟨h1,h2,h3,css,h4,h5⟩
   refine ⟨h1,fun g hg=>(hb g hg).2 (h2 g hg),h3,css,⟨h4.1,fun i cs x a b=>E.go h (h4.2 i cs x a b)⟩,h5.1, ?_⟩
   rcases h5.2 with hn | ⟨g,cap,cur,e,hN,hg,rest⟩
   ·exact .inl hn
   ·subst e
    have hog:og=some g:=by rw [← h1];rfl
    refine .inr ⟨g,cap,cur,rfl,hN, ?_,rest⟩
    rw [h.blk g (Array.getElem?_eq_some_iff.1 hg).1 (hb g hog).1];exact hg⟩
theorem zeo {α:Type} (E:En α) (N:Nat) (te:TypeId) (s:St):(Pd.row E N te none ([]:List α)).p s (.slice none 0 0):=by
 refine ⟨rfl, ?_,Nat.zero_le _,[],⟨rfl, ?_⟩,World.ownsRow_nil _ _ _ _⟩
 ·intro g h;cases h
 ·intro i cs x h;simp at h
theorem zdh {α:Type} {E:En α} {N:Nat} {te:TypeId} {og:Option Nat} {xs:List α} {s s':St} {v:Value} (h:(Pd.row E N te og xs).p s v) (hw:s'.w=s.w)
  (hX:∀b,s'.X b→s.X b∧og≠some b):SlV E s'.w (zcd s') v xs:=by
 obtain ⟨h1,h2,h3,css,h4,h5⟩:=h;have hf:∀b,zcd s b→zcd s' b:=fun b hb=>⟨by rw [hw];exact hb.1,fun hx=>hb.2 (hX b hx).1⟩;have h4':Els E s'.w (zcd s') css xs:=⟨h4.1,fun i cs x a b=>by rw [hw];exact E.mono hf (h4.2 i cs x a b)⟩;rcases h5.2 with ⟨e,hn⟩ | ⟨g,cap,cur,e,hN,hg,hnc,hcm,hcs,ht⟩
 ·have:xs=[]:=List.eq_nil_of_length_eq_zero hn;subst this;rw [e];exact zbu E _ _
 ·subst e;refine ⟨some ⟨g,0,none⟩,cap,rfl,hnc,(fun e=>by cases e),h3,fun _=>⟨g,0,css,rfl,⟨?_,fun hx=>(hX g hx).2 (by rw [← h1];rfl)⟩,h4',fun j u hu=>?_⟩⟩
  ·rw [hw];exact (Array.getElem?_eq_some_iff.1 hg).1
  ·rw [hw,Nat.zero_add,cell_of_row s.w g j cur te (0,0) hg];rw [← ht,List.getElem?_take] at hu;split at hu
   ·simpa using hu
   ·cases hu
section
variable {P : Program} {ops : Array Oper} {o : Oper} {L : Lst}
theorem zbz {α:Type} {E:En α} {xs:List α} {y:Operand} {t te:TypeId} (hy:Opn L y (Pd.rep (En.slice E) xs)) (ht:P.underlying t=some (.slice te)) (ho:o.op = .call { callee:=.builtin .len,args:=#[y],argTypes:=#[t] }) (hg:o.guard=none):
  T P ops o L (Pd.rep (En.int .i64) xs.length):=
 T.pure hg fun M n s0 ac s hL=>by
  obtain ⟨ad,cap,hv,h1,h2,h3,h4⟩:=zbj.1 (hy M n s0 ac s hL);refine ⟨.int .i64 xs.length, ?_,zbg.2 ⟨rfl, ?_⟩⟩
  ·unfold execOp;rw [ho];simp [resolve,invoke,builtin,hv,Builtin.len_,run_underlying ht,goInt]
  ·simp only [lim] at h3;simp [InR,IntKind.min,IntKind.max,IntKind.signed,IntKind.bits];omega
theorem zdy {α:Type} {E:En α} {xs:List α} {N te og} {y:Operand} {t te':TypeId} (hy:Opn L y (Pd.row E N te og xs)) (ht:P.underlying t=some (.slice te')) (ho:o.op = .call { callee:=.builtin .len,args:=#[y],argTypes:=#[t] }) (hg:o.guard=none):
  T P ops o L (Pd.rep (En.int .i64) xs.length):=
 T.pure hg fun M n s0 ac s hL=>by
  obtain ⟨h1,h2,h3,css,h4,h5⟩:=hy M n s0 ac s hL;refine ⟨.int .i64 xs.length, ?_,zbg.2 ⟨rfl, ?_⟩⟩
  ·have hv:∃ad cap,ac.eval y = .slice ad xs.length cap:=by
    rcases h5.2 with ⟨e,hn⟩ | ⟨g,cap,cur,e,_⟩
    ·exact ⟨none,0,by rw [e,hn]⟩
    ·exact ⟨_,_,e⟩
   obtain ⟨ad,cap,hv⟩:=hv;unfold execOp;rw [ho];simp [resolve,invoke,builtin,hv,Builtin.len_,run_underlying ht,goInt]
  ·simp only [lim] at h3;simp [InR,IntKind.min,IntKind.max,IntKind.signed,IntKind.bits];omega
theorem zb0 {α:Type} {E:En α} {xs:List α} {e:α} {k:IntKind} {i:Int} {x y:Operand} {t te:TypeId} (hx:Opn L x (Pd.rep (En.slice E) xs)) (hy:Opn L y (Pd.rep (En.int k) i)) (he:at? xs i=some e)
  (ht:P.underlying t=some (.slice te)) (hE:Ty P te E) (ho:o.op = .indexAddr t x y) (hg:o.guard=none):T P ops o L (Pd.ptr E e):=
 T.pure hg fun M n s0 ac s hL=>by
  obtain ⟨ad,cap,hv,h1,h2,h3,h4⟩:=zbj.1 (hx M n s0 ac s hL);have hi:=(zbg.1 (hy M n s0 ac s hL)).1;unfold at? at he;split at he
  case isFalse=>cases he
  rename_i h0
  have hlt:i.toNat<xs.length:=(List.getElem?_eq_some_iff.1 he).1;obtain ⟨b,off,css,e1,hb,hEl,hc⟩:=h4 (by intro h;simp [h] at hlt);obtain ⟨cs,hcs⟩:∃cs,css[i.toNat]?=some cs:=⟨css[i.toNat]'(by rw [hEl.1];exact hlt),by simp⟩;refine ⟨.pointer (some ⟨b,off+i.toNat*E.sz,none⟩), ?_,b,off+i.toNat*E.sz,cs,rfl,hb, ?_,hEl.2 _ _ _ hcs he⟩
  ·unfold execOp;rw [ho];simp only [hv,hi,Instr.indexAt,asIntOf,Sem.run_bind,Sem.run_pure,Result.andThen_ok,run_underlying ht,e1];rw [if_pos (by omega)];simp [z1 hE,zc0]
  ·intro j u hu;rw [Nat.add_assoc];exact hc _ u (zeu hEl.lens hcs hu)
theorem zdz {α:Type} {E:En α} {xs:List α} {e:α} {k:IntKind} {i:Int} {N:Nat} {og:Option Nat} {x y:Operand} {t te te':TypeId} (hx:Opn L x (Pd.row E N te' og xs)) (hy:Opn L y (Pd.rep (En.int k) i)) (he:at? xs i=some e)
  (ht:P.underlying t=some (.slice te)) (hE:Ty P te E) (ho:o.op = .indexAddr t x y) (hg:o.guard=none):T P ops o L (Pd.optr E N og (i.toNat*E.sz) e):=
 T.pure hg fun M n s0 ac s hL=>by
  obtain ⟨h1,h2,h3,css,h4,h5⟩:=hx M n s0 ac s hL;have hi:=(zbg.1 (hy M n s0 ac s hL)).1;unfold at? at he;split at he
  case isFalse=>cases he
  rename_i h0
  have hlt:i.toNat<xs.length:=(List.getElem?_eq_some_iff.1 he).1;rcases h5.2 with ⟨e',hn⟩ | ⟨g',cap,cur,ev,hN,hgb,hnc,hcm,hcs',htk⟩
  ·omega
  ·have hgg:og=some g':=by rw [← h1,ev];rfl
   obtain ⟨cs,hcs⟩:∃cs,css[i.toNat]?=some cs:=⟨css[i.toNat]'(by rw [h4.1];exact hlt),by simp⟩;refine ⟨.pointer (some ⟨g',i.toNat*E.sz,none⟩), ?_,g',hgg,rfl,hN,(Array.getElem?_eq_some_iff.1 hgb).1,h2 _ hgg,cs, ?_,h4.2 _ _ _ hcs he⟩
   ·unfold execOp;rw [ho];simp only [ev,hi,Instr.indexAt,asIntOf,Sem.run_bind,Sem.run_pure,Result.andThen_ok,run_underlying ht];rw [if_pos (by omega)];simp [z1 hE,zc0]
   ·intro j u hu;have hf:=zeu h4.lens hcs hu;rw [cell_of_row s.w g' _ cur te' (0,0) hgb];rw [← htk,List.getElem?_take] at hf;split at hf
    ·simpa using hf
    ·cases hf
theorem En.psh {α:Type} (E:En α) {s:St} {ob:Obj} {cs:List Value} {x:α} (h:E.R s.w (zcd s) cs x):E.R (s.push ob).w (zcd (s.push ob)) cs x:=E.go (Ex.push s ob).mv h
theorem zd6 (s:St) (cs:List Value) (t:TypeId):zbs (s.push (.cells cs.toArray t)).w s.w.heap.size 0 cs:=
 zy (w:=(s.push (.cells cs.toArray t)).w) (t:=t) (fr:=(0,0)) (heap_alloc_new s.w _)
theorem zdf {α:Type} {E:En α} {x:α} {y:Operand} {t:TypeId} (hy:Opn L y (Pd.rep E x)) (ho:o.op = .box t y) (hg:o.guard=none):T P ops o L (Pd.ptr E x):=
 T.mk hg fun M n s0 ac s hL=>by
  obtain ⟨cs,hv,hR⟩:=hy M n s0 ac s hL;refine ⟨.pointer (some ⟨s.w.heap.size,0,none⟩),s.push (.cells cs.toArray t), ?_,Ex.push s _,s.w.heap.size,0,cs,rfl,⟨by simp [St.push],fun h=>by have:=s.lt _ h;omega⟩,zd6 s cs t,E.psh hR⟩;unfold execOp;rw [ho];simp only [hv,Instr.box,newVar,newRow,En.val_cells hR,Sem.run_bind,run_newObj,Result.andThen_ok,Sem.run_pure];rfl
end
end
end Go.Proofs.YtaknifhhnhcchaaDoor.V
namespace Go.Proofs.YtaknifhhnhcchaaDoor.V
open Go
set_option linter.unusedVariables false
section
variable {u : Bool} [Dr u]
structure Ef (T:Nat→Prop) (s s':St):Prop where
 mv:Mv T s s'
 keep:∀b,s.X b→¬ T b→s'.X b
theorem Ex.ef {s s':St} (e:Ex s s') (T:Nat→Prop) (h:∀b,T b→s.X b):Ef T s s':=
 ⟨⟨e.mv.dr,e.mv.os,e.mv.tape,e.mv.output,e.mv.size,fun b hb _=>e.mv.blk b hb id,h,e.mv.xx⟩,fun b hb _=>e.keep b hb⟩
theorem Ef.ex {M T:Nat→Prop} {s0 s s':St} (h:Fr M s0 s) (e:Ef T s s') (hT:∀b,T b→s0.w.heap.size≤b):Fr M s0 s':=
 ⟨⟨h.mv.dr.trans e.mv.dr,e.mv.os.trans h.mv.os,e.mv.tape.trans h.mv.tape,e.mv.output.trans h.mv.output,Nat.le_trans h.mv.size e.mv.size,
  fun b hb hn=>(e.mv.blk b (Nat.lt_of_lt_of_le hb h.mv.size) (fun ht=>by have:=hT b ht;omega)).trans (h.mv.blk b hb hn),h.mv.tx,
  fun b hb=>(e.mv.xx b hb).elim (fun j=>h.mv.xx b j) (fun j=>.inr (Nat.le_trans h.mv.size j))⟩,
  fun b hb=>e.keep b (h.keep b hb) (fun ht=>by have:=hT b ht;have:=s0.lt b hb;omega)⟩
def Kp (T:Nat→Prop) (L L':Lst):Prop:=∀t q,lk L' t=some q→q=Pd.any∨lk L t=some q∧∀b,q.own b→¬ T b
theorem zcz {d:Nat} {q:Pd} {L:Lst} {t:Nat}:lk ((d,q)::L) t=if d=t then some q else lk L t:=by
 rw [lk]
 by_cases h:d=t
 ·subst h;simp
 ·rw [zef h,if_neg h];rfl
theorem Kp.nil {T:Nat→Prop} {L:Lst}:Kp T L []:=fun t q h=>by cases h
theorem Kp.cons {T:Nat→Prop} {L:Lst} {t:Nat} {q:Pd} {r:Lst} (hl:lk L t=some q) (hq:∀b,q.own b→¬ T b) (hr:Kp T L r):Kp T L ((t,q)::r):=fun d p h=>by
 rw [zcz] at h;split at h
 ·rename_i e;cases h;subst e;exact .inr ⟨hl,hq⟩
 ·exact hr d p h
theorem Kp.k {T:Nat→Prop}{L:Lst}(t:Nat){q:Pd}{r:Lst}(hr:Kp T L r)(hl:lk L t=some q:=by exact rfl)(hq:∀b,q.own b→¬T b:=by exact nE):Kp T L ((t,q)::r):=.cons hl hq hr
theorem Kp.p {T:Nat→Prop} {L L':Lst} (h:Kp T L L') {s s':St} {a:Act} (hL:∀t q,lk L t=some q→q.p s (a.eval (.tmp t))) (m:∀(q:Pd) v,(∀b,q.own b→¬ T b)→q.p s v→q.p s' v):∀t q,lk L' t=some q→q.p s' (a.eval (.tmp t)):=fun t q hl=>
 (h t q hl).elim (fun e=>by subst e;trivial) fun ⟨h1,h2⟩=>m q _ h2 (hL t q h1)
theorem Has.ef {M:Nat→Prop} {n:Nat} {s0:St} {a:Act} {s s':St} {L L':Lst} {T:Nat→Prop} (h:Has M n s0 a s L) (e:Ef T s s') (hT:∀b,T b→s0.w.heap.size≤b) (hk:Kp T L L'):Has M n s0 a s' L' where
 size:=h.size
 defers:=h.defers
 ent:=e.ex h.ent hT
 gl:=h.gl
 at_:=hk.p h.at_ fun q v h2=>q.mv e.mv fun b hb=>⟨h2 b hb,fun hx=>e.keep b hx (h2 b hb)⟩
theorem Ef.exm {M T:Nat→Prop} {s0 s s':St} (h:Fr M s0 s) (e:Ef T s s') (hT:∀b,T b→M b) (hk:∀b,s.X b→s'.X b):Fr M s0 s':=
 ⟨⟨h.mv.dr.trans e.mv.dr,e.mv.os.trans h.mv.os,e.mv.tape.trans h.mv.tape,e.mv.output.trans h.mv.output,Nat.le_trans h.mv.size e.mv.size,
  fun b hb hn=>(e.mv.blk b (Nat.lt_of_lt_of_le hb h.mv.size) (fun ht=>hn (hT b ht))).trans (h.mv.blk b hb hn),h.mv.tx,
  fun b hb=>(e.mv.xx b hb).elim (fun j=>h.mv.xx b j) (fun j=>.inr (Nat.le_trans h.mv.size j))⟩,fun b hb=>hk b (h.keep b hb)⟩
theorem Has.efm {M:Nat→Prop} {n:Nat} {s0:St} {a:Act} {s s':St} {L L':Lst} {T:Nat→Prop} (h:Has M n s0 a s L) (e:Ef T s s') (hT:∀b,T b→M b) (hX:∀b,s.X b→s'.X b) (hk:Kp T L L'):Has M n s0 a s' L' where
 size:=h.size
 defers:=h.defers
 ent:=e.exm h.ent hT hX
 gl:=h.gl
 at_:=hk.p h.at_ fun q v h2=>q.mv e.mv fun b hb=>⟨h2 b hb,fun hx=>e.keep b hx (h2 b hb)⟩
theorem Has.efw {M:Nat→Prop} {n:Nat} {s0:St} {a:Act} {s s':St} {L L':Lst} {T:Nat→Prop} (h:Has M n s0 a s L) (e:Ef T s s') (hT:(∀b,T b→s0.w.heap.size≤b)∨∀b,T b→M b) (hX:∀b,s.X b→s'.X b) (hk:Kp T L L'):Has M n s0 a s' L':=
 hT.elim (fun hT=>h.ef e hT hk) (fun hT=>h.efm e hT hX hk)
def Kw (T:Nat→Prop) (L:Lst) (q q':Pd) (L':Lst):Prop:=∀t r,lk L' t=some r→(r=Pd.any∨lk L t=some r∧∀b,r.own b→¬ T b)∨r=q'∧lk L t=some q
section
variable {T : Nat → Prop} {L : Lst} {q q' : Pd} {t : Nat} {r : Pd} {l : Lst}
theorem Kw.nil:Kw T L q q' []:=fun t q h=>by cases h
theorem Kw.cons (hl:lk L t=some r) (hq:∀b,r.own b→¬ T b) (hr:Kw T L q q' l):Kw T L q q' ((t,r)::l):=fun d p h=>by
 rw [zcz] at h;split at h
 ·rename_i e;cases h;subst e;exact .inl (.inr ⟨hl,hq⟩)
 ·exact hr d p h
theorem Kw.k {T:Nat→Prop}{L:Lst}{q q':Pd}(t:Nat){r:Pd}{l:Lst}(hr:Kw T L q q' l)(hl:lk L t=some r:=by exact rfl)(hq:∀b,r.own b→¬T b:=by exact nE):Kw T L q q' ((t,r)::l):=.cons hl hq hr
theorem Kw.turn (hl:lk L t=some q) (hr:Kw T L q q' l):Kw T L q q' ((t,q')::l):=fun d p h=>by
 rw [zcz] at h;split at h
 ·rename_i e;cases h;subst e;exact .inr ⟨rfl,hl⟩
 ·exact hr d p h
theorem Kw.a0:Kw T [] q q' []:=.nil
theorem Kw.ak (hq:∀b,r.own b→¬ T b) (h:Kw T L q q' l):Kw T ((t,r)::L) q q' ((t,r)::l):=fun d p e=>by
 rw [zcz] at e ⊢;split at e
 ·rename_i e';cases e;exact .inl (.inr ⟨if_pos e',hq⟩)
 ·rename_i e';rw [if_neg e'];exact h d p e
theorem Kw.ad (h:Kw T L q q' l):Kw T ((t,r)::L) q q' ((t,Pd.any)::l):=fun d p e=>by
 rw [zcz] at e ⊢;split at e
 ·cases e;exact .inl (.inl rfl)
 ·rename_i e';rw [if_neg e'];exact h d p e
theorem Kw.aw (h:Kw T L q q' l):Kw T ((t,q)::L) q q' ((t,q')::l):=fun d p e=>by
 rw [zcz] at e ⊢;split at e
 ·rename_i e';cases e;exact .inr ⟨rfl,if_pos e'⟩
 ·rename_i e';rw [if_neg e'];exact h d p e
end
theorem Has.turn {M:Nat→Prop} {n:Nat} {s0:St} {a:Act} {s s':St} {L L':Lst} {T:Nat→Prop} {q q':Pd} (h:Has M n s0 a s L) (e:Ef T s s') (hT:(∀b,T b→s0.w.heap.size≤b)∨∀b,T b→M b) (hX:∀b,s.X b→s'.X b) (hk:Kw T L q q' L')
  (ht:∀v,q.p s v→q'.p s' v):Has M n s0 a s' L':=
 (h.efw e hT hX .nil).sub fun t r hl=>(hk t r hl).elim (fun h1=>h1.elim (fun e=>by subst e;trivial) fun ⟨h1,h2⟩=>r.mv e.mv (fun b hb=>⟨h2 b hb,fun hx=>e.keep b hx (h2 b hb)⟩) (h.at_ t r h1)) fun ⟨h1,h2⟩=>by subst h1;exact ht _ (h.at_ t q h2)
theorem Has.put' {M:Nat→Prop} {n:Nat} {s0:St} {a:Act} {s:St} {L:Lst} (h:Has M n s0 a s L) {d:Nat} (hd:Nat.blt d n=true) {v:Value} {q:Pd} (hq:q.p s v):Has M n s0 (a.put (some d) v) s ((d,q)::L):=h.put (Ex.refl s) hd hq
theorem Has.keep {M:Nat→Prop} {n:Nat} {s0:St} {a:Act} {s:St} {L L':Lst} (h:Has M n s0 a s L) (hk:Kp (fun _=>False) L L'):Has M n s0 a s L':=h.sub (hk.p h.at_ fun _ _ _ h=>h)
theorem Has.freeze {α:Type} {E:En α} {te:TypeId} {og:Option Nat} {xs:List α} {M:Nat→Prop} {n:Nat} {s0:St} {a:Act} {s:St} {L L':Lst} (h:Has M n s0 a s L) (t:Nat) (hl:lk L t=some (Pd.row E s0.w.heap.size te og xs))
  (hk:Kp (fun b=>og=some b) L L'):∃s',s'.w=s.w∧Has M n s0 a s' ((t,Pd.rep (En.slice E) xs)::L'):=by
 have ho:=h.get t hl;have hlt:∀b,og=some b→s0.w.heap.size≤b:=by
  intro b hb;obtain ⟨h1,h2,h3,css,h4,h5⟩:=ho;exact (h5.lt b (by rw [h1];exact hb)).1
 refine ⟨⟨s.w,fun b=>s.X b∧og≠some b,fun b hb=>s.lt b hb.1⟩,rfl, ?_⟩;have e:Ef (fun b=>og=some b) s ⟨s.w,fun b=>s.X b∧og≠some b,fun b hb=>s.lt b hb.1⟩:=
  ⟨⟨DR.eq rfl,rfl,rfl,rfl,Nat.le_refl _,fun _ _ _=>rfl,fun b hb=>ho.2.1 b hb,fun b hb=>.inl hb.1⟩,fun b hb hn=>⟨hb,hn⟩⟩
 exact (h.ef e hlt hk).cons t (zbj.2 (zdh ho rfl fun b hb=>hb))
section
variable {P : Program} {ops : Array Oper} {o : Oper} {L : Lst}
def spl (cells:List Value) (off:Nat) (cs:List Value):List Value:=cells.take off++cs++cells.drop (off+cs.length)
theorem zd1 {cells cs:List Value} {off:Nat} (h:off+cs.length≤cells.length):(spl cells off cs).length=cells.length:=by simp [spl];omega
theorem fill_step {place:Nat→Option (Nat × Nat)} {cells cs:List Value} {v:Value} {i off size:Nat} {rest:List (Nat × Value)} (hp:place i=some (off,size)) (hv:v.cells=cs.toArray) (hs:cs.length=size)
  (hl:off+size≤cells.length):Instr.fill place cells.toArray ((i,v)::rest)=Instr.fill place (spl cells off cs).toArray rest:=by
 conv=>lhs;unfold Instr.fill
 simp only [hp,hv];rw [if_neg (by simp [hs];omega)]
 congr 1
 apply Array.ext_getElem?;intro j;rw [← Array.foldl_toList,Array.toList_zipIdx];have key:∀(l:List Value) (k:Nat) (acc:Array Value),off+k+l.length≤acc.size→(List.foldl (fun cs (x:Value × Nat)=>match x with | (c,j)=>cs.setIfInBounds (off+j) c) acc (l.zipIdx k))[j]?=if off+k≤j∧j<off+k+l.length then l[j-(off+k)]? else acc[j]?:=by
  intro l
  induction l with
  | nil=>intro k acc _;simp;omega
  | cons u r ih=>
   intro k acc hk;simp only [List.zipIdx_cons,List.foldl_cons];rw [ih (k+1) _ (by simp at hk ⊢;omega)]
   by_cases h1:off+(k+1)≤j∧j<off+(k+1)+r.length
   ·rw [if_pos h1,if_pos (by simp;omega),show j-(off+k)=(j-(off+(k+1)))+1 by omega];simp
   ·rw [if_neg h1]
    by_cases h2:j=off+k
    ·subst h2;rw [if_pos (by simp)];simp at hk;simp [show off+k<acc.size by omega]
    ·rw [if_neg (by simp;omega),Array.getElem?_setIfInBounds_ne (Ne.symm h2)]
 rw [key cs 0 cells.toArray (by simp;omega)];simp only [Nat.add_zero,spl,List.getElem?_toArray]
 by_cases h1:j<off
 ·rw [if_neg (by omega),List.append_assoc,List.getElem?_append_left (by simp;omega),List.getElem?_take,if_pos h1]
 ·by_cases h2:j<off+cs.length
  ·rw [if_pos (by omega),List.append_assoc,List.getElem?_append_right (by simp;omega),List.getElem?_append_left (by simp;omega)]
   congr 1;simp;omega
  ·rw [if_neg (by omega),List.getElem?_append_right (by simp;omega),List.getElem?_drop]
   congr 1;simp;omega
inductive OpL {α:Type} (E:En α) (L:Lst):List Operand→List α→Prop
 | nil:OpL E L [] []
 | cons {x:Operand} {e:α} {xs:List Operand} {es:List α}:Opn L x (Pd.rep E e)→OpL E L xs es→OpL E L (x::xs) (e::es)
theorem fill_row {α:Type} {E:En α} {M:Nat→Prop} {n:Nat} {s0:St} {ac:Act} {s:St} {L:Lst} (hL:Has M n s0 ac s L):∀{xs:List Operand} {es:List α},OpL E L xs es→∀(k:Nat) (pre:List Value) (cells:List Value),pre.length=k*E.sz→cells.length=(k+xs.length)*E.sz→cells.take (k*E.sz)=pre →
  ∃css,Els E s.w (zcd s) css es∧Instr.fill (fun i=>some (i*E.sz,E.sz)) cells.toArray ((xs.zipIdx k).map fun (x,i)=>(i,ac.eval x))=some (pre++css.flatten).toArray:=by
 intro xs es h
 induction h with
 | nil=>
  intro k pre cells hp hc ht;refine ⟨[],⟨rfl,by simp⟩, ?_⟩;simp only [List.zipIdx_nil,List.map_nil,Instr.fill,List.flatten_nil,List.append_nil];rw [← ht,List.take_of_length_le (by simp at hc;omega)]
 | cons hx _ ih=>
  rename_i x e xs es _
  intro k pre cells hp hc ht;obtain ⟨cs,hv,hR⟩:=hx M n s0 ac s hL;have hlen:=E.len hR;have hsz:k*E.sz+E.sz≤cells.length:=by rw [hc,← Nat.succ_mul];exact Nat.mul_le_mul_right _ (by simp)
  obtain ⟨css,hE,hf⟩:=ih (k+1) (pre++cs) (spl cells (k*E.sz) cs) (by simp [hp,hlen,Nat.succ_mul]) (by rw [zd1 (by omega),hc];congr 1;simp;omega) (by
   rw [spl,ht];rw [List.take_append_of_le_length (by simp [hp,hlen,Nat.succ_mul])];rw [List.take_of_length_le (by simp [hp,hlen,Nat.succ_mul])])
  refine ⟨cs::css,⟨by simp [hE.1], ?_⟩, ?_⟩
  ·intro i c y hi hy;cases i with
   | zero=>simp at hi hy;subst hi;subst hy;exact hR
   | succ i=>simp at hi hy;exact hE.2 i c y hi hy
  ·simp only [List.zipIdx_cons,List.map_cons];rw [fill_step (cs:=cs) (off:=k*E.sz) (size:=E.sz) rfl (by rw [hv];exact En.val_cells hR) hlen hsz,hf];simp
theorem run_lit {α:Type} {E:En α} {t te:TypeId} {xs:List Operand} {es:List α} (hx:OpL E L xs es) (ht:P.underlying t=some (.slice te)) (hE:Ty P te E) {k:Nat} {parts:Array (Nat × Operand)} (hk:k=xs.length) (hp:parts=(xs.zipIdx.map fun (x,i)=>(i,x)).toArray)
  (hs:k*E.sz≤16777216) (ho:o.op = .buildSlice t k parts) {M:Nat→Prop} {n:Nat} {s0:St} {ac:Act} {s:St} (hL:Has M n s0 ac s L):es.length=xs.length∧∃css,Els E s.w (zcd s) css es∧(execOp ac.eval o).run P s.w = .ok (.value (.slice (some ⟨s.w.heap.size,0,none⟩) es.length es.length)) (s.push (.cells css.flatten.toArray te)).w:=by
 obtain ⟨i,z,hi,he,hz,hzs,_⟩:=hE.info;have hlen:es.length=xs.length:=by clear hp hk hs ho;induction hx with | nil=>rfl | cons _ _ ih=>simp [ih]
 have hall:∀zero:Array Value,∃css,Els E s.w (zcd s) css es∧Instr.fill (fun i=>some (i*E.sz,E.sz)) ((Array.range (k*E.sz)).map (zero[· % zero.size]!)) (parts.map fun (i,x)=>(i,ac.eval x)).toList=some css.flatten.toArray:=by
  intro zero;obtain ⟨css,hEl,hf⟩:=fill_row hL hx 0 [] ((Array.range (k*E.sz)).map (zero[· % zero.size]!)).toList (by simp) (by simp [hk]) (by simp)
  refine ⟨css,hEl, ?_⟩;have e1:(parts.map fun (i,x)=>(i,ac.eval x)).toList=(xs.zipIdx 0).map fun (x,i)=>(i,ac.eval x):=by rw [hp];simp
  rw [e1];rw [Array.toArray_toList,List.nil_append] at hf;exact hf
 have hfin:∃css,Els E s.w (zcd s) css es∧(execOp ac.eval o).run P s.w = .ok (.value (.slice (some ⟨s.w.heap.size,0,none⟩) es.length es.length)) (s.push (.cells css.flatten.toArray te)).w:=by
  by_cases h:k*E.sz=0
  ·obtain ⟨css,hEl,hf⟩:=hall #[];refine ⟨css,hEl, ?_⟩;unfold execOp;rw [ho];simp only [Instr.buildSlice,Sem.run_bind,run_underlying ht,Result.andThen_ok,z1 hE];rw [if_neg (by omega),if_pos h];simp only [Sem.run_bind,Sem.run_pure,Result.andThen_ok];rw [hf];simp [newRow,St.push,hlen,hk]
  ·obtain ⟨css,hEl,hf⟩:=hall z.cells;refine ⟨css,hEl, ?_⟩;unfold execOp;rw [ho];simp only [Instr.buildSlice,Sem.run_bind,run_underlying ht,Result.andThen_ok,z1 hE];rw [if_neg (by omega),if_neg h];have hzr:(zeroValue te).run P s.w = .ok z s.w:=by simp [zeroValue,typeInfo,hi,hz]
   simp only [Sem.run_bind,hzr,Sem.run_pure,Result.andThen_ok];rw [hf];simp [newRow,St.push,hlen,hk]
 exact ⟨hlen,hfin⟩
theorem zcs {α:Type} {E:En α} {t te:TypeId} {xs:List Operand} {es:List α} (hx:OpL E L xs es) (ht:P.underlying t=some (.slice te)) (hE:Ty P te E) {k:Nat} {parts:Array (Nat × Operand)} (hk:k=xs.length) (hp:parts=(xs.zipIdx.map fun (x,i)=>(i,x)).toArray)
  (hs:k*E.sz≤16777216) (ho:o.op = .buildSlice t k parts) (hg:o.guard=none):T P ops o L (Pd.rep (En.slice E) es):=
 T.mk hg fun M n s0 ac s hL=>by
  obtain ⟨hlen,css,hEl,hr⟩:=run_lit hx ht hE hk hp hs ho hL;refine ⟨_,_,hr,Ex.push s _,zbj.2 ⟨some ⟨s.w.heap.size,0,none⟩,es.length,rfl,Nat.le_refl _,(fun h=>by cases h), ?_,fun _=>⟨s.w.heap.size,0,css,rfl,⟨by simp [St.push],fun h=>by have:=s.lt _ h;omega⟩,⟨hEl.1,fun i cs x a b=>E.psh (hEl.2 i cs x a b)⟩,zd6 s _ te⟩⟩⟩;rw [hlen,← hk];have:k≤k*E.sz:=Nat.le_mul_of_pos_right k E.pos;simp only [lim];omega
theorem zc6 {α:Type} {E:En α} {N:Nat} {te:TypeId} {og:Option Nat} {xs:List α} {s:St} {v:Value} (h:(Pd.row E N te og xs).p s v):∀b,og=some b→N≤b∧b<s.w.heap.size:=by
 obtain ⟨h1,h2,h3,css,h4,h5⟩:=h;intro b hb;exact h5.lt b (by rw [h1];exact hb)
theorem Els.append {α:Type} {E:En α} {w S css dss} {xs ys:List α} (h:Els E w S css xs) (k:Els E w S dss ys):Els E w S (css++dss) (xs++ys):=by
 refine ⟨by simp [h.1,k.1],fun i cs x hi hx=>?_⟩
 by_cases hlt:i<css.length
 ·rw [List.getElem?_append_left hlt] at hi;rw [List.getElem?_append_left (by rw [← h.1];exact hlt)] at hx;exact h.2 i cs x hi hx
 ·rw [List.getElem?_append_right (by omega)] at hi;rw [List.getElem?_append_right (by rw [← h.1];omega),← h.1] at hx;exact k.2 _ cs x hi hx
theorem Els.go {α:Type} {E:En α} {T:Nat→Prop} {s s':St} {css:List (List Value)} {xs:List α} (h:Mv T s s') (hE:Els E s.w (zcd s) css xs):Els E s'.w (zcd s') css xs:=⟨hE.1,fun i cs x a b=>E.go h (hE.2 i cs x a b)⟩
end
end
section
variable {P : Program} {ops : Array Oper} {o : Oper} {L : Lst}
theorem run_appB {α:Type} {E:En α} {t te:TypeId} (ht:P.underlying t=some (.slice te)) (hE:Ty P te E) {N:Nat} {og:Option Nat} {xs ys:List α} {s:St} {v u:Value} (hv:(Pd.row E N te og xs).p s v) (hu:SlV E s.w (zcd s) u ys)
  (hN:N≤s.w.heap.size) (m:Nat) (hm:0<m) (hbm:∃i,P.info? te=some i∧i.bytes≤m) (hlen:(xs.length+ys.length)*m≤140737488355328) (ty:TypeId):∃v' s' og',(Builtin.append_ #[t,t] ty #[v,u]).run P s.w = .ok v' s'.w∧Ef (fun b=>og=some b) s s'∧(Pd.row E N te og' (xs++ys)).p s' v' ∧
   (∀b,og'=some b→og=some b∨s.w.heap.size≤b):=by
 obtain ⟨i,z,hi,hsz,hz,hzs,_⟩:=hE.info;have hby:i.bytes≤m:=by
  obtain ⟨i',h1,h2⟩:=hbm;rw [hi] at h1;cases h1;exact h2
 have hle:xs.length+ys.length≤140737488355328:=Nat.le_trans (Nat.le_mul_of_pos_right _ hm) hlen;have hby0:(xs.length+ys.length)*i.bytes≤140737488355328:=Nat.le_trans (Nat.mul_le_mul (Nat.le_refl _) hby) hlen;obtain ⟨h1,h2,h3,css,h4,h5⟩:=hv;obtain ⟨ad,cap,rfl,hc1,hc2,hc3,hc4⟩:=hu;clear hlen hm hbm
 by_cases hys:ys=[]
 ·-- nothing is appended
  subst hys
  by_cases had:ad=none
  ·subst had;have hcap:=hc2 rfl;subst hcap;refine ⟨v,s,og,run_append_owned_none (P:=P) (w:=s.w) N t ty te i E.sz ht hi v xs.length css.flatten h5,⟨Mv.refl _ s fun b hb=>h2 b hb,fun b hb _=>hb⟩, ?_,fun b hb=>.inl hb⟩;rw [List.append_nil];exact ⟨h1,h2,h3,css,h4,h5⟩
  ·obtain ⟨a,rfl⟩:∃a,ad=some a:=by cases ad with | none=>exact absurd rfl had | some a=>exact ⟨a,rfl⟩
   obtain ⟨v',w',hr,ho,hg,hnil⟩:=run_append_own (P:=P) s.w N t ty te i z E.sz i.bytes ht hi hz hsz rfl hzs E.pos v xs.length css.flatten h5 a 0 cap [] (by simp) (by simp) (by simp) (by simp [maxLen];omega) (by simpa using hby0) hN;have hvv:v'.ownBlock=v.ownBlock:=by
    rcases h5.2 with ⟨rfl,hn⟩ | ⟨g,cp,cur,rfl,_,hgb,hnc,hcm,hcs,htk⟩
    ·rw [hnil.2 ⟨rfl,rfl⟩]
    ·have hrr:=run_append_room (P:=P) s.w t ty te i ht hi g xs.length cp cur hgb a 0 cap [] (by simp) (by simp) (by simp) (by omega) (by rw [hcs,hsz];simp;exact Nat.mul_le_mul_right _ hnc);rw [hrr] at hr;cases hr;rfl
   have hog:v'.ownBlock=og:=hvv.trans h1;have hmv:Mv (fun b=>og=some b) s ⟨w',s.X,fun b hb=>Nat.lt_of_lt_of_le (s.lt b hb) hg.size⟩:=
    ⟨DR.kit,hg.os,hg.tape,hg.output,hg.size,fun b hb hn=>hg.block b hb (fun e=>hn (by rw [← h1];exact e.symm)),fun b hb=>h2 b hb,fun b hb=>.inl hb⟩
   refine ⟨v',⟨w',s.X,fun b hb=>Nat.lt_of_lt_of_le (s.lt b hb) hg.size⟩,og,hr,⟨hmv,fun b hb _=>hb⟩,⟨hog,h2,by simpa using h3,css,by rw [List.append_nil];exact h4.go hmv,by simpa using ho⟩,fun b hb=>.inl hb⟩
 ·obtain ⟨b,off,dss,rfl,hb,hD,hcell⟩:=hc4 hys;have hpos:0<ys.length:=List.length_pos_iff.2 hys;have hdl:dss.flatten.length=ys.length*E.sz:=by rw [zcn hD.lens,hD.1]
  have hone:∀u∈dss.flatten,u.oneCell'=true:=by
   intro u hu;rw [List.mem_flatten] at hu;obtain ⟨cs,hcs,hu⟩:=hu;obtain ⟨j,hj⟩:=List.getElem?_of_mem hcs;have hlt:j<dss.length:=(List.getElem?_eq_some_iff.1 hj).1;exact E.one (hD.2 j cs (ys[j]'(hD.1 ▸ hlt)) hj (by simp)) u hu
  have hby':=hby0;have hnews:∀j u,dss.flatten[j]?=some u→s.w.cell? ((⟨b,off,none⟩:Addr).add j)=some u:=fun j u hu=>by rw [zc0];exact hcell j u hu
  obtain ⟨v',w',hr,ho,hg,hnil⟩:=run_append_own (P:=P) s.w N t ty te i z E.sz i.bytes ht hi hz hsz rfl hzs E.pos v xs.length css.flatten h5 ⟨b,off,none⟩ ys.length cap dss.flatten hdl hnews hone (by simp [maxLen];omega) hby' hN;have hfresh:∀g,v'.ownBlock=some g→og=some g∨s.w.heap.size=g:=by
   intro g hgv;rcases h5.2 with ⟨rfl,hn⟩ | ⟨g',cp,cur,rfl,_,hgb,hnc,hcm,hcs,htk⟩
   ·have hrr:=run_append_nil (P:=P) s.w t ty te i z ht hi hz ⟨b,off,none⟩ ys.length cap dss.flatten (by rw [hsz];exact hdl) hnews hpos (by omega) (by
     have:ys.length*i.bytes≤(xs.length+ys.length)*i.bytes:=Nat.mul_le_mul_right _ (by omega);omega)
    rw [hrr] at hr;cases hr;simp [Value.ownBlock] at hgv;exact .inr hgv
   ·by_cases hroom:xs.length+ys.length≤cp
    ·have hrr:=run_append_room (P:=P) s.w t ty te i ht hi g' xs.length cp cur hgb ⟨b,off,none⟩ ys.length cap dss.flatten (by rw [hsz];exact hdl) hnews hone hroom (by rw [hcs,hsz,hdl,← Nat.add_mul];exact Nat.mul_le_mul_right _ hroom);rw [hrr] at hr;cases hr;left;rw [← h1];exact hgv
    ·have hrr:=run_append_grow (P:=P) s.w t ty te i z ht hi hz ⟨g',0,none⟩ xs.length cp css.flatten (by rw [hsz];exact h5.1) (h5.cells (g:=g') rfl) ⟨b,off,none⟩ ys.length cap dss.flatten (by rw [hsz];exact hdl) hnews (by omega) (by omega) (growslice_fits (by omega) hby');rw [hrr] at hr;cases hr;simp [Value.ownBlock] at hgv;exact .inr hgv
  have hlt:∀g,v'.ownBlock=some g→g<w'.heap.size:=fun g hgv=>(ho.lt g hgv).2;have hmv:Mv (fun b=>og=some b) s ⟨w',fun b=>(s.X b∧og≠some b)∨v'.ownBlock=some b,fun b hb=>hb.elim (fun h=>Nat.lt_of_lt_of_le (s.lt b h.1) hg.size) (hlt b)⟩:=
   ⟨DR.kit,hg.os,hg.tape,hg.output,hg.size,fun b hb hn=>hg.block b hb (fun e=>hn (by rw [← h1];exact e.symm)),fun b hb=>h2 b hb,
    fun b hb=>hb.elim (fun h=>.inl h.1) (fun h=>(hfresh b h).elim (fun h=>.inl (h2 b h)) (fun h=>.inr (Nat.le_of_eq h)))⟩
  refine ⟨v',_,v'.ownBlock,hr,⟨hmv,fun b hb hn=>.inl ⟨hb,hn⟩⟩,⟨rfl,fun g hg=>.inr hg, ?_,css++dss,(h4.go hmv).append (hD.go hmv), ?_⟩,fun g hg=>(hfresh g hg).imp id (fun h=>Nat.le_of_eq h)⟩
  ·simp only [List.length_append,lim];omega
  ·simpa using ho
theorem run_app {α:Type} {E:En α} {t te:TypeId} (ht:P.underlying t=some (.slice te)) (hE:Ty P te E) {N:Nat} {og:Option Nat} {xs ys:List α} {s:St} {v u:Value} (hv:(Pd.row E N te og xs).p s v) (hu:SlV E s.w (zcd s) u ys)
  (hN:N≤s.w.heap.size) (hlen:xs.length+ys.length≤2147483648) (ty:TypeId):∃v' s' og',(Builtin.append_ #[t,t] ty #[v,u]).run P s.w = .ok v' s'.w∧Ef (fun b=>og=some b) s s'∧(Pd.row E N te og' (xs++ys)).p s' v' ∧
   (∀b,og'=some b→og=some b∨s.w.heap.size≤b):=by
 obtain ⟨i,z,hi,hsz,hz,hzs,hby⟩:=hE.info;exact run_appB ht hE hv hu hN 65536 (by decide) ⟨i,hi,hby⟩ (by omega) ty
theorem zed {Q:Exit→Act→World→Prop} {rest:List Oper} {M:Nat→Prop} {n:Nat} {s0:St} {a:Act} {s:St} {α:Type} {E:En α} {te t:TypeId} {og:Option Nat} {xs ys:List α} {x y:Operand} {L':Lst} (d:Nat)
  (hL:Has M n s0 a s L) (hx:Opn L x (Pd.row E s0.w.heap.size te og xs)) (hy:Opn L y (Pd.rep (En.slice E) ys)) (ht:P.underlying t=some (.slice te)) (hE:Ty P te E) (hlen:xs.length+ys.length≤2147483648)
  (ho:o.op = .call { callee:=.builtin .append,args:=#[x,y],argTypes:=#[t,t] }) (hg:o.guard=none) (hd:o.dst=some d) (hn:Nat.blt d n=true) (hk:Kp (fun b=>og=some b) L L')
  (k:∀a' s' og',(∀b,og'=some b→og=some b∨s.w.heap.size≤b)→Has M n s0 a' s' ((d,Pd.row E s0.w.heap.size te og' (xs++ys))::L')→wpList P ops Q rest a' s'.w):wpList P ops Q (o::rest) a s.w:=by
 have h1:=hx M n s0 a s hL;have h2:=zbj.1 (hy M n s0 a s hL);obtain ⟨v',s',og',hr,e,hq,hf⟩:=run_app ht hE h1 h2 hL.ent.mv.size hlen o.type;refine wpList_plain hg fun K hK=>?_;unfold Oper.wp execOp;simp only [ho,resolve,invoke,builtin,Sem.run_bind,Sem.run_pure,Result.andThen_ok,List.map_toArray,List.map_cons,List.map_nil,hr];refine hK _ _ ?_;simp only [hd];exact k _ s' og' hf ((hL.ef e (fun b hb=>(zc6 h1 b hb).1) hk).put' hn hq)
end
section
variable {u : Bool} [Dr u]
section
variable {P : Program} {ops : Array Oper} {o : Oper} {L : Lst}
end
end
end Go.Proofs.YtaknifhhnhcchaaDoor.V
namespace Go.Proofs.YtaknifhhnhcchaaDoor.V
open Go
set_option linter.unusedVariables false
section
variable {u : Bool} [Dr u]
def Vals (s:St):List Pd→List Value→Prop
 | [],[]=>True
 | q::qs,v::vs=>q.p s v∧Vals s qs vs
 | _,_=>False
structure Fn (P:Program) (f:FuncId) (qs:List Pd) (R:St→St→Value→Prop):Prop where
 call:∀(args:Array Value) (w:World),(callFunc f args).run P w = .ok (.enter f args) w
 run:∀s vs,Gl s→Vals s qs vs→Calls P f vs.toArray s.w fun e w'=>∃v s',e = .returned v∧s'.w=w'∧Ex s s'∧R s s' v
def Rq (q:Pd):St→St→Value→Prop:=fun _ s' v=>q.p s' v
def Ro {α:Type} (E:En α) (te:TypeId) (xs:List α):St→St→Value→Prop:=fun s s' v=>∃og,(Pd.row E s.w.heap.size te og xs).p s' v
inductive Opns (L:Lst):List Operand→List Pd→Prop
 | nil:Opns L [] []
 | cons {x:Operand} {q:Pd} {xs:List Operand} {qs:List Pd}:Opn L x q→Opns L xs qs→Opns L (x::xs) (q::qs)
theorem Opns.vals {L:Lst} {xs:List Operand} {qs:List Pd} (h:Opns L xs qs) {M:Nat→Prop} {n:Nat} {s0:St} {a:Act} {s:St} (hL:Has M n s0 a s L):Vals s qs (xs.map a.eval):=by
 induction h with
 | nil=>trivial
 | cons hx _ ih=>exact ⟨hx M n s0 a s hL,ih⟩
theorem row_weak {α:Type} {E:En α} {N N':Nat} {te:TypeId} {og:Option Nat} {xs:List α} {s:St} {v:Value} (hN:N'≤N) (h:(Pd.row E N te og xs).p s v):(Pd.row E N' te og xs).p s v:=by
 obtain ⟨h1,h2,h3,css,h4,h5⟩:=h;refine ⟨h1,h2,h3,css,h4,h5.1,h5.2.imp id ?_⟩;rintro ⟨g,cap,cur,e,hg,r⟩;exact ⟨g,cap,cur,e,Nat.le_trans hN hg,r⟩
theorem Fn.frz {P:Program} {f:FuncId} {qs:List Pd} {α:Type} {E:En α} {te:TypeId} {xs:List α} (h:Fn P f qs (Ro E te xs)):Fn P f qs (Rq (Pd.rep (En.slice E) xs)):=
 ⟨h.call,fun s vs hg hv=>(h.run s vs hg hv).mono fun e w' ⟨v,s',he,hw,hx,og,ho⟩=>by
  have hlt:=zc6 ho;refine ⟨v,⟨s'.w,fun b=>s'.X b∧og≠some b,fun b hb=>s'.lt b hb.1⟩,he,hw, ?_,zbj.2 (zdh ho rfl fun b hb=>hb)⟩;exact ⟨⟨hx.mv.dr,hx.mv.os,hx.mv.tape,hx.mv.output,hx.mv.size,hx.mv.blk,fun _ h=>h.elim,fun b hb=>hx.mv.xx b hb.1⟩,fun b hb=>⟨hx.keep b hb,fun e=>by have:=(hlt b e).1;have:=s.lt b hb;omega⟩⟩⟩
section
variable {P : Program} {ops : Array Oper} {o : Oper} {L : Lst}
theorem zee {f:FuncId} {xs:List Operand} {ats:Array TypeId} {qs R} (hf:Fn P f qs R) (a:Act) (w:World) (ho:o.op = .call { callee:=.value (.func f),args:=xs.toArray,argTypes:=ats }):
  (execOp a.eval o).run P w = .ok (.enter f (xs.map a.eval).toArray) w:=by
 have h:=hf.call (xs.map a.eval).toArray w;have e:execOp a.eval o=callFunc f (#[]++(xs.toArray).map a.eval ++ #[]):=by unfold execOp;rw [ho];rfl
 rw [e];simpa using h
theorem zbd {f:FuncId} {xs:List Operand} {qs:List Pd} {q:Pd} {ats:Array TypeId} (hf:Fn P f qs (Rq q)) (hx:Opns L xs qs) (ho:o.op = .call { callee:=.value (.func f),args:=xs.toArray,argTypes:=ats }) (hg:o.guard=none):
  T P ops o L q:=fun M n s0 a s hL Q k hk=>by
 simp only [Region.wanted,hg,if_true];unfold Oper.wp;rw [zee hf a s.w ho,Oper.upon_enter];refine (hf.run s _ hL.gls (hx.vals hL)).mono fun e w' ⟨v,s',he,hw,hx,hq⟩=>?_;subst he;subst hw;exact hk v s' ⟨hx,hq⟩
end
@[reducible] def num:Nat→List Pd→Lst
 | _,[]=>[]
 | k,q::qs=>(k,q)::num (k+1) qs
def Pst (M:Nat→Prop) (R:St→St→Value→Prop) (s0:St):Ending→World→Prop:=fun e w'=>∃v s',e = .returned v∧s'.w=w'∧Fr M s0 s'∧R s0 s' v
theorem zep {s:St}:∀{qs:List Pd} {vs:List Value} (h:Vals s qs vs) (k t:Nat) (q:Pd),lk (num k qs) t=some q→∃v,k≤t∧vs[t-k]?=some v∧q.p s v
 | [],_,_,k,t,q,hl=>by cases hl
 | q'::qs,[],h,_,_,_,_=>h.elim
 | q'::qs,v::vs,h,k,t,q,hl=>by
  unfold num lk at hl
  by_cases ht:k=t
  ·subst ht;simp at hl;subst hl;exact ⟨v,Nat.le_refl _,by simp,h.1⟩
  ·rw [zef ht] at hl;obtain ⟨u,h1,h2,h3⟩:=zep h.2 (k+1) t q hl;refine ⟨u,by omega, ?_,h3⟩;rw [show t-k=(t-(k+1))+1 by omega];simpa using h2
theorem zeh {s:St}:∀{qs:List Pd} {vs:List Value},Vals s qs vs→vs.length=qs.length
 | [],[],_=>rfl
 | [],_::_,h=>h.elim
 | _::_,[],h=>h.elim
 | _::_,_::_,h=>by simp [zeh h.2]
structure Fm (P:Program) (f:FuncId) (M:Nat→Prop) (qs:List Pd) (R:St→St→Value→Prop):Prop where
 call:∀(args:Array Value) (w:World),(callFunc f args).run P w = .ok (.enter f args) w
 run:∀s vs,Gl s→(∀b,M b→s.X b)→Vals s qs vs→Calls P f vs.toArray s.w fun e w'=>∃v s',e = .returned v∧s'.w=w'∧Fr M s s'∧R s s' v
theorem fm_of {P:Program} {f:FuncId} {fn:Func} {c:Code} {n:Nat} {M:Nat→Prop} {qs:List Pd} {R:St→St→Value→Prop} (hf:P.funcs[f]?=some fn) (hb:fn.body=some c) (hn:fn.ntmps=n) (hm:(fn.name == "runtime.NumGoroutine")=false) (hq:qs.length≤n)
  (h:∀s0 a,Has M n s0 a s0 (num 0 qs)→c.wp P (bodyPost P fn (Pst M R s0)) a s0.w):Fm P f M qs R where
 call:=fun args w=>by
  have hm':¬ fn.name = "runtime.NumGoroutine":=by simpa using hm
  simp [callFunc,hf,hm',hb]
 run:=fun s vs hg hM hv=>by
  refine calls_of_wp hf hb ?_;have hl:=zeh hv;refine h s _ ⟨?_,rfl,Fr.refl hM,hg,fun t q ht=>?_⟩
  ·simp [hn,hl];omega
  ·obtain ⟨v,_,h2,h3⟩:=zep hv 0 t q ht;have:(({ tmps:=vs.toArray++Array.replicate (fn.ntmps-vs.toArray.size) undef,defers:=[] }:Act).eval (.tmp t))=v:=by
    simp only [Nat.sub_zero] at h2;have hlt:t<vs.length:=(List.getElem?_eq_some_iff.1 h2).1;simp only [Act.eval];rw [Array.getD_eq_getD_getElem?,Array.getElem?_append_left (by simpa using hlt)];simp [h2]
   rw [this];exact h3
theorem Fm.fn {P:Program} {f:FuncId} {qs:List Pd} {R:St→St→Value→Prop} (h:Fm P f N0 qs R):Fn P f qs R:=
 ⟨h.call,fun s vs hg hv=>(h.run s vs hg (fun _ h=>h.elim) hv).mono fun e w' ⟨v,s',he,hw,hx,hr⟩=>⟨v,s',he,hw,hx.ex,hr⟩⟩
theorem zb6 {P:Program} {f:FuncId} {fn:Func} {c:Code} {n:Nat} {qs:List Pd} {R:St→St→Value→Prop} (hf:P.funcs[f]?=some fn) (hb:fn.body=some c) (hn:fn.ntmps=n) (hm:(fn.name == "runtime.NumGoroutine")=false) (hq:qs.length≤n)
  (h:∀s0 a,Has N0 n s0 a s0 (num 0 qs)→c.wp P (bodyPost P fn (Pst N0 R s0)) a s0.w):Fn P f qs R:=(fm_of hf hb hn hm hq h).fn
section
variable {P : Program} {fn : Func} {M : Nat → Prop} {n : Nat} {s0 : St} {a : Act} {s : St} {L : Lst} {R : St → St → Value → Prop}
theorem ret1 {t:Nat} (hr:fn.results = #[.tmp t]) (hL:Has M n s0 a s L) (hR:R s0 s (a.eval (.tmp t))):bodyPost P fn (Pst M R s0) .ret a s.w:=
 ⟨hL.defers,_,results_tmp hr a.tmps P s.w,_,s,rfl,rfl,hL.ent,hR⟩
theorem zd7 {t:Nat} {q:Pd} (hr:fn.results = #[.tmp t]) (hL:Has M n s0 a s L) (hl:lk L t=some q):bodyPost P fn (Pst M (Rq q) s0) .ret a s.w:=ret1 hr hL (hL.get t hl)
theorem reto {α:Type} {E:En α} {te:TypeId} {og:Option Nat} {xs:List α} {t:Nat} (hr:fn.results = #[.tmp t]) (hL:Has M n s0 a s L) (hl:lk L t=some (Pd.row E s0.w.heap.size te og xs)):bodyPost P fn (Pst M (Ro E te xs) s0) .ret a s.w:=
 ret1 hr hL ⟨og,hL.get t hl⟩
theorem zdo {a0 t0:Nat} (hr:fn.results = #[.cell a0 t0]) {α:Type} {E:En α} {x:α} (hE:Ty P t0 E) {b o:Nat} {cs:List Value} {S:Nat→Prop} {w w':World} {tmps:Array Value} (hv:tmps.getD a0 undef = .pointer (some ⟨b,o,none⟩)) (hR:E.R w' S cs x) (hc:zbs w b o cs):
  (results fn tmps).run P w = .ok (E.val cs) w:=by
 have:=zbx hE hR hc;rw [Array.getD_eq_getD_getElem?] at hv;simp [results,hr,hv,asAddr,this]
theorem retb {a0 t0:Nat} {α:Type} {E:En α} {x:α} {N g:Nat} (hr:fn.results = #[.cell a0 t0]) (hE:Ty P t0 E) (hL:Has M n s0 a s L) (hl:lk L a0=some (Pd.box E N g x)):bodyPost P fn (Pst M (Rq (Pd.rep E x)) s0) .ret a s.w:=by
 obtain ⟨hv,_,_,cs,t',hc,hR⟩:=hL.get a0 hl;exact ⟨hL.defers,_,zdo hr hE hv hR (zy hc),_,s,rfl,rfl,hL.ent,cs,rfl,hR⟩
end
section
variable {P : Program} {Q : Exit → Act → World → Prop} {M : Nat → Prop} {n : Nat} {s0 : St} {a : Act} {s : St} {L : Lst}
theorem cnd {t:Nat} {b:Bool} {x y:Code} (hL:Has M n s0 a s L) (hl:lk L t=some (Pd.rep En.bool b)) (h1:b=true→x.wp P Q a s.w) (h2:b=false→y.wp P Q a s.w):(Code.cond (.tmp t) x y).wp P Q a s.w:=
 wp_cond_split (zbc.1 (hL.get t hl)) h1 h2
theorem lpg {c:Code} (I:Nat→Act→St→Prop) (k0:Nat) (h0:I k0 a s)
  (round:∀k a s,I k a s→∀K:Act→World→Prop,(∀k' a' s',k' < k→I k' a' s'→K a' s'.w)→c.wp P (Exit.then K Q) a s.w):(Code.loop c).wp P Q a s.w:=by
 refine wp_loop_ghost (fun k a w=>∃s,s.w=w∧I k a s) k0 ⟨s,rfl,h0⟩ ?_;rintro k a w ⟨s,rfl,hI⟩;exact round k a s hI _ fun k' a' s' hk hI'=>⟨k',hk,s',rfl,hI'⟩
end
end
end Go.Proofs.YtaknifhhnhcchaaDoor.V
namespace Go.Proofs.YtaknifhhnhcchaaDoor.V
open Go
set_option linter.unusedVariables false
section
variable {u : Bool} [Dr u]
structure TyZ {α:Type} (P:Program) (t:TypeId) (E:En α) (z:α):Prop where
 zero:∃i v cs,P.info? t=some i∧i.zero=some v∧v.cells=cs.toArray∧∀w S,E.R w S cs z
def Sub {α β:Type} (E:En α) (off:Nat) (E':En β) (x x':α) (y:β):Prop:=
 off+E'.sz≤E.sz∧∀w S cs cs',E.R w S cs x→E'.R w S cs' y→E.R w S (spl cs off cs') x'
theorem zj {α:Type} (E:En α) (x y:α):Sub E 0 E x y y:=
 ⟨by simp,fun w S cs cs' h h'=>by
  have:spl cs 0 cs'=cs':=by
   have h1:=E.len h;have h2:=E.len h';simp [spl,List.drop_of_length_le (show cs.length≤cs'.length by omega)]
  rw [this];exact h'⟩
def St.pushX (s:St) (ob:Obj):St:=⟨s.w.alloc ob,fun b=>s.X b∨b=s.w.heap.size,fun b hb=>hb.elim (fun h=>Nat.lt_of_lt_of_le (s.lt b h) (by simp)) (fun h=>by subst h;simp)⟩
theorem Ex.pushX (s:St) (ob:Obj):Ex s (s.pushX ob):=
 ⟨⟨DR.eq rfl,rfl,rfl,rfl,by simp [St.pushX],fun b hb _=>Go.RowKit.Below.heap_alloc s.w _ b hb,fun _ h=>h.elim,fun b hb=>hb.imp id (fun h=>Nat.le_of_eq h.symm)⟩,fun b hb=>.inl hb⟩
section
variable {P : Program} {ops : Array Oper} {o : Oper} {L L' : Lst} {Q : Exit → Act → World → Prop} {rest : List Oper} {M : Nat → Prop} {n : Nat} {s0 : St} {a : Act} {s : St}
theorem st_lito {α:Type} {E:En α} {te t:TypeId} {xs:List Operand} {es:List α} {k:Nat} {parts:Array (Nat × Operand)} (d:Nat)
  (hL:Has M n s0 a s L) (hx:OpL E L xs es) (ht:P.underlying t=some (.slice te)) (hE:Ty P te E) (hk:k=xs.length) (hp:parts=(xs.zipIdx.map fun (x,i)=>(i,x)).toArray) (hs:k*E.sz≤16777216) (ho:o.op = .buildSlice t k parts) (hg:o.guard=none) (hd:o.dst=some d) (hn:Nat.blt d n=true)
  (kk:∀a' s' g,s.w.heap.size≤g→Has M n s0 a' s' ((d,Pd.row E s0.w.heap.size te (some g) es)::L)→wpList P ops Q rest a' s'.w):wpList P ops Q (o::rest) a s.w:=by
 obtain ⟨hlen,css,hEl,hr⟩:=run_lit hx ht hE hk hp hs ho hL;have hk1:k≤k*E.sz:=Nat.le_mul_of_pos_right k E.pos;refine wpList_plain hg fun K hK=>?_;unfold Oper.wp;rw [hr];refine hK _ _ ?_;simp only [hd];have hfl:css.flatten.length=es.length*E.sz:=by rw [zcn hEl.lens,hEl.1]
 refine kk _ (s.pushX (.cells css.flatten.toArray te)) s.w.heap.size (Nat.le_refl _) (hL.put (Ex.pushX s _) hn ⟨rfl,fun g hg=>?_, ?_,css,⟨hEl.1,fun i cs x a b=>E.go (Ex.pushX s _).mv (hEl.2 i cs x a b)⟩, ?_⟩)
 ·cases hg;exact .inr rfl
 ·simp only [lim];omega
 ·refine ⟨hfl,.inr ⟨s.w.heap.size,es.length,css.flatten.toArray,rfl,hL.ent.mv.size,heap_alloc_new s.w _,Nat.le_refl _, ?_,by simpa using hfl, ?_⟩⟩
  ·simp only [maxLen];omega
  ·simp;rw [← hfl,List.take_length]
theorem zba {α:Type} (E:En α) {z:α} {t:TypeId} (d:Nat) (hL:Has M n s0 a s L) (hz:TyZ P t E z) (ho:o.op = .alloc t) (hg:o.guard=none) (hd:o.dst=some d) (hn:Nat.blt d n=true)
  (k:∀a' s' g,s.w.heap.size≤g→Has M n s0 a' s' ((d,Pd.box E s0.w.heap.size g z)::L)→wpList P ops Q rest a' s'.w):wpList P ops Q (o::rest) a s.w:=by
 obtain ⟨i,v,cs,h1,h2,h3,h4⟩:=hz.zero;have hr:(execOp a.eval o).run P s.w = .ok (.value (.pointer (some ⟨s.w.heap.size,0,none⟩))) (s.pushX (.cells cs.toArray t)).w:=by
  unfold execOp;rw [ho];simp [Instr.alloc,zeroValue,typeInfo,h1,h2,newVar,newRow,h3,St.pushX]
 refine wpList_plain hg fun K hK=>?_;unfold Oper.wp;rw [hr];refine hK _ _ ?_;simp only [hd];exact k _ _ s.w.heap.size (Nat.le_refl _) (hL.put (Ex.pushX s _) hn ⟨rfl,hL.ent.mv.size,.inr rfl,cs,t,heap_alloc_new s.w _,h4 _ _⟩)
theorem zc2 {α:Type} {E:En α} {x:α} {t:TypeId} (ht:Ty P t E) {w w':World} {S:Nat→Prop} {cs:List Value} (hR:E.R w' S cs x) {g off:Nat} {cur:List Value} {te:TypeId} (hg:w.heap[g]?=some (.cells cur.toArray te (0,0))) (hl:off+E.sz≤cur.length):
  (Instr.storeAt t (.pointer (some ⟨g,off,none⟩)) (E.val cs)).run P w = .ok () (w.setRow g (spl cur off cs).toArray):=by
 have hlen:=E.len hR;have:=run_storeCells_at P g off te cs 0 cur.toArray w hg (by simp;omega) (E.one hR);simp only [Instr.storeAt,Instr.sureAddr,Sem.run_bind,Sem.run_pure,Result.andThen_ok,storeVar,z1 ht,En.val_cells hR];rw [if_neg (by simp [hlen])];simpa [spl] using this
def St.set (s:St) (g:Nat) (cs:List Value):St:=⟨s.w.setRow g cs.toArray,s.X,fun b hb=>by simpa [World.setRow] using s.lt b hb⟩
theorem Ef.set (s:St) {g:Nat} (cs:List Value) {T:Nat→Prop} (hT:∀b,T b↔b=g) (hx:s.X g):Ef T s (s.set g cs):=
 ⟨⟨DR.eq rfl,rfl,rfl,rfl,by simp [St.set,World.setRow],fun b _ hn=>setRow_other s.w g b _ (fun e=>hn ((hT b).2 e)),fun b hb=>by rw [(hT b).1 hb];exact hx,fun b hb=>.inl hb⟩,fun b hb _=>hb⟩
theorem zds {t:TypeId} {x y:Operand} {w':World} (hr:(Instr.storeAt t (a.eval x) (a.eval y)).run P s.w = .ok () w') (ho:o.op = .store t x y) (hg:o.guard=none) (hd:o.dst=none) (k:wpList P ops Q rest a w'):wpList P ops Q (o::rest) a s.w:=by
 refine wpList_plain hg fun K hK=>?_;unfold Oper.wp execOp;simp only [ho,Sem.run_bind,hr,Result.andThen_ok,Sem.run_pure];refine hK _ _ ?_;simp only [hd];exact k
theorem st_stob {α β:Type} {E:En α} {E':En β} {x0 x1:α} {y0 y1:β} {g off:Nat} {x y:Operand} {t:TypeId} (c:Nat) (hL:Has M n s0 a s L) (hc:lk L c=some (Pd.box E s0.w.heap.size g x0)) (hx:Opn L x (Pd.optr E' s0.w.heap.size (some g) off y0)) (hy:Opn L y (Pd.rep E' y1))
  (hs:Sub E off E' x0 x1 y1) (ht:Ty P t E') (ho:o.op = .store t x y) (hg:o.guard=none) (hd:o.dst=none) (hk:Kp (fun b=>some g=some b) L L')
  (k:∀s',Has M n s0 a s' ((c,Pd.box E s0.w.heap.size g x1)::L')→wpList P ops Q rest a s'.w):wpList P ops Q (o::rest) a s.w:=by
 obtain ⟨hv,hN,hX,cur,te,hgb,hR⟩:=hL.get c hc;obtain ⟨g',hgg,hxv,_⟩:=hx M n s0 a s hL;cases hgg;obtain ⟨cs,hyv,hR'⟩:=hy M n s0 a s hL;have hlen:=E.len hR;have hr:=zc2 (P:=P) ht hR' (g:=g) (off:=off) hgb (by rw [hlen];exact hs.1);refine zds (s:=s) (by rw [hxv,hyv];exact hr) ho hg hd ?_;have e:Ef (fun b=>some g=some b) s (s.set g (spl cur off cs)):=Ef.set s _ (fun b=>by simp [eq_comm]) hX;refine k (s.set g (spl cur off cs)) ((hL.ef e (fun b hb=>by cases hb;exact hN) hk).cons c ⟨hv,hN,hX,_,te,setRow_heap s.w g _ _ te (0,0) hgb, ?_⟩);exact E.go e.mv (hs.2 _ _ _ _ hR hR')
theorem zbh {α:Type} {E:En α} {x0 x1:α} {g:Nat} {y:Operand} {t:TypeId} (c:Nat) (hL:Has M n s0 a s L) (hc:lk L c=some (Pd.box E s0.w.heap.size g x0)) (hy:Opn L y (Pd.rep E x1))
  (ht:Ty P t E) (ho:o.op = .store t (.tmp c) y) (hg:o.guard=none) (hd:o.dst=none) (hk:Kp (fun b=>some g=some b) L L')
  (k:∀s',Has M n s0 a s' ((c,Pd.box E s0.w.heap.size g x1)::L')→wpList P ops Q rest a s'.w):wpList P ops Q (o::rest) a s.w:=by
 refine st_stob (off:=0) (y0:=x0) (E':=E) c hL hc ?_ hy (zj E x0 x1) ht ho hg hd hk k;intro M' n' s0' a' s' hL';obtain ⟨hv,hN,hX,cur,te,hgb,hR⟩:=hL'.get c hc;exact ⟨g,rfl,hv,hN,(Array.getElem?_eq_some_iff.1 hgb).1,hX,cur,zy hgb,hR⟩
theorem spl_flat {css:List (List Value)} {m i off:Nat} {cs cs':List Value} (h:∀c∈css,c.length=m) (hi:css[i]?=some cs) (ho:off+cs'.length≤m):spl css.flatten (i*m+off) cs'=(css.set i (spl cs off cs')).flatten:=by
 induction css generalizing i with
 | nil=>simp at hi
 | cons c r ih=>
  have hc:c.length=m:=h c (by simp);cases i with
  | zero=>
   simp at hi;subst hi;simp only [List.set_cons_zero,List.flatten_cons,Nat.zero_mul,Nat.zero_add,spl];rw [List.take_append_of_le_length (by omega),List.drop_append_of_le_length (by omega)];simp
  | succ i=>
   simp at hi;simp only [List.set_cons_succ,List.flatten_cons];rw [← ih (fun x hx=>h x (by simp [hx])) hi];simp only [spl];have e1:(i+1)*m+off=c.length+(i*m+off):=by rw [hc,Nat.succ_mul];omega
   rw [e1,List.take_length_add_append,Nat.add_assoc,List.drop_length_add_append];simp
theorem at_some {α:Type} {xs:List α} {i:Int} {e:α} (h:at? xs i=some e):0≤i∧xs[i.toNat]?=some e:=by
 unfold at? at h;split at h
 ·exact ⟨by assumption,h⟩
 ·cases h
theorem row_uniq {α:Type} {E:En α} {N N':Nat} {te:TypeId} {og:Option Nat} {xs:List α} {u v:Value} (h:(Pd.row E N te og xs).p s u) (k:(Pd.row E N' te og xs).p s v):u=v:=by
 obtain ⟨h1,_,_,css,h4,h5⟩:=h;obtain ⟨k1,_,_,dss,k4,k5⟩:=k;rcases h5.2 with ⟨e,hn⟩ | ⟨g,cap,cur,e,hN,hg,hnc,hcm,hcz,ht⟩
 ·subst e;rcases k5.2 with ⟨e',_⟩ | ⟨g',cap',cur',e',hN',hg',_,_,hcz',_⟩
  ·exact e'.symm
  ·subst e';rw [← h1] at k1;cases k1
 ·subst e;rcases k5.2 with ⟨e',_⟩ | ⟨g',cap',cur',e',hN',hg',_,_,hcz',_⟩
  ·subst e';rw [← h1] at k1;cases k1
  ·subst e';have hgg:g'=g:=by rw [← h1] at k1;simpa [Value.ownBlock] using k1
   subst hgg;rw [hg] at hg';simp only [Option.some.injEq,Obj.cells.injEq] at hg';have:cap*E.sz=cap'*E.sz:=by rw [← hcz,← hcz',hg'.1]
   have:=Nat.eq_of_mul_eq_mul_right E.pos this;rw [this]
theorem st_storC {α β:Type} {E:En α} {E':En β} {xs:List α} {e0 e1:α} {y0 y1:β} {og:Option Nat} {off:Nat} {N:Nat} {i:Int} {x y:Operand} {t te:TypeId} {vc:Value} (hrow:(Pd.row E N te og xs).p s vc) (hi:at? xs i=some e0)
  (hx:(Pd.optr E' N og (i.toNat*E.sz+off) y0).p s (a.eval x)) (hy:(Pd.rep E' y1).p s (a.eval y)) (hs:Sub E off E' e0 e1 y1) (ht:Ty P t E') (ho:o.op = .store t x y) (hg:o.guard=none) (hd:o.dst=none)
  (k:∀s',Ef (fun b=>og=some b) s s'→(∀b,s.X b→s'.X b)→(Pd.row E N te og (xs.set i.toNat e1)).p s' vc→wpList P ops Q rest a s'.w):wpList P ops Q (o::rest) a s.w:=by
 obtain ⟨h1,h2,h3,css,h4,h5⟩:=hrow;obtain ⟨g,hog,hxv,hN,hgl,hX,_⟩:=hx;obtain ⟨cs',hyv,hR'⟩:=hy;obtain ⟨hi0,hie⟩:=at_some hi;have hlt:i.toNat<xs.length:=(List.getElem?_eq_some_iff.1 hie).1;obtain ⟨cs,hcs⟩:∃cs,css[i.toNat]?=some cs:=⟨css[i.toNat]'(by rw [h4.1];exact hlt),by simp⟩;have hR:=h4.2 _ _ _ hcs hie;rcases h5.2 with ⟨e',hn⟩ | ⟨g',cap,cur,ev,hN',hgb,hnc,hcm,hcz,htk⟩
 ·omega
 ·have hgg:g'=g:=by rw [← h1,ev] at hog;simpa [Value.ownBlock] using hog
  subst hgg;have hfl:css.flatten.length=xs.length*E.sz:=by rw [zcn h4.lens,h4.1]
  have hlen':=E'.len hR';have hin:i.toNat*E.sz+E.sz≤xs.length*E.sz:=by rw [← Nat.succ_mul];exact Nat.mul_le_mul_right _ hlt
  have hcap:xs.length*E.sz≤cur.size:=by rw [hcz];exact Nat.mul_le_mul_right _ hnc
  have hb:i.toNat*E.sz+off+E'.sz≤cur.toList.length:=by have:=hs.1;simp;omega
  have hr:=zc2 (P:=P) ht hR' (g:=g') (off:=i.toNat*E.sz+off) (cur:=cur.toList) (te:=te) (by simpa using hgb) hb;refine zds (s:=s) (by rw [hxv,hyv];exact hr) ho hg hd ?_;have hT:∀b,og=some b↔b=g':=fun b=>by rw [hog];simp [eq_comm]
  have e:Ef (fun b=>og=some b) s (s.set g' (spl cur.toList (i.toNat*E.sz+off) cs')):=Ef.set s _ hT hX;refine k (s.set g' (spl cur.toList (i.toNat*E.sz+off) cs')) e (fun b h=>h) ⟨h1,h2,by simpa using h3,css.set i.toNat (spl cs off cs'), ?_, ?_,.inr ⟨g',cap,(spl cur.toList (i.toNat*E.sz+off) cs').toArray,by simpa using ev,hN',setRow_heap s.w g' cur _ te (0,0) hgb,by simpa using hnc,hcm, ?_, ?_⟩⟩
  ·refine ⟨by simp [h4.1],fun j c' x' hj hx'=>E.go e.mv ?_⟩
   by_cases hji:j=i.toNat
   ·subst hji;rw [List.getElem?_set_self (by rw [h4.1];exact hlt)] at hj;rw [List.getElem?_set_self hlt] at hx';cases hj;cases hx';exact hs.2 _ _ _ _ hR hR'
   ·rw [List.getElem?_set_ne (Ne.symm hji)] at hj hx';exact h4.2 j c' x' hj hx'
  ·rw [zcn (n:=E.sz),List.length_set,List.length_set,h4.1];intro c' hc';rcases List.mem_or_eq_of_mem_set hc' with h | h
   ·exact h4.lens c' h
   ·subst h;rw [zd1 (by rw [E.len hR,hlen'];exact hs.1)];exact E.len hR
  ·have:(spl cur.toList (i.toNat*E.sz+off) cs').length=cur.toList.length:=zd1 (by rw [hlen'];exact hb);simp [this,hcz]
  ·rw [← spl_flat h4.lens hcs (by rw [hlen'];exact hs.1)];simp only [List.length_set];have h6:cur.toList=css.flatten++cur.toList.drop (xs.length*E.sz):=by rw [← htk];exact (List.take_append_drop _ _).symm
   have h7:spl cur.toList (i.toNat*E.sz+off) cs'=spl css.flatten (i.toNat*E.sz+off) cs'++cur.toList.drop (xs.length*E.sz):=by
    have hsz:=hs.1
    conv=>lhs;rw [h6]
    simp only [spl];rw [List.take_append_of_le_length (by rw [hfl];omega),List.drop_append_of_le_length (by rw [hfl,hlen'];omega)];simp
   have h8:(spl css.flatten (i.toNat*E.sz+off) cs').length=xs.length*E.sz:=by
    rw [zd1 (by rw [hfl,hlen'];have:=hs.1;omega),hfl]
   rw [h7,List.take_append_of_le_length (Nat.le_of_eq h8.symm),List.take_of_length_le (Nat.le_of_eq h8)]
end
end
section
variable {P : Program} {ops : Array Oper} {o : Oper} {L L' : Lst} {Q : Exit → Act → World → Prop} {rest : List Oper} {M : Nat → Prop} {n : Nat} {s0 : St} {a : Act} {s : St}
end
section
variable {u : Bool} [Dr u]
section
variable {P : Program} {ops : Array Oper} {o : Oper} {L L' : Lst} {Q : Exit → Act → World → Prop} {rest : List Oper} {M : Nat → Prop} {n : Nat} {s0 : St} {a : Act} {s : St}
end
def Dis (a b:Option Nat):Prop:=∀k,a=some k→b=some k→False
theorem Dis.symm {a b:Option Nat} (h:Dis a b):Dis b a:=fun k h1 h2=>h k h2 h1
theorem Dis.none {b:Option Nat}:Dis none b:=fun _ h _=>by cases h
theorem Dis.ow {a b:Option Nat} (h:Dis a b):∀k,a=some k→¬ b=some k:=fun k h1 h2=>h k h1 h2
theorem Dis.bx {g:Nat} {b:Option Nat} (h:Dis (some g) b):∀k,k=g→¬ b=some k:=fun k h1 h2=>h k (by rw [h1]) h2
theorem Dis.newg {g:Nat} {b:Option Nat} {N:Nat} (h:N≤g) (hb:∀k,b=some k→k<N):Dis (some g) b:=fun k h1 h2=>by cases h1;have:=hb g h2;omega
theorem Dis.app {a a' b:Option Nat} {N:Nat} (h:∀k,a'=some k→a=some k∨N≤k) (hd:Dis a b) (hb:∀k,b=some k→k<N):Dis a' b:=fun k h1 h2=>(h k h1).elim (fun h=>hd k h h2) (fun h=>by have:=hb k h2;omega)
theorem Has.rlt {α:Type} {E:En α} {N:Nat} {te:TypeId} {og:Option Nat} {xs:List α} {M:Nat→Prop} {n:Nat} {s0:St} {a:Act} {s:St} {L:Lst} (h:Has M n s0 a s L) (t:Nat) (hl:lk L t=some (Pd.row E N te og xs)):∀k,og=some k→k<s.w.heap.size:=fun k hk=>(zc6 (h.get t hl) k hk).2
theorem Has.blt {α:Type} {E:En α} {N g:Nat} {x:α} {M:Nat→Prop} {n:Nat} {s0:St} {a:Act} {s:St} {L:Lst} (h:Has M n s0 a s L) (t:Nat) (hl:lk L t=some (Pd.box E N g x)):∀k,some g=some k→k<s.w.heap.size:=fun k hk=>by
 cases hk;obtain ⟨_,_,_,_,_,hc,_⟩:=h.get t hl;exact (Array.getElem?_eq_some_iff.1 hc).1
theorem rdl {P:Program} {id:Nat} {l:List Oper} {Q:Exit→Act→World→Prop} {M:Nat→Prop} {n:Nat} {s0:St} {a:Act} {s:St} {L:Lst} (hf:P.follows .mixedOrders=true) (m:Nat) (qs:List Pd)
  (hL:Has M n s0 a s L) (hok:zcg l.toArray m n (L.map (·.1)) []=true) (hq:qs.length=m) (hm:m≤l.length)
  (hT:∀i o q,i<m→l[i]?=some o→qs[i]?=some q→T P l.toArray o (depL l.toArray qs o.after.toList L) q)
  (hB:∀a' s',Ex s s'→Has M n s0 a' s' (zer l.toArray qs m L)→wpList P l.toArray Q (l.drop m) a' s'.w):(Code.region id l.toArray true).wp P Q a s.w:=by
 refine rd hf m qs hL hok hq (by simpa using hm) (fun i o q hi ho=>hT i o q hi (by simpa using ho)) fun a' s' e h=>?_;have:=hB a' s' e h;rw [← wpOps_eq_wpList (l.drop m) m (fun j=>by simp)] at this;simpa using this
def zbf (P:Program) (ops:Array Oper) (qs0:List Pd) (L:Lst):List Oper→List Pd→Prop
 | _,[]=>True
 | [],_::_=>False
 | o::l,q::qs=>T P ops o (depL ops qs0 o.after.toList L) q∧zbf P ops qs0 L l qs
theorem zbf.at {P:Program} {ops:Array Oper} {qs0:List Pd} {L:Lst}:∀(l:List Oper) (qs:List Pd),zbf P ops qs0 L l qs→∀(i:Nat) (o:Oper) (q:Pd),l[i]?=some o→qs[i]?=some q→T P ops o (depL ops qs0 o.after.toList L) q
 | _,[],_,i,o,q,_,hq=>by simp at hq
 | [],_::_,h,_,_,_,_,_=>h.elim
 | o'::l,q'::qs,h,i,o,q,ho,hq=>by
  cases i with
  | zero=>simp only [List.getElem?_cons_zero,Option.some.injEq] at ho hq;subst ho;subst hq;exact h.1
  | succ i=>simp only [List.getElem?_cons_succ] at ho hq;exact zbf.at l qs h.2 i o q ho hq
theorem zbf.cons {P:Program} {ops:Array Oper} {qs0:List Pd} {L:Lst} {o:Oper} {l:List Oper} {q:Pd} {qs:List Pd} (h:T P ops o (depL ops qs0 o.after.toList L) q) (h2:zbf P ops qs0 L l qs):zbf P ops qs0 L (o::l) (q::qs):=⟨h,h2⟩
theorem zbf.nil {P:Program} {ops:Array Oper} {qs0:List Pd} {L:Lst} {l:List Oper}:zbf P ops qs0 L l []:=by cases l <;> trivial
theorem rda {P:Program} {id:Nat} {l:List Oper} {Q:Exit→Act→World→Prop} {M:Nat→Prop} {n:Nat} {s0:St} {a:Act} {s:St} {L:Lst} (hf:P.follows .mixedOrders=true) (m:Nat) (qs:List Pd)
  (hL:Has M n s0 a s L) (hok:zcg l.toArray m n (L.map (·.1)) []=true) (hq:Nat.beq qs.length m=true) (hm:Nat.ble m l.length=true)
  (hT:zbf P l.toArray qs L l qs)
  (hB:∀a' s',Ex s s'→Has M n s0 a' s' (zer l.toArray qs m L)→wpList P l.toArray Q (l.drop m) a' s'.w):(Code.region id l.toArray true).wp P Q a s.w:=
 rdl hf m qs hL hok (Nat.eq_of_beq_eq_true hq) (Nat.le_of_ble_eq_true hm) (fun i o q _ ho hq=>zbf.at l qs hT i o q ho hq) hB
def zdd (P:Program) (ops:Array Oper) (qs0:List Pd) (L:Lst) (F:List Nat):Nat→List Oper→List Pd→Prop
 | _,_,[]=>True
 | _,[],_::_=>False
 | i,o::l,q::qs=>(F.contains i=false→T P ops o (depL ops qs0 o.after.toList L) q)∧zdd P ops qs0 L F (i+1) l qs
theorem zdd.at {P:Program} {ops:Array Oper} {qs0:List Pd} {L:Lst} {F:List Nat}:∀(k:Nat) (l:List Oper) (qs:List Pd),zdd P ops qs0 L F k l qs→∀(i:Nat) (o:Oper) (q:Pd),l[i]?=some o→qs[i]?=some q→F.contains (k+i)=false→T P ops o (depL ops qs0 o.after.toList L) q
 | _,_,[],_,i,o,q,_,hq,_=>by simp at hq
 | _,[],_::_,h,_,_,_,_,_,_=>h.elim
 | k,o'::l,q'::qs,h,i,o,q,ho,hq,hF=>by
  cases i with
  | zero=>simp only [List.getElem?_cons_zero,Option.some.injEq] at ho hq;subst ho;subst hq;exact h.1 hF
  | succ i=>simp only [List.getElem?_cons_succ] at ho hq;exact zdd.at (k+1) l qs h.2 i o q ho hq (by rw [← hF];congr 1;omega)
theorem zdd.cons {P:Program} {ops:Array Oper} {qs0:List Pd} {L:Lst} {F:List Nat} {i:Nat} {o:Oper} {l:List Oper} {q:Pd} {qs:List Pd} (h:T P ops o (depL ops qs0 o.after.toList L) q) (h2:zdd P ops qs0 L F (i+1) l qs):zdd P ops qs0 L F i (o::l) (q::qs):=⟨fun _=>h,h2⟩
theorem zdd.skip {P:Program} {ops:Array Oper} {qs0:List Pd} {L:Lst} {F:List Nat} {i:Nat} {o:Oper} {l:List Oper} {q:Pd} {qs:List Pd} (h:F.contains i=true) (h2:zdd P ops qs0 L F (i+1) l qs):zdd P ops qs0 L F i (o::l) (q::qs):=⟨fun h'=>(by rw [h] at h';cases h'),h2⟩
theorem zdd.nil {P:Program} {ops:Array Oper} {qs0:List Pd} {L:Lst} {F:List Nat} {i:Nat} {l:List Oper}:zdd P ops qs0 L F i l []:=by cases l <;> trivial
theorem fl_go {P:Program} {l:List Oper} {Q:Exit→Act→World→Prop} {M:Nat→Prop} {n:Nat} {s0:St} {a:Act} {s:St} {L:Lst} {f:Nat} {listed:Array Bool} (m:Nat) (qs:List Pd) (F:List Nat) (hL:Has M n s0 a s L)
  (hok:zcg l.toArray m n (L.map (·.1)) F=true) (hst:okStart l.toArray listed m F=true) (hc:((List.range l.toArray.size).filter (fun i=>!listed.getD i true)).length=f) (hfl:FlOk l.toArray qs L F) (hq:Nat.beq qs.length m=true) (hm:Nat.ble m l.length=true)
  (hT:zdd P l.toArray qs L F 0 l qs)
  (hB:∀a' s',Ex s s'→Has M n s0 a' s' (zer l.toArray qs m L)→wpList P l.toArray Q (l.drop m) a' s'.w):wpAny P .any l.toArray Q f listed a s.w:=by
 refine fl_end m qs F hL hok hst hc hfl (Nat.eq_of_beq_eq_true hq) (by simpa using Nat.le_of_ble_eq_true hm) (fun i o q _ ho hq hF=>zdd.at 0 l qs hT i o q (by simpa using ho) hq (by simpa using hF)) fun a' s' e h=>?_;have:=hB a' s' e h;rw [← wpOps_eq_wpList (l.drop m) m (fun j=>by simp)] at this;simpa using this
theorem y_move {P:Program} {o:Oper} {L:Lst} {x:Operand} {q:Pd} (h:Opn L x q) (ho:o.op = .move x) (hg:o.guard=none):TY P o L q:=
 ⟨hg,fun M n s0 a s hL=>⟨a.eval x,fun w=>by unfold execOp;rw [ho];rfl,h M n s0 a s hL⟩⟩
theorem o_nil {α:Type} {E:En α} {N:Nat} {te:TypeId} {L:Lst}:Opn L (.const (.slice none 0 0)) (Pd.row E N te none ([]:List α)):=o_c fun s=>zeo E N te s
theorem o_nilr {α:Type} {E:En α} {L:Lst}:Opn L (.const (.slice none 0 0)) (Pd.rep (En.slice E) ([]:List α)):=o_c fun s=>zbj.2 (zbu E _ _)
section
variable {P : Program} {ops : Array Oper} {o : Oper} {L : Lst}
end
end
end Go.Proofs.YtaknifhhnhcchaaDoor.V
namespace Go.Proofs.YtaknifhhnhcchaaDoor.V
open Go
set_option linter.unusedVariables false
section
variable {u : Bool} [Dr u]
structure Eqv {α:Type} [BEq α] (P:Program) (t:TypeId) (E:En α):Prop where
 eql:∀(w:World) (S:Nat→Prop) (cs ds:List Value) (x y:α) (a b:Operand),E.R w S cs x→E.R w S ds y →
  (do eqGuard .eql t a b (E.val cs) (E.val ds);binOp .eql t (E.val cs) (E.val ds):Sem Value).run P w = .ok (.bool (x==y)) w
 neq:∀(w:World) (S:Nat→Prop) (cs ds:List Value) (x y:α) (a b:Operand),E.R w S cs x→E.R w S ds y →
  (do eqGuard .neq t a b (E.val cs) (E.val ds);binOp .neq t (E.val cs) (E.val ds):Sem Value).run P w = .ok (.bool (x != y)) w
section
variable {P : Program} {ops : Array Oper} {o : Oper} {L : Lst}
theorem t_nev {α:Type} [BEq α] {E:En α} {t u:TypeId} (he:Eqv P t E) {x y:Operand} {a b:α} (hx:Opn L x (Pd.rep E a)) (hy:Opn L y (Pd.rep E b)) (ho:o.op = .binOp .neq t x y u) (hg:o.guard=none):T P ops o L (Pd.rep En.bool (a != b)):=
 T.pure hg fun M n s0 ac s hL=>by
  obtain ⟨cs,h1,hR⟩:=hx M n s0 ac s hL;obtain ⟨ds,h2,hS⟩:=hy M n s0 ac s hL;refine ⟨.bool (a != b), ?_,zbc.2 rfl⟩;have:=he.neq s.w _ cs ds a b x y hR hS;unfold execOp;rw [ho];simp only [h1,h2,Sem.run_bind] at this ⊢;rw [this];rfl
end
section
variable {P : Program} {ops : Array Oper} {o : Oper} {L : Lst}
end
end
end Go.Proofs.YtaknifhhnhcchaaDoor.V
namespace Go.Proofs.YtaknifhhnhcchaaDoor.V
open Go
set_option linter.unusedVariables false
section
variable {u : Bool} [Dr u]
theorem inR_i64 {x:Int}:InR .i64 x↔-9223372036854775808≤x∧x≤9223372036854775807:=by simp [InR,IntKind.min,IntKind.max,IntKind.signed,IntKind.bits]
section
variable {P : Program} {ops : Array Oper} {o : Oper} {L : Lst}
end
end
end Go.Proofs.YtaknifhhnhcchaaDoor.V
namespace Go.Proofs.YtaknifhhnhcchaaDoor.V
open Go
theorem zdj:Tryd.prog.follows .mixedOrders=true:=by kernel_rfl
theorem laid:laidOutB Tryd.prog=true:=by kernel_rfl
theorem own:ownKnob Tryd.prog.godebug=none:=by kernel_rfl
set_option linter.unusedVariables false
section
variable {u : Bool} [Dr u]
def Pd.prow {α:Type} (E:En α) (te:TypeId) (v0:Value) (xs:List α):Pd:=
 ⟨fun s v=>v=v0∧(Pd.row E 0 te v0.ownBlock xs).p s v,fun b=>v0.ownBlock=some b,fun h hb hp=>⟨hp.1,(Pd.row E 0 te v0.ownBlock xs).mv h hb hp.2⟩⟩
section
variable {P : Program} {ops : Array Oper} {o : Oper} {L L' : Lst} {Q : Exit → Act → World → Prop} {rest : List Oper} {M : Nat → Prop} {n : Nat} {s0 : St} {a : Act} {s : St}
theorem o_p {α:Type} {E:En α} {te:TypeId} {v0:Value} {xs:List α} {x:Operand} (h:Opn L x (Pd.prow E te v0 xs)):Opn L x (Pd.row E 0 te v0.ownBlock xs):=fun M n s0 a s hL=>(h M n s0 a s hL).2
theorem st_storp {α β:Type} {E:En α} {E':En β} {xs:List α} {e0 e1:α} {y0 y1:β} {v0:Value} {off:Nat} {i:Int} {x y:Operand} {t te:TypeId} (c:Nat) (hw:∀b,v0.ownBlock=some b→M b) (hL:Has M n s0 a s L) (hc:lk L c=some (Pd.prow E te v0 xs)) (hi:at? xs i=some e0)
  (hx:Opn L x (Pd.optr E' 0 v0.ownBlock (i.toNat*E.sz+off) y0)) (hy:Opn L y (Pd.rep E' y1)) (hs:Sub E off E' e0 e1 y1) (ht:Ty P t E') (ho:o.op = .store t x y) (hg:o.guard=none) (hd:o.dst=none) (hk:Kw (fun b=>v0.ownBlock=some b) L (Pd.prow E te v0 xs) (Pd.prow E te v0 (xs.set i.toNat e1)) L')
  (k:∀s',Has M n s0 a s' L'→wpList P ops Q rest a s'.w):wpList P ops Q (o::rest) a s.w:=by
 have hrow:=hL.get c hc;exact st_storC hrow.2 hi (hx M n s0 a s hL) (hy M n s0 a s hL) hs ht ho hg hd fun s' e hX hr=>k s' (hL.turn e (.inr hw) hX hk fun v hv=>⟨hv.1,by have h1:=hrow.1;rw [h1] at hr;rw [hv.1];exact hr⟩)
theorem st_callr {α:Type} {E:En α} {te:TypeId} {xs ys:List α} {og:Option Nat} {f:FuncId} {x0:Operand} {zs:List Operand} {qs:List Pd} {ats:Array TypeId} (d:Nat)
  (hf:∀v0:Value,Fm P f (fun b=>v0.ownBlock=some b) (Pd.prow E te v0 xs::qs) (fun _ s' _=>(Pd.prow E te v0 ys).p s' v0))
  (hL:Has M n s0 a s L) (hx0:Opn L x0 (Pd.row E s0.w.heap.size te og xs)) (hx:Opns L zs qs)
  (ho:o.op = .call { callee:=.value (.func f),args:=(x0::zs).toArray,argTypes:=ats }) (hg:o.guard=none) (hd:o.dst=some d) (hn:Nat.blt d n=true) (hk:Kw (fun b=>og=some b) L (Pd.row E s0.w.heap.size te og xs) (Pd.row E s0.w.heap.size te og ys) L')
  (k:∀a' s',Has M n s0 a' s' ((d,Pd.any)::L')→wpList P ops Q rest a' s'.w):wpList P ops Q (o::rest) a s.w:=by
 refine wpList_plain hg fun K hK=>?_;have hv:=hx0 M n s0 a s hL;obtain ⟨v0,hv0⟩:∃v0,a.eval x0=v0:=⟨_,rfl⟩;rw [hv0] at hv;have hog:v0.ownBlock=og:=hv.1;have hcall:=(hf v0).call ((x0::zs).map a.eval).toArray s.w;have e:execOp a.eval o=callFunc f (#[]++((x0::zs).toArray).map a.eval ++ #[]):=by unfold execOp;rw [ho];rfl
 have hrun:(execOp a.eval o).run P s.w = .ok (.enter f ((x0::zs).map a.eval).toArray) s.w:=by rw [e];simpa using hcall
 unfold Oper.wp;rw [hrun,Oper.upon_enter];have hX:∀b,v0.ownBlock=some b→s.X b:=fun b hb=>hv.2.1 b (by rw [← hog];exact hb);have hvals:Vals s (Pd.prow E te v0 xs::qs) ((x0::zs).map a.eval):=⟨⟨hv0,by rw [hv0,hog];exact row_weak (Nat.zero_le _) hv⟩,hx.vals hL⟩;refine ((hf v0).run s _ hL.gls hX hvals).mono fun en w' ⟨v,s',he,hw',hfr,hp⟩=>?_;subst he;subst hw';refine hK _ _ ?_;have hef:Ef (fun b=>og=some b) s s':=by
  have:=hfr.mv;simp only [hog] at this;exact ⟨this,fun b hb _=>hfr.keep b hb⟩
 have hlt:=zc6 hv;have hrow:(Pd.row E s0.w.heap.size te og ys).p s' v0:=by
  obtain ⟨_,h1,h2,h3,css,h4,h5⟩:=hp;rw [hog] at h1 h2;refine ⟨hog,h2,h3,css,h4,h5.1,h5.2.imp id ?_⟩;rintro ⟨g,cap,cur,e,_,r⟩;exact ⟨g,cap,cur,e,(hlt g (by rw [← hog,e];rfl)).1,r⟩
 have hL2:=hL.turn hef (.inl fun b hb=>(hlt b hb).1) hfr.keep hk fun u hu=>by rw [row_uniq hu hv];exact hrow
 rw [hd];exact k _ s' (hL2.put' hn trivial)
theorem retm {α:Type} {E:En α} {te:TypeId} {v0:Value} {ys:List α} {fn:Func} {c:Nat} (hr:fn.results = #[]) (hL:Has M n s0 a s L) (hc:lk L c=some (Pd.prow E te v0 ys)):
  bodyPost P fn (Pst M (fun _ s' _=>(Pd.prow E te v0 ys).p s' v0) s0) .ret a s.w:=by
 have h:=hL.get c hc;refine ⟨hL.defers,.tuple #[], ?_,.tuple #[],s,rfl,rfl,hL.ent, ?_⟩
 ·simp [results,hr]
 ·have e:=h.1;rw [e] at h;exact h
end
theorem t_max {P:Program} {ops:Array Oper} {o:Oper} {L:Lst} {k:IntKind} {x y:Int} {u v:Operand} {ats:Array TypeId} (hx:Opn L u (Pd.rep (En.int k) x)) (hy:Opn L v (Pd.rep (En.int k) y)) (ho:o.op = .call { callee:=.builtin .max,args:=#[u,v],argTypes:=ats }) (hg:o.guard=none):
  T P ops o L (Pd.rep (En.int k) (max x y)):=
 T.pure hg fun M n s0 ac s hL=>by
  obtain ⟨h1,h2⟩:=zbg.1 (hx M n s0 ac s hL);obtain ⟨h3,h4⟩:=zbg.1 (hy M n s0 ac s hL);refine ⟨.int k (max x y), ?_,zbg.2 ⟨rfl,by unfold InR at *;omega⟩⟩;unfold execOp;rw [ho];simp only [resolve,invoke,builtin,Builtin.max_,Sem.run_bind,Sem.run_pure,Result.andThen_ok];simp [h1,h3,Builtin.max2]
  by_cases h:x≤y
  ·simp [Int.max_eq_right h];omega
  ·have h':y≤x:=by omega
   simp [Int.max_eq_left h'];omega
def En.fun (P:Program) {β:Type} (qs:β→List Pd) (R:β→St→St→Value→Prop):En (β→Prop) where
 sz:=1
 agg:=false
 R:=fun w S cs F=>(cs=[.nilFunc]∧∀q,¬ F q)∨∃(f:FuncId) (first cap:Array Value),cs=[.func (.func f) first cap]∧(∀(args:Array Value) (w:World),(callFunc f args).run P w = .ok (.enter f args) w) ∧
  ∀s:St,Gl s→(∀b,S b→zcd s b)→Same S w s.w→∀q,F q→∀vs,Vals s (qs q) vs→Calls P f (first++vs.toArray++cap) s.w fun e w'=>∃(v:Value) (s':St),e = .returned v∧s'.w=w'∧Ex s s'∧R q s s' v
 sc:=fun _=>rfl
 pos:=Nat.one_pos
 len:=by rintro _ _ _ _ (⟨rfl,_⟩ | ⟨_,_,_,rfl,_⟩) <;> rfl
 one:=by rintro _ _ _ _ (⟨rfl,_⟩ | ⟨_,_,_,rfl,_⟩) u hu <;> (simp at hu;subst hu;rfl)
 mono:=by
  rintro w S S' cs F h (h0 | ⟨f,first,cap,hc,h1,h2⟩)
  ·exact .inl h0
  ·exact .inr ⟨f,first,cap,hc,h1,fun s hg ha hb=>h2 s hg (fun b hS=>ha b (h b hS)) fun b hS=>hb b (h b hS)⟩
 move:=by
  rintro w w' S cs F h (h0 | ⟨f,first,cap,hc,h1,h2⟩)
  ·exact .inl h0
  ·exact .inr ⟨f,first,cap,hc,h1,fun s hg ha hb=>h2 s hg ha fun b hS=>(hb b hS).trans (h b hS)⟩
def Pd.Enc (q:Pd):Prop:=∀s s' v,(∀b,zcd s b→zcd s' b)→Same (zcd s) s.w s'.w→q.p s v→q.p s' v
theorem zdl {α:Type} {E:En α} {x:α}:(Pd.ptr E x).Enc:=fun s s' v hf hs ⟨b,o,cs,hv,hb,hc,hR⟩=>⟨b,o,cs,hv,hf b hb,hc.same (hs b hb),E.mono hf (E.move hs hR)⟩
theorem vals_enc {s s':St} (hf:∀b,zcd s b→zcd s' b) (hs:Same (zcd s) s.w s'.w):∀{qs:List Pd} {vs:List Value},(∀q∈qs,q.Enc)→Vals s qs vs→Vals s' qs vs
 | [],[],_,h=>h
 | [],_::_,_,h=>h.elim
 | _::_,[],_,h=>h.elim
 | q::qs,v::vs,ho,h=>⟨ho q (by simp) s s' v hf hs h.1,vals_enc hf hs (fun q' hq'=>ho q' (by simp [hq'])) h.2⟩
theorem vals_app {s:St}:∀{qs qs':List Pd} {vs vs':List Value},Vals s qs vs→Vals s qs' vs'→Vals s (qs++qs') (vs++vs')
 | [],_,[],_,_,h=>h
 | [],_,_::_,_,h,_=>h.elim
 | _::_,_,[],_,h,_=>h.elim
 | _::_,_,_::_,_,h,k=>⟨h.1,vals_app h.2 k⟩
section
variable {P : Program} {ops : Array Oper} {o : Oper} {L : Lst} {β : Type} {qs : β → List Pd} {R : β → St → St → Value → Prop} {F : β → Prop}
theorem o_fun {f:FuncId} (hc:∀(args:Array Value) (w:World),(callFunc f args).run P w = .ok (.enter f args) w) (h:∀q,F q→Fn P f (qs q) (R q)):Opn L (.func f) (Pd.rep (En.fun P qs R) F):=
 fun M n s0 a s hL=>⟨[.func (.func f) #[] #[]],rfl,.inr ⟨f,#[],#[],rfl,hc,fun s1 hgl _ _ q hq vs hv=>by simpa using (h q hq).run s1 vs hgl hv⟩⟩
theorem zde {f:FuncId} {cs:List Operand} {qc:List Pd} (hx:Opns L cs qc) (hc:∀(args:Array Value) (w:World),(callFunc f args).run P w = .ok (.enter f args) w)
  (henc:∀q∈qc,q.Enc) (h:∀q,F q→Fn P f (qs q++qc) (R q)) (ho:o.op = .makeFunc (.func f) #[] cs.toArray) (hg:o.guard=none):T P ops o L (Pd.rep (En.fun P qs R) F):=
 T.pure hg fun M n s0 a s hL=>by
  refine ⟨.func (.func f) #[] (cs.map a.eval).toArray, ?_,[.func (.func f) #[] (cs.map a.eval).toArray],rfl,.inr ⟨f,#[],(cs.map a.eval).toArray,rfl,hc,fun s1 hgl hf hs q hq vs hv=>?_⟩⟩
  ·unfold execOp;rw [ho];simp [Instr.makeFunc]
  ·have:=(h q hq).run s1 (vs++cs.map a.eval) hgl (vals_app hv (vals_enc hf hs henc (hx.vals hL)));simpa using this
theorem zbt {t:Nat} {xs:List Operand} {q:β} {q':Pd} {ats:Array TypeId} (hf:Opn L (.tmp t) (Pd.rep (En.fun P qs R) F)) (hq:F q) (hx:Opns L xs (qs q)) (hR:∀s s' v,R q s s' v→q'.p s' v)
  (ho:o.op = .call { callee:=.value (.tmp t),args:=xs.toArray,argTypes:=ats }) (hg:o.guard=none):T P ops o L q':=fun M n s0 a s hL Q k hk=>by
 simp only [Region.wanted,hg,if_true];obtain ⟨cs,hv,h⟩:=hf M n s0 a s hL;rcases h with ⟨_,h0⟩ | ⟨f,first,cap,hcs,hc,hr⟩
 ·exact (h0 q hq).elim
 subst hcs;have hv:a.eval (.tmp t) = .func (.func f) first cap:=hv
 have e:(execOp a.eval o).run P s.w = .ok (.enter f (first++(xs.map a.eval).toArray++cap)) s.w:=by
  have e1:execOp a.eval o=(do let d ← Deferred.ofValue (a.eval (.tmp t)) (xs.toArray.map a.eval);invoke d.target d.args):=by
   unfold execOp;rw [ho];rfl
  rw [e1,hv];have:=hc (first++(xs.map a.eval).toArray++cap) s.w;simpa [Deferred.ofValue,invoke] using this
 unfold Oper.wp;rw [e,Oper.upon_enter];refine (hr s hL.gls (fun _ h=>h) (fun _ _=>rfl) q hq _ (hx.vals hL)).mono fun e w' ⟨v,s',he,hw,hx,hq⟩=>?_;subst he;subst hw;exact hk v s' ⟨hx,hR _ _ _ hq⟩
end
theorem zdm:∀q∈([]:List Pd),q.Enc:=fun q h=>by cases h
theorem zc4 {q:Pd} {qs:List Pd} (h:q.Enc) (k:∀q∈qs,q.Enc):∀q'∈q::qs,q'.Enc:=fun q' hq=>(List.mem_cons.1 hq).elim (fun e=>e ▸ h) (k q')
theorem zcc {P:Program} {f:FuncId} {fn:Func} {c:Code} (hf:P.funcs[f]?=some fn) (hb:fn.body=some c) (hm:(fn.name == "runtime.NumGoroutine")=false):∀(args:Array Value) (w:World),(callFunc f args).run P w = .ok (.enter f args) w:=fun args w=>by
 have hm':¬ fn.name = "runtime.NumGoroutine":=by simpa using hm
 simp [callFunc,hf,hm',hb]
theorem o_q {L:Lst} {x:Operand} (q:Pd) (h:Opn L x q):Opn L x q:=h
theorem t_q {P:Program} {ops:Array Oper} {o:Oper} {L:Lst} (q:Pd) (h:T P ops o L q):T P ops o L q:=h
theorem Has.freezeb {α:Type} {E:En α} {g:Nat} {x:α} {M:Nat→Prop} {n:Nat} {s0:St} {a:Act} {s:St} {L L':Lst} (h:Has M n s0 a s L) (t:Nat) (hl:lk L t=some (Pd.box E s0.w.heap.size g x))
  (hk:Kp (fun b=>some g=some b) L L'):∃s',s'.w=s.w∧Has M n s0 a s' ((t,Pd.ptr E x)::L'):=by
 obtain ⟨hv,hN,hX,cs,te,hg,hR⟩:=h.get t hl;refine ⟨⟨s.w,fun b=>s.X b∧¬ some g=some b,fun b hb=>s.lt b hb.1⟩,rfl, ?_⟩;have e:Ef (fun b=>some g=some b) s ⟨s.w,fun b=>s.X b∧¬ some g=some b,fun b hb=>s.lt b hb.1⟩:=
  ⟨⟨DR.eq rfl,rfl,rfl,rfl,Nat.le_refl _,fun _ _ _=>rfl,fun b hb=>by cases hb;exact hX,fun b hb=>.inl hb.1⟩,fun b hb hn=>⟨hb,hn⟩⟩
 refine (h.ef e (fun b hb=>by cases hb;exact hN) hk).cons t ⟨g,0,cs,hv,⟨(Array.getElem?_eq_some_iff.1 hg).1,fun hx=>hx.2 rfl⟩,zy hg, ?_⟩;exact E.mono (fun b hb=>⟨hb.1,fun hx=>hb.2 hx.1⟩) hR
end
end Go.Proofs.YtaknifhhnhcchaaDoor.V
namespace Go.Proofs.YtaknifhhnhcchaaDoor.V
open Go
set_option linter.unusedVariables false
section
variable {u : Bool} [Dr u]
def Pd.ge (K:Nat):Pd:=⟨fun s _=>K≤s.w.heap.size,fun _=>False,fun h _ hp=>Nat.le_trans hp h.size⟩
section
variable {M : Nat → Prop} {n : Nat} {s0 : St} {a : Act} {s : St} {L : Lst}
theorem Has.mark (h:Has M n s0 a s L) (t:Nat):∃K,K=s.w.heap.size∧s0.w.heap.size≤K∧Has M n s0 a s ((t,Pd.ge K)::L):=⟨_,rfl,h.ent.mv.size,h.cons t (Nat.le_refl _)⟩
end
section
variable {P : Program} {ops : Array Oper} {o : Oper} {L : Lst}
end
end
end Go.Proofs.YtaknifhhnhcchaaDoor.V
namespace Go.Proofs.YtaknifhhnhcchaaDoor.V
open Go
set_option linter.unusedVariables false
section
variable {u : Bool} [Dr u]
def En.cat {α β:Type} (E:En α) (F:En β):En (α × β) where
 sz:=E.sz+F.sz
 agg:=true
 R:=fun w S cs x=>∃a b,cs=a++b∧E.R w S a x.1∧F.R w S b x.2
 sc:=fun h=>by cases h
 pos:=Nat.add_pos_left E.pos _
 len:=by rintro _ _ _ _ ⟨a,b,rfl,h1,h2⟩;rw [List.length_append,E.len h1,F.len h2]
 one:=by
  rintro _ _ _ _ ⟨a,b,rfl,h1,h2⟩ u hu
  rcases List.mem_append.1 hu with h | h
  ·exact E.one h1 u h
  ·exact F.one h2 u h
 mono:=by rintro w S S' cs x h ⟨a,b,rfl,h1,h2⟩;exact ⟨a,b,rfl,E.mono h h1,F.mono h h2⟩
 move:=by rintro w w' S cs x h ⟨a,b,rfl,h1,h2⟩;exact ⟨a,b,rfl,E.move h h1,F.move h h2⟩
structure Prt {α β:Type} (E:En α) (off:Nat) (E':En β) (x:α) (y:β):Prop where
 le:off+E'.sz≤E.sz
 get:∀w S cs,E.R w S cs x→E'.R w S ((cs.drop off).take E'.sz) y
section
variable {α β γ : Type} {E : En α} {E' : En β} {F : En γ} {off off' : Nat} {y : β}
theorem zk (E:En α) (x:α):Prt E 0 E x x:=⟨by simp,fun w S cs h=>by rw [List.drop_zero,List.take_of_length_le (by rw [E.len h];exact Nat.le_refl _)];exact h⟩
theorem zp {x:α × γ} (h:Prt E off E' x.1 y):Prt (E.cat F) off E' x y:=
 ⟨Nat.le_trans h.le (Nat.le_add_right _ _),fun w S cs ⟨a,b,e,h1,h2⟩=>by
  subst e;have hl:=E.len h1;have:=h.le;have e:((a++b).drop off).take E'.sz=(a.drop off).take E'.sz:=by
   rw [List.drop_append_of_le_length (by omega),List.take_append_of_le_length (by simp;omega)]
  rw [e];exact h.get w S a h1⟩
theorem zn {x:γ × α} (h:Prt E off E' x.2 y) (ho:off'=F.sz+off):Prt (F.cat E) off' E' x y:=
 ⟨by rw [ho,Nat.add_assoc];exact Nat.add_le_add_left h.le _,fun w S cs ⟨a,b,e,h1,h2⟩=>by
  subst e;rw [ho,← F.len h1,List.drop_length_add_append];exact h.get w S b h2⟩
theorem zr {x:α × γ} {a:α} (h:Sub E off E' x.1 a y):Sub (E.cat F) off E' x (a,x.2) y:=
 ⟨Nat.le_trans h.1 (Nat.le_add_right _ _),fun w S cs cs' ⟨a',b,e,h1,h2⟩ h3=>by
  subst e;have hl:=E.len h1;have hl':=E'.len h3;have:=h.1;refine ⟨spl a' off cs',b, ?_,h.2 w S a' cs' h1 h3,h2⟩;simp only [spl];rw [List.take_append_of_le_length (by omega),List.drop_append_of_le_length (by omega)];simp⟩
theorem zg {x:γ × α} {b:α} (h:Sub E off E' x.2 b y) (ho:off'=F.sz+off):Sub (F.cat E) off' E' x (x.1,b) y:=
 ⟨by rw [ho,Nat.add_assoc];exact Nat.add_le_add_left h.1 _,fun w S cs cs' ⟨a',b',e,h1,h2⟩ h3=>by
  subst e;refine ⟨a',spl b' off cs', ?_,h1,h.2 w S b' cs' h2 h3⟩;simp only [spl];rw [ho,← F.len h1,List.take_length_add_append,Nat.add_assoc,List.drop_length_add_append];simp⟩
end
theorem zbs.sub {w:World} {b o:Nat} {cs:List Value} (h:zbs w b o cs) (off n:Nat):zbs w b (o+off) ((cs.drop off).take n):=fun j u hu=>by
 rw [Nat.add_assoc];refine h (off+j) u ?_;rw [List.getElem?_take] at hu;split at hu
 ·rwa [List.getElem?_drop] at hu
 ·cases hu
section
variable {P : Program} {ops : Array Oper} {o : Oper} {L : Lst}
theorem zc9 {β:Type} {E':En β} {t:TypeId} {fs:Array Field} {f:Nat} {fd:Field} (ht:P.underlying t=some (.struct fs)) (hf:fs[f]?=some fd) (hE:Ty P fd.type E') (b o:Nat) (w:World):
  (Instr.fieldAt t (.pointer (some ⟨b,o,none⟩)) f).run P w = .ok (.pointer (some ⟨b,o+fd.offset,none⟩)) w:=by
 unfold Instr.fieldAt;simp only [Sem.run_bind,run_underlying ht,Result.andThen_ok,hf,Instr.sureAddr,Sem.run_pure,fieldPlace,z1 hE];rw [if_neg (by have:=E'.pos;omega)];simp [zc0]
theorem zby {α β:Type} {E:En α} {E':En β} {a:α} {y:β} {x:Operand} {t:TypeId} {fs:Array Field} {f off:Nat} {fd:Field} (hx:Opn L x (Pd.ptr E a)) (ht:P.underlying t=some (.struct fs)) (hf:fs[f]?=some fd) (hp:Prt E off E' a y) (hq:fd.offset=off) (hE:Ty P fd.type E')
  (ho:o.op = .fieldAddr t x f) (hg:o.guard=none):T P ops o L (Pd.ptr E' y):=
 T.pure hg fun M n s0 ac s hL=>by
  obtain ⟨b,o',cs,hv,hb,hc,hR⟩:=hx M n s0 ac s hL;refine ⟨.pointer (some ⟨b,o'+fd.offset,none⟩), ?_,b,o'+fd.offset,_,rfl,hb,hq ▸ hc.sub off E'.sz,hp.get _ _ _ hR⟩;unfold execOp;rw [ho];simp only [hv,Sem.run_bind,zc9 ht hf hE,Result.andThen_ok,Sem.run_pure]
theorem t_fao {α β:Type} {E:En α} {E':En β} {a:α} {y:β} {x:Operand} {t:TypeId} {fs:Array Field} {f off N o':Nat} {og:Option Nat} {fd:Field} (hx:Opn L x (Pd.optr E N og o' a)) (ht:P.underlying t=some (.struct fs)) (hf:fs[f]?=some fd) (hp:Prt E off E' a y) (hq:fd.offset=off) (hE:Ty P fd.type E')
  (ho:o.op = .fieldAddr t x f) (hg:o.guard=none):T P ops o L (Pd.optr E' N og (o'+off) y):=
 T.pure hg fun M n s0 ac s hL=>by
  obtain ⟨g,h1,hv,h2,h3,h4,cs,hc,hR⟩:=hx M n s0 ac s hL;refine ⟨.pointer (some ⟨g,o'+fd.offset,none⟩), ?_,g,h1,by rw [hq],h2,h3,h4,_,hc.sub off E'.sz,hp.get _ _ _ hR⟩;unfold execOp;rw [ho];simp only [hv,Sem.run_bind,zc9 ht hf hE,Result.andThen_ok,Sem.run_pure]
theorem zct {α β:Type} {E:En α} {E':En β} {a:α} {y:β} {x:Operand} {t:TypeId} {fs:Array Field} {f off N g:Nat} {fd:Field} (hx:Opn L x (Pd.box E N g a)) (ht:P.underlying t=some (.struct fs)) (hf:fs[f]?=some fd) (hp:Prt E off E' a y) (hq:fd.offset=off) (hE:Ty P fd.type E')
  (ho:o.op = .fieldAddr t x f) (hg:o.guard=none):T P ops o L (Pd.optr E' N (some g) off y):=
 T.pure hg fun M n s0 ac s hL=>by
  obtain ⟨hv,h2,h4,cs,t',hc,hR⟩:=hx M n s0 ac s hL;have hcs:zbs s.w g (0+off) ((cs.drop off).take E'.sz):=(zy hc).sub off E'.sz;refine ⟨.pointer (some ⟨g,0+fd.offset,none⟩), ?_,g,rfl,by rw [hq,Nat.zero_add],h2,(Array.getElem?_eq_some_iff.1 hc).1,h4,_,by rw [Nat.zero_add] at hcs;exact hcs,hp.get _ _ _ hR⟩;unfold execOp;rw [ho];simp only [hv,Sem.run_bind,zc9 ht hf hE,Result.andThen_ok,Sem.run_pure]
theorem run_partE {α β:Type} {E:En α} {E':En β} {x:α} {y:β} {off:Nat} {ft:TypeId} (hE:Ty P ft E') (hp:Prt E off E' x y) {w w':World} {S:Nat→Prop} {cs:List Value} (hR:E.R w' S cs x):
  (part ft cs.toArray off).run P w = .ok (E'.val ((cs.drop off).take E'.sz)) w:=by
 have hl:=E.len hR;have hle:=hp.le;have hpos:=E'.pos;unfold part;simp only [Sem.run_bind,zd3 hE,Result.andThen_ok];unfold En.val;cases ha:E'.agg
 ·have h1:=E'.sc ha;simp only [Bool.false_eq_true,if_false,cond_false];have hlt:off<cs.length:=by omega
  have e1:cs.toArray[off]?=some cs[off]:=by simp [hlt]
  rw [e1,h1];have e2:(cs.drop off).take 1=[cs[off]]:=by
   rw [List.drop_eq_getElem_cons hlt];rfl
  rw [e2];simp
 ·simp only [if_true,Sem.run_bind,z1 hE,Result.andThen_ok,Sem.run_pure,cond_true]
  congr 2
  apply Array.ext';simp
theorem t_fv {α β:Type} {E:En α} {E':En β} {a:α} {y:β} {x:Operand} {t:TypeId} {fs:Array Field} {f off:Nat} {fd:Field} (hx:Opn L x (Pd.rep E a)) (ha:E.agg=true) (ht:P.underlying t=some (.struct fs)) (hf:fs[f]?=some fd) (hp:Prt E off E' a y) (hq:fd.offset=off) (hE:Ty P fd.type E')
  (ho:o.op = .field t x f) (hg:o.guard=none):T P ops o L (Pd.rep E' y):=
 T.pure hg fun M n s0 ac s hL=>by
  obtain ⟨cs,hv,hR⟩:=hx M n s0 ac s hL;refine ⟨E'.val ((cs.drop off).take E'.sz), ?_,_,rfl,hp.get _ _ _ hR⟩;unfold execOp;rw [ho];have hv2:ac.eval x = .agg cs.toArray:=by rw [hv];unfold En.val;rw [ha];rfl
  simp only [hv2,Instr.field,Sem.run_bind,run_underlying ht,Result.andThen_ok,hf,asAgg,Sem.run_pure,hq,run_partE hE hp hR]
inductive Bld {α:Type} (E:En α) (pl:List (Nat × Nat)) (L:Lst):List (Nat × Operand)→α→α→Prop
 | nil {x:α}:Bld E pl L [] x x
 | cons {β:Type} {E':En β} {i off:Nat} {v:Operand} {y:β} {x0 x1 x2:α} {r:List (Nat × Operand)} (hv:Opn L v (Pd.rep E' y)) (hp:pl[i]?=some (off,E'.sz)) (hs:Sub E off E' x0 x1 y) (h:Bld E pl L r x1 x2):Bld E pl L ((i,v)::r) x0 x2
theorem Bld.fill {α:Type} {E:En α} {pl:List (Nat × Nat)} {ps:List (Nat × Operand)} {x0 x2:α} (h:Bld E pl L ps x0 x2) {M:Nat→Prop} {n:Nat} {s0:St} {a:Act} {s:St} (hL:Has M n s0 a s L):
  ∀cs,E.R s.w (zcd s) cs x0→∃cs',Instr.fill (fun i=>pl.toArray[i]?) cs.toArray (ps.map fun (i,x)=>(i,a.eval x))=some cs'.toArray∧E.R s.w (zcd s) cs' x2:=by
 induction h with
 | nil=>intro cs hR;exact ⟨cs,rfl,hR⟩
 | cons hv hp hs _ ih=>
  intro cs hR;obtain ⟨cs1,hv1,hR1⟩:=hv M n s0 a s hL;have hl:=E.len hR;obtain ⟨cs2,h1,h2⟩:=ih (spl cs _ cs1) (hs.2 _ _ _ _ hR hR1);refine ⟨cs2, ?_,h2⟩;simp only [List.map_cons];rw [fill_step (by simpa using hp) (by rw [hv1];exact En.val_cells hR1) (En.len _ hR1) (by rw [hl];exact hs.1)];exact h1
def Stt (P:Program) (t:TypeId) (pl:List (Nat × Nat)):Prop:=∃fs,P.underlying t=some (.struct fs)∧fs.toList.mapM (fun f=>(P.info? f.type).map fun i=>(f.offset,i.size))=some pl
theorem zv {α:Type} {E:En α} {z x:α} {t:TypeId} {pl:List (Nat × Nat)} {ps:List (Nat × Operand)} (hz:TyZ P t E z) (ha:E.agg=true) (ht:Stt P t pl) (hb:Bld E pl L ps z x) (ho:o.op = .build t ps.toArray) (hg:o.guard=none):T P ops o L (Pd.rep E x):=
 T.pure hg fun M n s0 a s hL=>by
  obtain ⟨i,v,cs,h1,h2,h3,h4⟩:=hz.zero;obtain ⟨fs,h5,h6⟩:=ht;obtain ⟨cs',h7,h8⟩:=hb.fill hL cs (h4 _ _);refine ⟨.agg cs'.toArray, ?_,cs',by unfold En.val;rw [ha];rfl,h8⟩;unfold execOp;rw [ho];have:=run_build (P:=P) s.w t (ps.toArray.map fun (i,x)=>(i,a.eval x)) cs'.toArray (by
   unfold Program.built;simp only [h1,h5,h2,h6,h3];simpa using h7)
  simp only [Sem.run_bind,this,Result.andThen_ok,Sem.run_pure]
structure EqI {α:Type} [BEq α] (P:Program) (k:Nat) (t:TypeId) (E:En α):Prop where
 eq:∀(d:Nat) (w:World) (S:Nat→Prop) (cs ds:List Value) (x y:α),k≤d→E.R w S cs x→E.R w S ds y→(Op.equalIn d t (E.val cs) (E.val ds)).run P w = .ok (x==y) w
theorem EqI.up {α:Type} [BEq α] {k k':Nat} {t:TypeId} {E:En α} (h:EqI P k t E) (hk:k≤k'):EqI P k' t E:=⟨fun d w S cs ds x y hd=>h.eq d w S cs ds x y (Nat.le_trans hk hd)⟩
theorem eqi_int {k:IntKind} {t:TypeId} (ht:P.underlying t=some (.int k)):EqI P 1 t (En.int k):=⟨by
 rintro d w S cs ds x y hd ⟨rfl,_⟩ ⟨rfl,_⟩;obtain ⟨d,rfl⟩:∃e,d=e+1:=⟨d-1,by omega⟩;exact run_equalIn_int w d t k k x y ht⟩
def EqFs {α:Type} [BEq α] (P:Program) (k:Nat) (fs:List Field) (E:En α) (o:Nat):Prop:=∀(d:Nat) (w:World) (S:Nat→Prop) (xs ys:List Value) (x y:α),k≤d→E.R w S ((xs.drop o).take E.sz) x→E.R w S ((ys.drop o).take E.sz) y→(Op.eqFields d xs.toArray ys.toArray fs).run P w = .ok (x==y) w
theorem zdc {α:Type} {E:En α} {x:α} {o:Nat} {ft:TypeId} (hE:Ty P ft E) {w:World} {S:Nat→Prop} {xs:List Value} (h:E.R w S ((xs.drop o).take E.sz) x):(part ft xs.toArray o).run P w = .ok (E.val ((xs.drop o).take E.sz)) w:=by
 have hl:=E.len h;have hpos:=E.pos;unfold part;simp only [Sem.run_bind,zd3 hE,Result.andThen_ok];unfold En.val;cases ha:E.agg
 ·have h1:=E.sc ha;simp only [Bool.false_eq_true,if_false,cond_false];have hlt:o<xs.length:=by simp at hl;omega
  have e1:xs.toArray[o]?=some xs[o]:=by simp [hlt]
  rw [e1,h1];have e2:(xs.drop o).take 1=[xs[o]]:=by rw [List.drop_eq_getElem_cons hlt];rfl
  rw [e2];simp
 ·simp only [if_true,Sem.run_bind,z1 hE,Result.andThen_ok,Sem.run_pure,cond_true]
  congr 2
  apply Array.ext';simp
theorem eqfs_last {α:Type} [BEq α] {k o:Nat} {f:Field} {E:En α} (h:EqI P k f.type E) (hE:Ty P f.type E) (hn:(f.name != "_")=true) (ho:f.offset=o):EqFs P k [f] E o:=by
 intro d w S xs ys x y hd h1 h2;have hn':f.name≠"_":=by simpa using hn
 unfold Op.eqFields;simp only [if_pos hn',ho,Sem.run_bind,zdc hE h1,zdc hE h2,Result.andThen_ok,h.eq d w S _ _ x y hd h1 h2,Op.eqFields];cases x==y <;> simp
theorem zec {xs:List Value} {o m n:Nat} {a b:List Value} (h:(xs.drop o).take (m+n)=a++b) (ha:a.length=m):(xs.drop o).take m=a∧(xs.drop (o+m)).take n=b:=by
 have h1:(xs.drop o).take m=a:=by
  have:=congrArg (List.take m) h;rw [List.take_take,Nat.min_eq_left (Nat.le_add_right _ _),List.take_append_of_le_length (by omega),List.take_of_length_le (l:=a) (by omega)] at this;exact this
 refine ⟨h1, ?_⟩;have:=congrArg (List.drop m) h;rw [List.drop_take,List.drop_append_of_le_length (by omega),List.drop_of_length_le (l:=a) (by omega),List.nil_append,List.drop_drop,Nat.add_sub_cancel_left] at this;exact this
theorem eqfs_cons {α β:Type} [BEq α] [BEq β] {k o:Nat} {f:Field} {fs:List Field} {E:En α} {F:En β} (h:EqI P k f.type E) (hE:Ty P f.type E) (hn:(f.name != "_")=true) (ho:f.offset=o) (hr:EqFs P k fs F (o+E.sz)):EqFs P k (f::fs) (E.cat F) o:=by
 rintro d w S xs ys x y hd ⟨a,b,e1,h1,h2⟩ ⟨a',b',e1',h1',h2'⟩;have hn':f.name≠"_":=by simpa using hn
 obtain ⟨rfl,rfl⟩:=zec e1 (E.len h1);obtain ⟨rfl,rfl⟩:=zec e1' (E.len h1');have hrest:=hr d w S xs ys x.2 y.2 hd h2 h2';unfold Op.eqFields;simp only [if_pos hn',ho,Sem.run_bind,zdc hE h1,zdc hE h1',Result.andThen_ok,h.eq d w S _ _ x.1 y.1 hd h1 h1'];have hxy:(x==y)=(x.1==y.1&&x.2==y.2):=rfl;rw [hxy];cases x.1==y.1
 ·simp
 ·simp [hrest]
theorem eqi_struct {α:Type} [BEq α] {k:Nat} {t:TypeId} {E:En α} (ha:E.agg=true) (ht:P.underlying t=some (.struct (P.fieldsOf t))) (hp:P.stoodInHeld t=false) {fs:List Field} (hfs:(P.fieldsOf t).toList=fs) (h:EqFs P k fs E 0):EqI P (k+1) t E:=⟨by
 intro d w S cs ds x y hd h1 h2;obtain ⟨d,rfl⟩:∃e,d=e+1:=⟨d-1,by omega⟩;have e1:(cs.drop 0).take E.sz=cs:=by rw [List.drop_zero,List.take_of_length_le (by rw [E.len h1];exact Nat.le_refl _)]
 have e2:(ds.drop 0).take E.sz=ds:=by rw [List.drop_zero,List.take_of_length_le (by rw [E.len h2];exact Nat.le_refl _)]
 have:=h d w S cs ds x y (by omega) (by rw [e1];exact h1) (by rw [e2];exact h2);unfold En.val;rw [ha];simp only [cond_true];rw [run_equalIn_struct w d t _ _ ht hp,hfs];exact this⟩
theorem eqv_struct {α:Type} [BEq α] {k:Nat} {t:TypeId} {E:En α} (h:EqI P k t E) (hk:k≤10000) (ha:E.agg=true) (hg:P.eqGuardType P.depth t=false):Eqv P t E:=by
 constructor
 ·intro w S cs ds x y a b h1 h2;have:=h.eq 10000 w S cs ds x y hk h1 h2;unfold En.val at this ⊢;rw [ha] at this ⊢;simp only [cond_true] at this ⊢;simp only [Sem.run_bind,run_eqGuard_agg w .eql t a b _ _ hg,Result.andThen_ok,run_eql_struct,this]
 ·intro w S cs ds x y a b h1 h2;have:=h.eq 10000 w S cs ds x y hk h1 h2;unfold En.val at this ⊢;rw [ha] at this ⊢;simp only [cond_true] at this ⊢;simp only [Sem.run_bind,run_eqGuard_agg w .neq t a b _ _ hg,Result.andThen_ok,run_neq_struct,this];rfl
end
section
variable {P : Program} {ops : Array Oper} {o : Oper} {L : Lst}
end
end
end Go.Proofs.YtaknifhhnhcchaaDoor.V
namespace Go.Proofs.YtaknifhhnhcchaaDoor.V
open Go Go.MapKept
set_option linter.unusedVariables false
section
variable {u : Bool} [Dr u]
structure KeyT {κ:Type} (P:Program) (kt:TypeId) (K:En κ) (kv:κ→Value):Prop where
 val:∀{w S cs x},K.R w S cs x→K.val cs=kv x
 inj:∀{x y},kv x=kv y→x=y
 check:∀(w:World) (em:Bool) (x:κ),(Instr.checkKey em 10000 kt (kv x)).run P w = .ok () w
 find:∀(w:World) (x:κ) (es:List MapEntry),(∀e∈es,∃y,e.key=kv y) →
  ((Instr.findKey kt (kv x) es).run P w = .ok none w∧∀e∈es,e.key≠kv x)∨∃j e,(Instr.findKey kt (kv x) es).run P w = .ok (some (j,e.val)) w∧es[j]?=some e∧e.key=kv x
 stays:∀(w:World) (x:κ),(Instr.keyThatStays (kv x) (kv x)).run P w = .ok (kv x) w
theorem key_plain {κ:Type} {P:Program} {kt:TypeId} {K:En κ} {kv:κ→Value} {d:TypeDesc} (hd:P.underlying kt=some d) (hk:∀x,IsKey d (kv x)) (hv:∀{w S cs x},K.R w S cs x→K.val cs=kv x) (hi:∀{x y},kv x=kv y→x=y):KeyT P kt K kv where
 val:=hv
 inj:=hi
 check:=fun w em x=>run_checkKey hd (hk x) em 9999
 find:=fun w x es hes=>by
  have hks:∀y∈es,IsKey d y.key:=fun y hy=>by
   obtain ⟨z,hz⟩:=hes y hy;rw [hz];exact hk z
  rcases findNow_spec (hk x) es 0 hks with ⟨h1,h2⟩ | ⟨j,e0,h1,h2,h3⟩
  ·exact .inl ⟨run_findKey hd h1,h2⟩
  ·exact .inr ⟨j,e0,by simpa using run_findKey hd h1,h2,h3⟩
 stays:=fun w x=>run_keyThatStays (hk x)
abbrev kvStr:Str→Value:=fun x=>.string ⟨x.toArray⟩
theorem zcm {P:Program} {kt:TypeId} (hd:P.underlying kt=some .string):KeyT P kt En.str kvStr:=
 key_plain hd (fun x=>trivial) (fun ⟨h,_⟩=>by subst h;rfl) (fun {x y} h=>by simpa using h)
def zdr {κ ν:Type} [DecidableEq κ] (xs:List (κ × ν)) (k:κ) (z:ν):ν:=match xs.find? (fun p=>p.1==k) with | some p=>p.2 | none=>z
def mhas {κ ν:Type} [DecidableEq κ] (xs:List (κ × ν)) (k:κ):Bool:=xs.any (fun p=>p.1==k)
def zcx {κ ν:Type} [DecidableEq κ] (xs:List (κ × ν)) (k:κ) (v:ν):List (κ × ν):=bif mhas xs k then xs.map (fun p=>bif p.1==k then (k,v) else p) else xs++[(k,v)]
structure MpR {κ ν:Type} (K:En κ) (kv:κ→Value) (E:En ν) (w:World) (S:Nat→Prop) (es:Array MapEntry) (clock:Nat) (xs:List (κ × ν)):Prop where
 st:Stamped es clock
 len:es.toList.length=xs.length
 ent:∀(i:Nat) (e:MapEntry) (p:κ × ν),es.toList[i]?=some e→xs[i]?=some p→e.key=kv p.1∧(∃cs,K.R w S cs p.1)∧∃cs,e.val=E.val cs∧E.R w S cs p.2
section
variable {κ ν : Type} {K : En κ} {kv : κ → Value} {E : En ν}
theorem MpR.go {T:Nat→Prop} {s s':St} {es clock} {xs:List (κ × ν)} (h:Mv T s s') (hM:MpR K kv E s.w (zcd s) es clock xs):MpR K kv E s'.w (zcd s') es clock xs:=
 ⟨hM.st,hM.len,fun i e p a b=>let ⟨h1,⟨cs,h2⟩,cs',h3,h4⟩:=hM.ent i e p a b;⟨h1,⟨cs,K.go h h2⟩,cs',h3,E.go h h4⟩⟩
def Pd.map (K:En κ) (kv:κ→Value) (E:En ν) (N:Nat) (og:Option Nat) (xs:List (κ × ν)):Pd:=
 ⟨fun s v=>∃g,og=some g∧v = .map (some g)∧N≤g∧s.X g∧∃es clock ys,s.w.heap[g]?=some (.map es clock)∧MpR K kv E s.w (zcd s) es clock ys∧ys.Perm xs,fun b=>og=some b,
  fun {T s s' v} h hb ⟨g,ho,hv,hN,hx,es,clock,ys,hg,hM,hp⟩=>⟨g,ho,hv,hN,(hb g ho).2 hx,es,clock,ys,by
   rw [h.blk g (Array.getElem?_eq_some_iff.1 hg).1 (hb g ho).1];exact hg,hM.go h,hp⟩⟩
theorem MpR.keys {w S es clock} {xs:List (κ × ν)} (hM:MpR K kv E w S es clock xs):∀e∈es.toList,∃y,e.key=kv y:=fun e he=>by
 obtain ⟨i,hi⟩:=List.getElem?_of_mem he;have hlt:i<xs.length:=by rw [← hM.len];exact (List.getElem?_eq_some_iff.1 hi).1
 exact ⟨_,(hM.ent i e _ hi (List.getElem?_eq_getElem hlt)).1⟩
theorem MpR.nodup {P:Program} {kt:TypeId} (hK:KeyT P kt K kv) {w S es clock} {xs:List (κ × ν)} (hM:MpR K kv E w S es clock xs):∀(i j:Nat) (p q:κ × ν),xs[i]?=some p→xs[j]?=some q→p.1=q.1→i=j:=by
 intro i j p q hi hj h;have hli:i<es.toList.length:=by rw [hM.len];exact (List.getElem?_eq_some_iff.1 hi).1
 have hlj:j<es.toList.length:=by rw [hM.len];exact (List.getElem?_eq_some_iff.1 hj).1
 have h1:=(hM.ent i _ p (List.getElem?_eq_getElem hli) hi).1;have h2:=(hM.ent j _ q (List.getElem?_eq_getElem hlj) hj).1;have hn:(es.toList.map (·.key)).Nodup:=hM.st.2.2;have e1:(es.toList.map (·.key))[i]?=some (kv p.1):=by simp only [List.getElem?_map,List.getElem?_eq_getElem hli,Option.map_some,h1]
 have e2:(es.toList.map (·.key))[j]?=some (kv q.1):=by simp only [List.getElem?_map,List.getElem?_eq_getElem hlj,Option.map_some,h2]
 rw [h] at e1;exact (List.getElem?_inj (by simpa using hli) hn).1 (e1.trans e2.symm)
theorem map_lt {N:Nat} {og:Option Nat} {xs:List (κ × ν)} {s:St} {v:Value} (h:(Pd.map K kv E N og xs).p s v):∀b,og=some b→N≤b∧b<s.w.heap.size:=fun b hb=>by
 obtain ⟨g,hog,_,hN,hX,_⟩:=h;rw [hog] at hb;cases hb;exact ⟨hN,s.lt _ hX⟩
theorem map_uniq {N:Nat} {og:Option Nat} {xs ys:List (κ × ν)} {s:St} {u v:Value} (h:(Pd.map K kv E N og xs).p s u) (k:(Pd.map K kv E N og ys).p s v):u=v:=by
 obtain ⟨g,hog,hv,_⟩:=h;obtain ⟨g',hog',hv',_⟩:=k;rw [hog] at hog';cases hog';rw [hv,hv']
section
variable {P : Program} {ops : Array Oper} {o : Oper} {L : Lst} {Q : Exit → Act → World → Prop} {rest : List Oper} {M : Nat → Prop} {n : Nat} {s0 : St} {a : Act} {s : St} {t : TypeId}
theorem zel (d:Nat) (K:En κ) (kv:κ→Value) (E:En ν) (hL:Has M n s0 a s L) (ho:o.op = .makeMap t none) (hg:o.guard=none) (hd:o.dst=some d) (hn:Nat.blt d n=true)
  (k:∀a' s' g,s.w.heap.size≤g→Has M n s0 a' s' ((d,Pd.map K kv E s0.w.heap.size (some g) [])::L)→wpList P ops Q rest a' s'.w):wpList P ops Q (o::rest) a s.w:=by
 have hr:(execOp a.eval o).run P s.w = .ok (.value (.map (some s.w.heap.size))) (s.pushX (.map #[] 0)).w:=by
  unfold execOp;rw [ho];simp [Instr.makeMap,St.pushX]
 refine wpList_plain hg fun K hK=>?_;unfold Oper.wp;rw [hr];refine hK _ _ ?_;simp only [hd];exact k _ _ s.w.heap.size (Nat.le_refl _) (hL.put (Ex.pushX s _) hn ⟨_,rfl,rfl,hL.ent.mv.size,.inr rfl,#[],0,[],heap_alloc_new s.w _,⟨by simp [Stamped],rfl,fun i e p h=>by simp at h⟩,.refl _⟩)
theorem Has.mlt {N:Nat} {og:Option Nat} {xs:List (κ × ν)} (h:Has M n s0 a s L) (t:Nat) (hl:lk L t=some (Pd.map K kv E N og xs)):∀k,og=some k→k<s.w.heap.size:=fun k hk=>(map_lt (h.get t hl) k hk).2
end
structure TyV {α:Type} (P:Program) (t:TypeId) (E:En α) (z:α):Prop where
 zero:∃i cs,P.info? t=some i∧i.zero=some (E.val cs)∧∀w S,E.R w S cs z
def KN (xs:List (κ × ν)):Prop:=(xs.map (·.1)).Nodup
theorem KN.perm {xs ys:List (κ × ν)} (h:KN xs) (hp:xs.Perm ys):KN ys:=(hp.map _).nodup_iff.1 h
theorem KN.idx {xs:List (κ × ν)} (h:KN xs):∀(i j:Nat) (p q:κ × ν),xs[i]?=some p→xs[j]?=some q→p.1=q.1→i=j:=fun i j p q hi hj e=>by
 have hli:=(List.getElem?_eq_some_iff.1 hi).1;have e1:(xs.map (·.1))[i]?=some p.1:=by rw [List.getElem?_map,hi];rfl
 have e2:(xs.map (·.1))[j]?=some q.1:=by rw [List.getElem?_map,hj];rfl
 rw [e] at e1;exact (List.getElem?_inj (by simpa using hli) h).1 (e1.trans e2.symm)
theorem MpR.kn {P:Program} {kt:TypeId} (hK:KeyT P kt K kv) {w S es clock} {xs:List (κ × ν)} (hM:MpR K kv E w S es clock xs):KN xs:=by
 unfold KN List.Nodup;rw [List.pairwise_iff_getElem];intro i j hi hj hij e;simp only [List.length_map] at hi hj;simp only [List.getElem_map] at e;have:=hM.nodup hK i j _ _ (List.getElem?_eq_getElem hi) (List.getElem?_eq_getElem hj) e;omega
end
section
variable {κ ν : Type} [DecidableEq κ] {K : En κ} {kv : κ → Value} {E : En ν}
theorem find_at {xs:List (κ × ν)} {k:κ} {j:Nat} {p:κ × ν} (hn:∀(i j:Nat) (p q:κ × ν),xs[i]?=some p→xs[j]?=some q→p.1=q.1→i=j) (hj:xs[j]?=some p) (hk:p.1=k):xs.find? (fun p=>p.1==k)=some p:=by
 cases h:xs.find? (fun p=>p.1==k) with
 | none=>
  have:=List.find?_eq_none.1 h p (List.mem_of_getElem? hj);simp [hk] at this
 | some q=>
  have h1:=List.find?_some h;have h2:=List.mem_of_find?_eq_some h;obtain ⟨i,hi⟩:=List.getElem?_of_mem h2;have:=hn i j q p hi hj (by rw [hk];simpa using h1);subst this;rw [hi] at hj;exact hj
theorem zd4 {xs:List (κ × ν)} {k:κ} {z:ν} (h:∀p∈xs,p.1≠k):zdr xs k z=z:=by
 unfold zdr;rw [List.find?_eq_none.2 (fun p hp=>by simpa using h p hp)]
theorem zck {xs:List (κ × ν)} {k:κ}:mhas xs k=true↔∃p∈xs,p.1=k:=by simp [mhas]
theorem mget_mem {xs:List (κ × ν)} (h:KN xs) {p:κ × ν} (hp:p∈xs) (z:ν):zdr xs p.1 z=p.2:=by
 obtain ⟨j,hj⟩:=List.getElem?_of_mem hp;unfold zdr;rw [find_at h.idx hj rfl]
theorem mget_perm {xs ys:List (κ × ν)} (h:KN ys) (hp:ys.Perm xs) (k:κ) (z:ν):zdr ys k z=zdr xs k z:=by
 by_cases hk:∃p∈ys,p.1=k
 ·obtain ⟨p,hm,rfl⟩:=hk;rw [mget_mem h hm,mget_mem (h.perm hp) (hp.mem_iff.1 hm)]
 ·rw [zd4 fun p hm e=>hk ⟨p,hm,e⟩,zd4 fun p hm e=>hk ⟨p,hp.mem_iff.2 hm,e⟩]
theorem mhas_perm {xs ys:List (κ × ν)} (hp:ys.Perm xs) (k:κ):mhas ys k=mhas xs k:=by
 rw [Bool.eq_iff_iff,zck,zck];exact ⟨fun ⟨p,hm,e⟩=>⟨p,hp.mem_iff.1 hm,e⟩,fun ⟨p,hm,e⟩=>⟨p,hp.mem_iff.2 hm,e⟩⟩
theorem mput_perm {xs ys:List (κ × ν)} (hp:ys.Perm xs) (k:κ) (v:ν):(zcx ys k v).Perm (zcx xs k v):=by
 unfold zcx;rw [mhas_perm hp];cases mhas xs k
 ·exact hp.append_right _
 ·exact hp.map _
section
variable {P : Program} {ops : Array Oper} {o : Oper} {L L' : Lst} {Q : Exit → Act → World → Prop} {rest : List Oper} {M : Nat → Prop} {n : Nat} {s0 : St} {a : Act} {s : St} {t kt et : TypeId}
theorem MpR.look {w:World} {S:Nat→Prop} {es:Array MapEntry} {clock:Nat} {xs:List (κ × ν)} (hM:MpR K kv E w S es clock xs) (hK:KeyT P kt K kv) (k:κ):
  (Sem.run P (Instr.findKey kt (kv k) es.toList) w = .ok none w∧mhas xs k=false)∨∃(j:Nat) (e:MapEntry) (v:ν) (cs:List Value),Sem.run P (Instr.findKey kt (kv k) es.toList) w = .ok (some (j,e.val)) w∧mhas xs k=true∧(∀z,zdr xs k z=v)∧e.val=E.val cs∧E.R w S cs v:=by
 rcases hK.find w k es.toList hM.keys with ⟨h1,h2⟩ | ⟨j,e,h1,h2,h3⟩
 ·refine .inl ⟨h1, ?_⟩;rw [← Bool.not_eq_true,zck];rintro ⟨p,hp,e⟩;obtain ⟨i,hi⟩:=List.getElem?_of_mem hp;have hlt:i<es.toList.length:=by rw [hM.len];exact (List.getElem?_eq_some_iff.1 hi).1
  exact h2 _ (List.getElem_mem hlt) (by rw [(hM.ent i _ p (List.getElem?_eq_getElem hlt) hi).1,e])
 ·have hlt:j<xs.length:=by rw [← hM.len];exact (List.getElem?_eq_some_iff.1 h2).1
  have hj:=List.getElem?_eq_getElem hlt;obtain ⟨hk1,_,cs',hv',hR'⟩:=hM.ent j e _ h2 hj;have hk2:xs[j].1=k:=hK.inj (hk1.symm.trans h3);refine .inr ⟨j,e,xs[j].2,cs',h1,zck.2 ⟨_,List.getElem_mem hlt,hk2⟩,fun z=>?_,hv',hR'⟩;unfold zdr;rw [find_at (hM.nodup hK) hj hk2]
theorem mget_no {xs:List (κ × ν)} {k:κ} {z:ν} (h:mhas xs k=false):zdr xs k z=z:=zd4 fun p hp e=>by
 have:=zck.2 ⟨p,hp,e⟩;rw [h] at this;cases this
theorem t_mget {N:Nat} {og:Option Nat} {xs:List (κ × ν)} {k:κ} {z:ν} {x y:Operand} (hx:Opn L x (Pd.map K kv E N og xs)) (hy:Opn L y (Pd.rep K k)) (ht:P.underlying t=some (.map kt et)) (hK:KeyT P kt K kv) (hz:TyV P et E z)
  (ho:o.op = .lookup t x y false) (hg:o.guard=none):T P ops o L (Pd.rep E (zdr xs k z)):=
 T.pure hg fun M n s0 a s hL=>by
  obtain ⟨g,_,hv,_,_,es,clock,ys,hgb,hM,hp⟩:=hx M n s0 a s hL;obtain ⟨cs,hkv,hkR⟩:=hy M n s0 a s hL;rw [hK.val hkR] at hkv;obtain ⟨i,zc,hz1,hz2,hz3⟩:=hz.zero;have hzr:(zeroValue et).run P s.w = .ok (E.val zc) s.w:=by simp [zeroValue,typeInfo,hz1,hz2]
  rcases hM.look hK k with ⟨h1,h2⟩ | ⟨j,e,v,cs',h1,h2,h3,h4,h5⟩
  ·refine ⟨E.val zc, ?_,zc,rfl, ?_⟩
   ·unfold execOp;rw [ho];simp only [hv,hkv];simp [Instr.lookup,run_underlying ht,Go.MapKept.run_getObj_map hgb,hK.check,h1,hzr,Result.andThen]
   ·rw [mhas_perm hp] at h2;rw [mget_no h2];exact hz3 _ _
  ·refine ⟨e.val, ?_,cs',h4, ?_⟩
   ·unfold execOp;rw [ho];simp only [hv,hkv];simp [Instr.lookup,run_underlying ht,Go.MapKept.run_getObj_map hgb,hK.check,h1,Result.andThen]
   ·rw [← mget_perm (hM.kn hK) hp,h3];exact h5
theorem run_mput {N:Nat} {og:Option Nat} {xs:List (κ × ν)} {k:κ} {v1:ν} {s:St} {v kvl vvl:Value} (hx:(Pd.map K kv E N og xs).p s v) (hy:(Pd.rep K k).p s kvl) (hz:(Pd.rep E v1).p s vvl) (ht:P.underlying t=some (.map kt et)) (hK:KeyT P kt K kv):
  ∃s',(Instr.mapUpdate t v kvl vvl).run P s.w = .ok () s'.w∧Ef (fun b=>og=some b) s s'∧(∀b,s.X b→s'.X b)∧(Pd.map K kv E N og (zcx xs k v1)).p s' v:=by
 obtain ⟨g,hog,hv,hN,hX,es,clock,ys,hgb,hM,hpm⟩:=hx;obtain ⟨cs,hkv,hkR⟩:=hy;rw [hK.val hkR] at hkv;obtain ⟨cs1,hvv,hvR⟩:=hz;subst hv hkv;have hlt:=(Array.getElem?_eq_some_iff.1 hgb).1
 suffices hsuf:∃s',(Instr.mapUpdate t (.map (some g)) (kv k) vvl).run P s.w = .ok () s'.w∧Ef (fun b=>og=some b) s s'∧(∀b,s.X b→s'.X b)∧∃es' clock',s'.w.heap[g]?=some (.map es' clock')∧MpR K kv E s'.w (zcd s') es' clock' (zcx ys k v1) by
  obtain ⟨s',h1,h2,h3,es',clock',h4,h5⟩:=hsuf;exact ⟨s',h1,h2,h3,g,hog,rfl,hN,h3 g hX,es',clock',_,h4,h5,mput_perm hpm k v1⟩
 clear hpm;generalize ys=xs at *;have step:∀es' clock',∃s':St,s'.w = { s.w with heap:=s.w.heap.setIfInBounds g (.map es' clock') }∧Ef (fun b=>og=some b) s s'∧(∀b,s.X b→s'.X b)∧s'.w.heap[g]?=some (.map es' clock')∧s'.X=s.X:=fun es' clock'=>by
  refine ⟨⟨{ s.w with heap:=s.w.heap.setIfInBounds g (.map es' clock') },s.X,fun b hb=>by simpa using s.lt b hb⟩,rfl,⟨⟨DR.eq rfl,rfl,rfl,rfl,by simp,fun b hb hnb=>?_,fun b hb=>?_,fun b hb=>.inl hb⟩,fun b hb _=>hb⟩,fun b hb=>hb,(heap_set hgb).1,rfl⟩
  ·exact (heap_set hgb).2 b (fun e=>hnb (by rw [hog,e]))
  ·rw [hog] at hb;cases hb;exact hX
 rcases hK.find s.w k es.toList hM.keys with ⟨h1,h2⟩ | ⟨j,e,h1,h2,h3⟩
 ·have hno:mhas xs k=false:=by
   rw [← Bool.not_eq_true,zck];rintro ⟨p,hp,e⟩;obtain ⟨i,hi⟩:=List.getElem?_of_mem hp;have hlt:i<es.toList.length:=by rw [hM.len];exact (List.getElem?_eq_some_iff.1 hi).1
   exact h2 _ (List.getElem_mem hlt) (by rw [(hM.ent i _ p (List.getElem?_eq_getElem hlt) hi).1,e])
  obtain ⟨s',hw,hE,hXX,hgb',hXe⟩:=step (es.push ⟨kv k,vvl,clock⟩) (clock+1);refine ⟨s', ?_,hE,hXX,_,_,hgb', ?_⟩
  ·rw [hw];simp [Instr.mapUpdate,run_underlying ht,Go.MapKept.run_getObj_map hgb,hK.check,h1,Go.MapKept.run_setObj_map _ hgb,Result.andThen]
  ·have hM':=hM.go hE.mv;refine ⟨stamped_push hM.st (fun x hx=>h2 x hx), ?_,fun i e p he hp=>?_⟩
   ·have:=hM.len;simp only [zcx,hno,cond_false,Array.toList_push,List.length_append,List.length_cons,List.length_nil];omega
   ·simp only [zcx,hno,cond_false,Array.toList_push] at he hp
    by_cases hi:i<xs.length
    ·rw [List.getElem?_append_left hi] at hp;rw [List.getElem?_append_left (by rw [hM.len];exact hi)] at he;exact hM'.ent i e p he hp
    ·have hie:i=xs.length:=by
      have:=(List.getElem?_eq_some_iff.1 hp).1;simp at this;omega
     subst hie;rw [List.getElem?_append_right (Nat.le_refl _)] at hp;rw [List.getElem?_append_right (by rw [hM.len];exact Nat.le_refl _),hM.len] at he;simp at he hp;subst he;subst hp;exact ⟨rfl,⟨cs,K.go hE.mv hkR⟩,cs1,hvv,E.go hE.mv hvR⟩
 ·have hltj:j<xs.length:=by rw [← hM.len];exact (List.getElem?_eq_some_iff.1 h2).1
  have hjx:=List.getElem?_eq_getElem hltj;have hk2:xs[j].1=k:=hK.inj ((hM.ent j e _ h2 hjx).1.symm.trans h3);have hyes:mhas xs k=true:=zck.2 ⟨_,List.getElem_mem hltj,hk2⟩;have hj:es[j]?=some e:=by simpa using h2
  have hlist:(es.modify j (fun e'=>{ e' with key:=kv k,val:=vvl })).toList=es.toList.set j { e with key:=kv k,val:=vvl }:=by rw [Array.toList_modify,Go.ChangeMaps.modify_eq_set _ _ _ _ h2]
  have hkeyf:∀e',es[j]?=some e'→({ e' with key:=kv k,val:=vvl }:MapEntry).key=e'.key:=fun e' he'=>by rw [hj] at he';cases he';exact h3.symm
  obtain ⟨s',hw,hE,hXX,hgb',hXe⟩:=step (es.modify j (fun e'=>{ e' with key:=kv k,val:=vvl })) clock;refine ⟨s', ?_,hE,hXX,_,_,hgb', ?_⟩
  ·rw [hw];simp [Instr.mapUpdate,run_underlying ht,Go.MapKept.run_getObj_map hgb,hK.check,h1,hj,h3,hK.stays,Go.MapKept.run_setObj_map _ hgb,Result.andThen]
  ·have hM':=hM.go hE.mv;refine ⟨stamped_modify hM.st _ _ (fun _ _=>rfl) (fun e' _ he'=>hkeyf e' he'), ?_,fun i e1 p he hp=>?_⟩
   ·rw [hlist];simp only [zcx,hyes,cond_true,List.length_map,List.length_set];exact hM.len
   ·rw [hlist] at he;simp only [zcx,hyes,cond_true,List.getElem?_map] at hp;obtain ⟨p0,hp0,rfl⟩:=Option.map_eq_some_iff.1 hp
    by_cases hij:j=i
    ·subst hij;rw [hjx] at hp0;cases hp0;have hjl:j<es.toList.length:=by rw [hM.len];exact hltj
     rw [List.getElem?_set_self hjl] at he;cases he;simp only [hk2,beq_self_eq_true,cond_true];exact ⟨trivial,⟨cs,K.go hE.mv hkR⟩,cs1,hvv,E.go hE.mv hvR⟩
    ·rw [List.getElem?_set_ne hij] at he;have hne:(p0.1==k)=false:=by
      rw [← Bool.not_eq_true];intro hh;exact hij (hM.nodup hK j i _ p0 hjx hp0 (by rw [hk2];exact (by simpa using hh:p0.1=k).symm))
     rw [hne];exact hM'.ent i e1 p0 he hp0
theorem zc1 {og:Option Nat} {xs:List (κ × ν)} {k:κ} {v1:ν} {x y z:Operand} (hL:Has M n s0 a s L) (hx:Opn L x (Pd.map K kv E s0.w.heap.size og xs)) (hy:Opn L y (Pd.rep K k)) (hz:Opn L z (Pd.rep E v1))
  (ht:P.underlying t=some (.map kt et)) (hK:KeyT P kt K kv) (ho:o.op = .mapUpdate t x y z∨o.op = .insert t x y z) (hg:o.guard=none) (hd:o.dst=none)
  (hk:Kw (fun b=>og=some b) L (Pd.map K kv E s0.w.heap.size og xs) (Pd.map K kv E s0.w.heap.size og (zcx xs k v1)) L')
  (kk:∀s',Has M n s0 a s' L'→wpList P ops Q rest a s'.w):wpList P ops Q (o::rest) a s.w:=by
 have hxv:=hx M n s0 a s hL;obtain ⟨s',hr,hE,hXX,hp⟩:=run_mput (P:=P) hxv (hy M n s0 a s hL) (hz M n s0 a s hL) ht hK;refine wpList_plain hg fun K' hK'=>?_;unfold Oper.wp execOp;have h2:wpList P ops Q rest a s'.w:=kk s' (hL.turn hE (.inl fun b hb=>(map_lt hxv b hb).1) hXX hk fun v hv=>by rw [map_uniq hv hxv];exact hp);rcases ho with ho | ho
 all_goals
  simp only [ho,Sem.run_bind,hr,Result.andThen_ok,Sem.run_pure];refine hK' _ _ ?_;simp only [hd];exact h2
end
end
end
end Go.Proofs.YtaknifhhnhcchaaDoor.V
namespace Go.Proofs.YtaknifhhnhcchaaDoor.V
open Go
set_option linter.unusedVariables false
section
variable {u : Bool} [Dr u]
def En.raw:En Value where
 sz:=1
 agg:=false
 R:=fun _ _ cs x=>cs=[x]∧x.oneCell'=true
 sc:=fun _=>rfl
 pos:=Nat.one_pos
 len:=by rintro _ _ _ _ ⟨rfl,_⟩;rfl
 one:=by rintro _ _ _ _ ⟨rfl,h⟩ u hu;simp at hu;subst hu;exact h
 mono:=fun _ h=>h
 move:=fun _ h=>h
theorem rep_raw {x:Value} {s:St} {v:Value}:(Pd.rep En.raw x).p s v↔v=x∧x.oneCell'=true:=
 ⟨fun ⟨_,hv,hc,hr⟩=>by subst hc;exact ⟨hv,hr⟩,fun ⟨hv,hr⟩=>⟨[x],hv,rfl,hr⟩⟩
def hv (f c:Nat):Value:=.func (.func f) #[] #[.pointer (some ⟨c,0,none⟩)]
def Gh {α:Type} (E:En α) (N:Nat) (te:TypeId) (c:Nat) (og:Option Nat) (xs:List α) (s:St):Prop:=
 s.X c∧og≠some c∧∃v t,s.w.heap[c]?=some (.cells #[v] t (0,0))∧(Pd.row E N te og xs).p s v
theorem Gh.mv {α:Type} {E:En α} {N:Nat} {te:TypeId} {c:Nat} {og:Option Nat} {xs:List α} {T:Nat→Prop} {s s':St} (h:Mv T s s') (hb:∀b,(some c=some b∨og=some b)→¬ T b∧(s.X b→s'.X b)) (hp:Gh E N te c og xs s):Gh E N te c og xs s':=by
 obtain ⟨hx,hne,v,t,hc,hr⟩:=hp;refine ⟨(hb c (.inl rfl)).2 hx,hne,v,t, ?_,(Pd.row E N te og xs).mv h (fun b hbo=>hb b (.inr hbo)) hr⟩;rw [h.blk c (Array.getElem?_eq_some_iff.1 hc).1 (hb c (.inl rfl)).1];exact hc
def Pd.gh {α:Type} (E:En α) (N:Nat) (te:TypeId) (c:Nat) (og:Option Nat) (xs:List α):Pd:=
 ⟨fun s _=>Gh E N te c og xs s,fun b=>some c=some b∨og=some b,fun h hb hp=>hp.mv h hb⟩
def Pd.gv {α:Type} (E:En α) (N:Nat) (te:TypeId) (c:Nat) (og:Option Nat) (xs:List α):Pd:=
 ⟨fun s v=>v = .pointer (some ⟨c,0,none⟩)∧N≤c∧Gh E N te c og xs s,fun b=>some c=some b∨og=some b,fun h hb hp=>⟨hp.1,hp.2.1,hp.2.2.mv h hb⟩⟩
theorem Dis.o1 {g:Nat} {c og:Option Nat} (h:Dis (some g) c) (k:Dis (some g) og):∀b,b=g→¬ (c=some b∨og=some b):=fun b e h2=>h2.elim (fun h2=>h b (by rw [e]) h2) (fun h2=>k b (by rw [e]) h2)
theorem Dis.o2 {o c og:Option Nat} (h:Dis o c) (k:Dis o og):∀b,o=some b→¬ (c=some b∨og=some b):=fun b e h2=>h2.elim (fun h2=>h b e h2) (fun h2=>k b e h2)
theorem Dis.o3 {o c og:Option Nat} (h:Dis c o) (k:Dis og o):∀b,(c=some b∨og=some b)→¬ o=some b:=fun b h2 e=>h2.elim (fun h2=>h b h2 e) (fun h2=>k b h2 e)
structure HitOk (P:Program) (f:FuncId) (te:TypeId):Prop where
 call:∀(args:Array Value) (w:World),(callFunc f args).run P w = .ok (.enter f args) w
 run:∀(N c:Nat) (og:Option Nat) (xs:List Int) (x:Int) (s:St) (v:Value),Gl s→N≤s.w.heap.size→xs.length+1≤2147483648→(Pd.rep (En.int .i64) x).p s v→Gh (En.int .i64) N te c og xs s →
  Calls P f #[v,.pointer (some ⟨c,0,none⟩)] s.w fun e w'=>∃s' og',e = .returned (.bool false)∧s'.w=w'∧Ef (fun b=>some c=some b∨og=some b) s s'∧s'.X c∧(∀b,og'=some b→og=some b∨s.w.heap.size≤b)∧Gh (En.int .i64) N te c og' (xs++[x]) s'
theorem Ef.exg {M T:Nat→Prop} {s0 s s':St} (h:Fr M s0 s) (e:Ef T s s') (hT:∀b,T b→M b∨s0.w.heap.size≤b) (hk:∀b,M b→s.X b→s'.X b):Fr M s0 s':=
 ⟨⟨h.mv.dr.trans e.mv.dr,e.mv.os.trans h.mv.os,e.mv.tape.trans h.mv.tape,e.mv.output.trans h.mv.output,Nat.le_trans h.mv.size e.mv.size,
  fun b hb hn=>(e.mv.blk b (Nat.lt_of_lt_of_le hb h.mv.size) (fun ht=>(hT b ht).elim hn (fun hs=>by omega))).trans (h.mv.blk b hb hn),h.mv.tx,
  fun b hb=>(e.mv.xx b hb).elim (fun j=>h.mv.xx b j) (fun j=>.inr (Nat.le_trans h.mv.size j))⟩,
  fun b hb=>by
  by_cases ht:T b
  ·rcases hT b ht with hm | hs
   ·exact hk b hm (h.keep b hb)
   ·have:=s0.lt b hb;omega
  ·exact e.keep b (h.keep b hb) ht⟩
theorem Has.efg {M:Nat→Prop} {n:Nat} {s0:St} {a:Act} {s s':St} {L L':Lst} {T:Nat→Prop} (h:Has M n s0 a s L) (e:Ef T s s') (hT:∀b,T b→M b∨s0.w.heap.size≤b) (hX:∀b,M b→s.X b→s'.X b) (hk:Kp T L L'):Has M n s0 a s' L' where
 size:=h.size
 defers:=h.defers
 ent:=e.exg h.ent hT hX
 gl:=h.gl
 at_:=hk.p h.at_ fun q v h2=>q.mv e.mv fun b hb=>⟨h2 b hb,fun hx=>e.keep b hx (h2 b hb)⟩
structure Fg (P:Program) (f:FuncId) (c:Nat) (te:TypeId) (qs:List Pd) (R:St→Value→Prop) (zs:List Int):Prop where
 call:∀(args:Array Value) (w:World),(callFunc f args).run P w = .ok (.enter f args) w
 run:∀s vs,Gl s→Gh (En.int .i64) s.w.heap.size te c none [] s→Vals s qs vs→Calls P f vs.toArray s.w fun e w'=>∃v s',e = .returned v∧s'.w=w'∧Fr (fun b=>some c=some b) s s'∧R s' v∧∃og,Gh (En.int .i64) s.w.heap.size te c og zs s'
def Rg (te:TypeId) (c:Nat) (R:St→Value→Prop) (zs:List Int):St→St→Value→Prop:=fun s s' v=>R s' v∧∃og,Gh (En.int .i64) s.w.heap.size te c og zs s'
theorem fg_of {P:Program} {f:FuncId} {fn:Func} {cd:Code} {n c:Nat} {te:TypeId} {qs:List Pd} {R:St→Value→Prop} {zs:List Int} (hf:P.funcs[f]?=some fn) (hb:fn.body=some cd) (hn:fn.ntmps=n) (hm:(fn.name == "runtime.NumGoroutine")=false) (hq:qs.length≤n)
  (h:∀s0 a,Has (fun b=>some c=some b) n s0 a s0 ((999901,Pd.gh (En.int .i64) s0.w.heap.size te c none [])::num 0 qs)→cd.wp P (bodyPost P fn (Pst (fun b=>some c=some b) (Rg te c R zs) s0)) a s0.w):Fg P f c te qs R zs where
 call:=fun args w=>by
  have hm':¬ fn.name = "runtime.NumGoroutine":=by simpa using hm
  simp [callFunc,hf,hm',hb]
 run:=fun s vs hg hgh hv=>by
  refine calls_of_wp hf hb ?_;have hl:=zeh hv;have h0:Has (fun b=>some c=some b) n s { tmps:=vs.toArray++Array.replicate (fn.ntmps-vs.toArray.size) undef,defers:=[] } s (num 0 qs):=by
   refine ⟨?_,rfl,Fr.refl (fun b hb=>by cases hb;exact hgh.1),hg,fun t q ht=>?_⟩
   ·simp [hn,hl];omega
   ·obtain ⟨v,_,h2,h3⟩:=zep hv 0 t q ht;have:(({ tmps:=vs.toArray++Array.replicate (fn.ntmps-vs.toArray.size) undef,defers:=[] }:Act).eval (.tmp t))=v:=by
     simp only [Nat.sub_zero] at h2;have hlt:t<vs.length:=(List.getElem?_eq_some_iff.1 h2).1;simp only [Act.eval];rw [Array.getD_eq_getD_getElem?,Array.getElem?_append_left (by simpa using hlt)];simp [h2]
    rw [this];exact h3
  exact h s _ (h0.cons 999901 hgh)
section
variable {P : Program} {ops : Array Oper} {o : Oper} {L L' : Lst} {Q : Exit → Act → World → Prop} {rest : List Oper} {M : Nat → Prop} {n : Nat} {s0 : St} {a : Act} {s : St} {te : TypeId} {c : Nat} {og : Option Nat}
theorem retg {fn:Func} {a0 t0:Nat} {α:Type} {E:En α} {x:α} {N g:Nat} {xs:List Int} (hr:fn.results = #[.cell a0 t0]) (hE:Ty P t0 E) (hL:Has M n s0 a s L) (hl:lk L a0=some (Pd.box E N g x)) (hgl:lk L 999901=some (Pd.gh (En.int .i64) s0.w.heap.size te c og xs)):
  bodyPost P fn (Pst M (Rg te c (fun s v=>(Pd.rep E x).p s v) xs) s0) .ret a s.w:=by
 obtain ⟨hv,_,_,cs,t',hc,hR⟩:=hL.get a0 hl;exact ⟨hL.defers,_,zdo hr hE hv hR (zy hc),_,s,rfl,rfl,hL.ent,⟨cs,rfl,hR⟩,og,hL.get 999901 hgl⟩
theorem Has.gltc {N:Nat} {xs:List Int} (h:Has M n s0 a s L) (t:Nat) (hl:lk L t=some (Pd.gh (En.int .i64) N te c og xs)):∀k,some c=some k→k<s.w.heap.size:=fun k hk=>by cases hk;exact s.lt _ (h.get t hl).1
theorem Has.glto {N:Nat} {xs:List Int} (h:Has M n s0 a s L) (t:Nat) (hl:lk L t=some (Pd.gh (En.int .i64) N te c og xs)):∀k,og=some k→k<s.w.heap.size:=fun k hk=>by
 obtain ⟨_,_,v,t,_,hr⟩:=h.get t hl;exact (zc6 hr k hk).2
theorem t_mkraw {f:FuncId} {x:Nat} {N:Nat} {xs:List Int} (hx:lk L x=some (Pd.gv (En.int .i64) N te c og xs)) (ho:o.op = .makeFunc (.func f) #[] #[.tmp x]) (hg:o.guard=none):T P ops o L (Pd.rep En.raw (hv f c)):=
 T.pure hg fun M n s0 a s hL=>by
  refine ⟨hv f c, ?_,rep_raw.2 ⟨rfl,rfl⟩⟩;unfold execOp;rw [ho];have:=(hL.get x hx).1;simp [Instr.makeFunc,hv,this]
theorem st_hit {f:FuncId} (d:Nat) {t:Nat} {y:Operand} {x:Int} {xs:List Int} {h:Value} {ats:Array TypeId} (hL:Has M n s0 a s L) (hf:HitOk P f te) (hM:M c) (hgl:lk L 999901=some (Pd.gh (En.int .i64) s0.w.heap.size te c og xs))
  (hx:Opn L (.tmp t) (Pd.rep En.raw h)) (he:h=hv f c) (hy:Opn L y (Pd.rep (En.int .i64) x)) (hlen:xs.length+1≤2147483648) (ho:o.op = .call { callee:=.value (.tmp t),args:=#[y],argTypes:=ats }) (hg:o.guard=none) (hd:o.dst=some d) (hn:Nat.blt d n=true)
  (hk:Kp (fun b=>some c=some b∨og=some b) L L')
  (k:∀a' s' og',(∀b,og'=some b→og=some b∨s.w.heap.size≤b)→Has M n s0 a' s' ((d,Pd.rep En.bool false)::(999901,Pd.gh (En.int .i64) s0.w.heap.size te c og' (xs++[x]))::L')→wpList P ops Q rest a' s'.w):wpList P ops Q (o::rest) a s.w:=by
 have hv:=(rep_raw.1 (hx M n s0 a s hL)).1;rw [he] at hv;have hgh:=hL.get 999901 hgl;have e:(execOp a.eval o).run P s.w = .ok (.enter f #[a.eval y,.pointer (some ⟨c,0,none⟩)]) s.w:=by
  have e1:execOp a.eval o=(do let d ← Deferred.ofValue (a.eval (.tmp t)) (#[y].map a.eval);invoke d.target d.args):=by
   unfold execOp;rw [ho];rfl
  rw [e1,hv];have:=hf.call #[a.eval y,.pointer (some ⟨c,0,none⟩)] s.w;simpa [Deferred.ofValue,invoke,V.hv] using this
 refine wpList_plain hg fun K hK=>?_;unfold Oper.wp;rw [e,Oper.upon_enter];refine (hf.run s0.w.heap.size c og xs x s _ hL.gls hL.ent.mv.size hlen (hy M n s0 a s hL) hgh).mono fun en w' ⟨s',og',he,hw,hE,hXc,hog,hgh'⟩=>?_;subst he;subst hw;refine hK _ _ ?_;rw [hd];have hT:∀b,(some c=some b∨og=some b)→M b∨s0.w.heap.size≤b:=fun b hb=>hb.elim (fun e=>by cases e;exact .inl hM) (fun e=>.inr (by obtain ⟨_,_,_,_,_,hr⟩:=hgh;exact (zc6 hr b e).1));have h1:Has M n s0 a s' L':=hL.efg hE hT (fun b hb hx=>by
  by_cases hbc:b=c
  ·rw [hbc];exact hXc
  ·refine hE.keep b hx (fun ht=>ht.elim (fun e=>hbc (by cases e;rfl)) (fun e=>?_));obtain ⟨_,_,_,_,_,hr⟩:=hgh;have:=(zc6 hr b e).1;have:=hL.ent.mv.tx b hb;have:=s0.lt b this;omega) hk
 exact k _ s' og' hog ((h1.cons 999901 hgh').put' hn (zbc.2 rfl))
structure TyN (P:Program) (t:TypeId):Prop where
 zero:∃i,P.info? t=some i∧i.zero=some (.slice none 0 0)
theorem st_allocg {t:TypeId} (te:TypeId) (d:Nat) (hL:Has M n s0 a s L) (hz:TyN P t) (ho:o.op = .alloc t) (hg:o.guard=none) (hd:o.dst=some d) (hn:Nat.blt d n=true)
  (k:∀a' s' g,s.w.heap.size≤g→Has M n s0 a' s' ((d,Pd.gv (En.int .i64) s0.w.heap.size te g none [])::L)→wpList P ops Q rest a' s'.w):wpList P ops Q (o::rest) a s.w:=by
 obtain ⟨i,h1,h2⟩:=hz.zero;have hr:(execOp a.eval o).run P s.w = .ok (.value (.pointer (some ⟨s.w.heap.size,0,none⟩))) (s.pushX (.cells #[.slice none 0 0] t)).w:=by
  unfold execOp;rw [ho];simp [Instr.alloc,zeroValue,typeInfo,h1,h2,newVar,newRow,St.pushX,Value.cells]
 refine wpList_plain hg fun K hK=>?_;unfold Oper.wp;rw [hr];refine hK _ _ ?_;simp only [hd];exact k _ _ s.w.heap.size (Nat.le_refl _) (hL.put (Ex.pushX s _) hn ⟨rfl,hL.ent.mv.size,.inr rfl,(fun h=>by cases h),.slice none 0 0,t,heap_alloc_new s.w _,zeo _ _ _ _⟩)
theorem st_callg {α:Type} {E2:En α} {r:α} {f:FuncId} {xs:List Operand} {qs:List Pd} {ats:Array TypeId} {zs:List Int} (d c3:Nat) (hL:Has M n s0 a s L) (hc:lk L c3=some (Pd.gv (En.int .i64) s0.w.heap.size te c none [])) (hf:Fg P f c te qs (fun s v=>(Pd.rep E2 r).p s v) zs) (hx:Opns L xs qs)
  (ho:o.op = .call { callee:=.value (.func f),args:=xs.toArray,argTypes:=ats }) (hg:o.guard=none) (hd:o.dst=some d) (hn:Nat.blt d n=true) (hne:d≠c3) (hk:Kp (fun b=>some c=some b) L L')
  (k:∀a' s',Has M n s0 a' s' ((d,Pd.rep E2 r)::(c3,Pd.ptr (En.slice (En.int .i64)) zs)::L')→wpList P ops Q rest a' s'.w):wpList P ops Q (o::rest) a s.w:=by
 obtain ⟨hpv,hNc,hX,hno,v0,t0,hc0,hr0⟩:=hL.get c3 hc;have hgh:Gh (En.int .i64) s.w.heap.size te c none [] s:=by
  refine ⟨hX,hno,v0,t0,hc0, ?_⟩;obtain ⟨h1,h2,h3,css,h4,h5⟩:=hr0;refine ⟨h1,h2,h3,css,h4,h5.1, ?_⟩;rcases h5.2 with hn | ⟨g,cap,cur,e,_⟩
  ·exact .inl hn
  ·subst e;cases h1
 have hcall:=hf.call (xs.map a.eval).toArray s.w;have e:(execOp a.eval o).run P s.w = .ok (.enter f (xs.map a.eval).toArray) s.w:=by
  have e:execOp a.eval o=callFunc f (#[]++(xs.toArray).map a.eval ++ #[]):=by unfold execOp;rw [ho];rfl
  rw [e];simpa using hcall
 refine wpList_plain hg fun K hK=>?_;unfold Oper.wp;rw [e,Oper.upon_enter];refine (hf.run s _ hL.gls hgh (hx.vals hL)).mono fun en w' ⟨v,s',he,hw,hfr,hp,og',hX',hne',v',t',hc',hr'⟩=>?_;subst he;subst hw;refine hK _ _ ?_;rw [hd];have hlt:=zc6 hr'
 let s2:St:=⟨s'.w,fun b=>s'.X b∧¬ some c=some b∧og'≠some b,fun b hb=>s'.lt b hb.1⟩
 have hE:Ef (fun b=>some c=some b) s s2:=⟨⟨hfr.mv.dr,hfr.mv.os,hfr.mv.tape,hfr.mv.output,hfr.mv.size,hfr.mv.blk,hfr.mv.tx,fun b hb=>hfr.mv.xx b hb.1⟩,fun b hb hn=>⟨hfr.keep b hb,hn,fun e=>by have:=(hlt b e).1;have:=s.lt b hb;omega⟩⟩;have hM2:Mv (fun _=>False) s' s2:=⟨DR.eq rfl,rfl,rfl,rfl,Nat.le_refl _,fun _ _ _=>rfl,fun _ h=>h.elim,fun b hb=>.inl hb.1⟩;have h1:Has M n s0 a s2 L':=hL.ef hE (fun b hb=>by cases hb;exact hNc) hk;have h2:(Pd.rep E2 r).p s2 v:=(Pd.rep E2 r).mv hM2 (fun b hb=>hb.elim) hp;have hsl:=zdh hr' (s':=s2) rfl (fun b hb=>⟨hb.1,hb.2.2⟩);have hptr:(Pd.ptr (En.slice (En.int .i64)) zs).p s2 (a.eval (.tmp c3)):=⟨c,0,[v'],hpv,⟨(Array.getElem?_eq_some_iff.1 hc').1,fun hx=>hx.2.1 rfl⟩,zy hc',v',rfl,hsl⟩;exact k _ s2 ((h1.cons c3 hptr).put' hn h2)
end
end
end Go.Proofs.YtaknifhhnhcchaaDoor.V
namespace Go.Proofs.YtaknifhhnhcchaaDoor.V
open Go
set_option linter.unusedVariables false
abbrev SOn_int_search:Type:=Int × Int
abbrev SWay:Type:=Int × Int
abbrev SSpace_int_searchR:Type:=Int × (Int × Str→Prop) × (Int × (List SOn_int_search)→Prop) × Value
abbrev STable:Type:=(List (List SWay)) × (List Bool)
abbrev SVerdict:Type:=Int × (List Int) × (List Int) × Int × Int × Int × Int
abbrev SFound_int_search:Type:=SVerdict × Int
abbrev SSpace_int_search:Type:=Int × (Int × Str→Prop) × (Int × (List SOn_int_search)→Prop) × (Int × Bool→Prop)
abbrev Smade_int_search:Type:=Int × Int × Int
def zz (n:Int) (r:Str):Prop:=InR .i64 n∧r=Lib.itoa n
section
variable {u : Bool} [Dr u]
class Ud (P:Program) (t:TypeId) (d:outParam TypeDesc):Prop where
 h:P.underlying t=some d
class Tq {α:outParam Type} (P:Program) (t:TypeId) (E:outParam (En α)):Prop where
 h:Ty P t E
class Ev {α:Sort _} (a:α) (b:outParam α):Prop where
 h:a=b
instance evr {α:Sort _} {a:α}:Ev a a:=⟨rfl⟩
@[reducible] def lkr:Lst→Nat→Option Pd
 | [],_=>none
 | (d,q)::r,t=>match Nat.beq d t with
  | true=>some q
  | false=>lkr r t
theorem lkr_lk:∀{L:Lst} {t:Nat},lkr L t=lk L t
 | [],_=>rfl
 | (d,q)::r,t=>by
  rw [lk,lkr];cases Nat.beq d t
  ·exact lkr_lk
  ·rfl
class Lx (L:Lst) (t:Nat) (q:outParam Pd):Prop where
 h:lk L t=some q
instance lxi {L:Lst} {t:Nat} {q:Pd} [h:Ev (lkr L t) (some q)]:Lx L t q:=⟨lkr_lk ▸ h.h⟩
class Vw (c:Prop) (q:Pd) (q':outParam Pd):Prop where
 h:∀s v,c→q.p s v→q'.p s v
instance (priority:=low) vw0 {c:Prop} {q:Pd}:Vw c q q:=⟨fun _ _ _ h=>h⟩
class Ki (k:IntKind) (x:Int):Prop where
 h:InR k x
@[reducible] def inb:IntKind→Int→Bool
 | .i64,.ofNat n=>Nat.ble n 9223372036854775807
 | .u8,.ofNat n=>Nat.ble n 255
 | .u64,.ofNat n=>Nat.ble n 18446744073709551615
 | _,_=>false
instance kix {k:IntKind} {x:Int} [h:Ev (inb k x) true]:Ki k x:=⟨by
 have e:=h.h
 unfold inb at e
 split at e
 all_goals first | (have:=Nat.le_of_ble_eq_true e;simp [InR,IntKind.min,IntKind.max,IntKind.signed,IntKind.bits];omega) | cases e⟩
instance kin {x:Int} [h:Ev (inb .i64 x) true]:Ki .i64 (-x):=⟨by
 have e:=h.h
 unfold inb at e
 split at e
 all_goals first | (have:=Nat.le_of_ble_eq_true e;simp [InR,IntKind.min,IntKind.max,IntKind.signed,IntKind.bits];omega) | cases e | contradiction⟩
class Oc (c:Prop) (L:Lst) (x:Operand) (q:outParam Pd):Prop where
 h:c→Opn L x q
instance oct {c:Prop} {L:Lst} {t:Nat} {q q':Pd} [h:Lx L t q] [v:Vw c q q']:Oc c L (.tmp t) q':=⟨fun hc M n s0 a s hL=>v.h s _ hc (hL.get t h.h)⟩
instance oci {c:Prop} {L:Lst} {k:IntKind} {x:Int} [h:Ki k x]:Oc c L (.const (.int k x)) (Pd.rep (En.int k) x):=⟨fun _=>o_i h.h⟩
instance ocb {c:Prop} {L:Lst} {x:Bool}:Oc c L (.const (.bool x)) (Pd.rep En.bool x):=⟨fun _=>o_b⟩
class Or {α:outParam Type} (c:Prop) (L:Lst) (x:Operand) (E:outParam (En α)) (N:outParam Nat) (te:outParam TypeId) (og:outParam (Option Nat)) (xs:outParam (List α)):Prop where
 h:c→Opn L x (Pd.row E N te og xs)
instance or1 {α:Type} {E:En α} {te:Nat} {v0:Value} {xs:List α} {c:Prop} {L:Lst} {x:Operand} [h:Oc c L x (Pd.prow E te v0 xs)]:Or c L x E 0 te v0.ownBlock xs:=⟨fun hc=>o_p (h.h hc)⟩
theorem op {L:Lst} {x:Operand} {q:Pd} [h:Oc True L x q]:Opn L x q:=h.h trivial
class Oz (c:Prop) (L:Lst) (xs:List Operand) (qs:List Pd):Prop where
 h:c→Opns L xs qs
instance oz0 {c:Prop} {L:Lst}:Oz c L [] []:=⟨fun _=>.nil⟩
instance oz1 {c:Prop} {L:Lst} {x:Operand} {xs:List Operand} {q:Pd} {qs:List Pd} [h:Oc c L x q] [k:Oz c L xs qs]:Oz c L (x::xs) (q::qs):=⟨fun hc=>.cons (h.h hc) (k.h hc)⟩
theorem opz {L:Lst} {xs:List Operand} {qs:List Pd} [h:Oz True L xs qs]:Opns L xs qs:=h.h trivial
class Cj (a b:Prop) (c:outParam Prop):Prop where
 h:c→a∧b
instance (priority:=high) cj0 {a:Prop}:Cj True a a:=⟨fun h=>⟨trivial,h⟩⟩
instance (priority:=900) cj1 {a:Prop}:Cj a True a:=⟨fun h=>⟨h,trivial⟩⟩
instance (priority:=low) cj2 {a b:Prop}:Cj a b (a∧b):=⟨id⟩
class TO (c:Prop) (P:Program) (ops:Array Oper) (o:Oper) (L:Lst) (q:outParam Pd) (r:outParam Prop):Prop where
 h:r→c→T P ops o L q
class TH (p c:Prop) (P:Program) (ops:Array Oper) (o:Oper) (L:Lst) (q:outParam Pd):Prop where
 h:p→c→T P ops o L q
section
variable {c : Prop} {P : Program} {ops : Array Oper} {L : Lst} {d : Option Nat} {ty : TypeId} {ps : String} {af : Array Edge} {x y z : Operand} {t u' : TypeId} {k : IntKind} {a b : Int}
instance to1 {q:Pd} [i0:Oc c L x q]:TO c P ops ⟨d,.move x,ty,ps,af,none⟩ L (q) (True):=⟨fun hr hc=>zf (i0.h hc) rfl rfl⟩
instance to2 {q:Pd} [i0:Oc c L x q]:TO c P ops ⟨d,.assign x,ty,ps,af,none⟩ L (q) (True):=⟨fun hr hc=>zh (i0.h hc) rfl rfl⟩
instance to3 {α:Type} {E:En α} {v:α} [i0:Tq P t E] [i1:Oc c L y (Pd.ptr E v)]:TO c P ops ⟨d,.load t y,ty,ps,af,none⟩ L (Pd.rep E v) (True):=⟨fun hr hc=>zm i0.h (i1.h hc) rfl rfl⟩
instance to10 [i0:Oc c L x (Pd.rep (En.int k) a)] [i1:Oc c L y (Pd.rep (En.int k) b)]:TO c P ops ⟨d,.binOp .lss t x y u',ty,ps,af,none⟩ L (Pd.rep En.bool (decide (a<b))) (True):=⟨fun hr hc=>zcr (i0.h hc) (i1.h hc) rfl rfl⟩
instance to13 [i0:Oc c L x (Pd.rep (En.int k) a)] [i1:Oc c L y (Pd.rep (En.int k) b)]:TO c P ops ⟨d,.binOp .geq t x y u',ty,ps,af,none⟩ L (Pd.rep En.bool (decide (b≤a))) (True):=⟨fun hr hc=>t_geq (i0.h hc) (i1.h hc) rfl rfl⟩
instance to15 [i0:Oc c L x (Pd.rep (En.int k) a)] [i1:Oc c L y (Pd.rep (En.int k) b)]:TO c P ops ⟨d,.binOp .neq t x y u',ty,ps,af,none⟩ L (Pd.rep En.bool (a != b)) (True):=⟨fun hr hc=>t_nei (i0.h hc) (i1.h hc) rfl rfl⟩
instance to16 [i0:Oc c L x (Pd.rep (En.int .i64) a)] [i1:Oc c L y (Pd.rep (En.int .i64) b)]:TO c P ops ⟨d,.binOp .add t x y u',ty,ps,af,none⟩ L (Pd.rep (En.int .i64) (a+b)) (InR .i64 (a+b)):=⟨fun hr hc=>zb4 (i0.h hc) (i1.h hc) hr rfl rfl⟩
instance to19 [i0:Oc c L x (Pd.rep (En.int .i64) a)] [i1:Oc c L y (Pd.rep (En.int .i64) b)]:TO c P ops ⟨d,.binOp .sub t x y u',ty,ps,af,none⟩ L (Pd.rep (En.int .i64) (a-b)) (InR .i64 (a-b)):=⟨fun hr hc=>t_sub (i0.h hc) (i1.h hc) hr rfl rfl⟩
instance to36 {α:Type} {E:En α} {xs:List α} {te:TypeId} [i0:Oc c L y (Pd.rep (En.slice E) xs)] [i1:Ud P t (.slice te)]:TO c P ops ⟨d,.call { callee:=.builtin .len,args:=#[y],argTypes:=#[t] },ty,ps,af,none⟩ L (Pd.rep (En.int .i64) xs.length) (True):=⟨fun hr hc=>zbz (i0.h hc) i1.h rfl rfl⟩
instance to37 {α:Type} {E:En α} {xs:List α} {N te te':Nat} {og:Option Nat} [i0:Or c L y E N te og xs] [i1:Ud P t (.slice te')]:TO c P ops ⟨d,.call { callee:=.builtin .len,args:=#[y],argTypes:=#[t] },ty,ps,af,none⟩ L (Pd.rep (En.int .i64) xs.length) (True):=⟨fun hr hc=>zdy (i0.h hc) i1.h rfl rfl⟩
instance to59 {α:Type} {E:En α} {xs:List α} {e:α} {te:TypeId} [i0:Oc c L x (Pd.rep (En.slice E) xs)] [i1:Oc c L y (Pd.rep (En.int k) a)] [i2:Ud P t (.slice te)] [i3:Tq P te E]:TH (at? xs a=some e) c P ops ⟨d,.indexAddr t x y,ty,ps,af,none⟩ L (Pd.ptr E e):=⟨fun hr hc=>zb0 (i0.h hc) (i1.h hc) hr i2.h i3.h rfl rfl⟩
instance to60 {α:Type} {E:En α} {xs:List α} {e:α} {N te te':Nat} {og:Option Nat} [i0:Or c L x E N te' og xs] [i1:Oc c L y (Pd.rep (En.int k) a)] [i2:Ud P t (.slice te)] [i3:Tq P te E]:TH (at? xs a=some e) c P ops ⟨d,.indexAddr t x y,ty,ps,af,none⟩ L (Pd.optr E N og (a.toNat*E.sz) e):=⟨fun hr hc=>zdz (i0.h hc) (i1.h hc) hr i2.h i3.h rfl rfl⟩
instance toc {f:FuncId} {xs:List Operand} {qs:List Pd} {q:Pd} {ats:Array TypeId} [i:Oz c L xs qs]:TH (Fn P f qs (Rq q)) c P ops ⟨d,.call { callee:=.value (.func f),args:=xs.toArray,argTypes:=ats },ty,ps,af,none⟩ L q:=⟨fun hf hc=>zbd hf (i.h hc) rfl rfl⟩
class Gd (l:List Oper) (j:Nat) (d:outParam Nat):Prop where
 h:(l[j]?).bind (·.dst)=some d
section
variable {l : List Oper} {j e : Nat} {o : Op} {want v : Bool} {q : Pd} {c0 r r' p : Prop} [g : Gd l j e]
include g
end
end
theorem rr {r:Prop} (h:r:=by first | exact trivial | assumption | exact Dis.symm (by assumption) | exact And.intro rr rr | exact fun _=>rr | exact Dis.none | exact Dis.symm Dis.none | decide):r:=h
class Sb (q:Pd):Prop where
 h:∀b,¬ q.own b
instance sb_rep {α:Type} {E:En α} {x:α}:Sb (Pd.rep E x):=⟨fun _ h=>h⟩
instance sb_any:Sb Pd.any:=⟨fun _ h=>h⟩
class Ob (q:Pd) (o:outParam (Option Nat)):Prop where
 h:∀b,q.own b→o=some b
section
variable {α : Type} {E : En α} {N te g i : Nat} {og : Option Nat} {x : α} {xs : List α} {v0 : Value}
instance ob_optr:Ob (Pd.optr E N og i x) og:=⟨fun _ h=>h⟩
end
section
variable {o o' : Option Nat} {L L' : Lst} {r r' : Prop} {t : Nat} {q : Pd}
class Ks (o:Option Nat) (q q':Pd) (L:Lst) (L':outParam Lst) (r:outParam Prop):Prop where
 h:r→Kw (fun b=>o=some b) L q q' L'
variable {p p' : Pd}
instance ks0:Ks o p p' [] [] True:=⟨fun _=>.a0⟩
instance (priority:=1200) ks5 [k:Ks o p p' L L' r]:Ks o p p' ((t,p)::L) ((t,p')::L') r:=⟨fun hr=>.aw (k.h hr)⟩
instance (priority:=1100) ks1 [s:Sb q] [k:Ks o p p' L L' r]:Ks o p p' ((t,q)::L) ((t,q)::L') r:=⟨fun hr=>.ak (fun b hb=>(s.h b hb).elim) (k.h hr)⟩
instance (priority:=1050) ks2 [s:Ob q o] [k:Ks o p p' L L' r]:Ks o p p' ((t,q)::L) ((t,Pd.any)::L') r:=⟨fun hr=>.ad (k.h hr)⟩
theorem kw [i:Ks o p p' L L' r] (hr:r:=by exact rr):Kw (fun b=>o=some b) L p p' L':=i.h hr
end
section
variable {P : Program} {ops : Array Oper} {L L' : Lst} {Q : Exit → Act → World → Prop} {rest : List Oper} {M : Nat → Prop} {n : Nat} {s0 : St} {a : Act} {s : St}
theorem Has.kk (h:Has M n s0 a s L) (hk:Kp (fun _=>False) L L':=by repeat (first | refine .cons rfl (fun _ _ h=>h) ?_ | exact .nil)):Has M n s0 a s L':=h.keep hk
inductive TSq (P:Program) (ops:Array Oper) (n:Nat):List Oper→List Oper→Lst→Lst→Prop
 | nil {l:List Oper} {L:Lst}:TSq P ops n l l L L
 | cons {o:Oper} {l l':List Oper} {L L':Lst} {q:Pd} {d:Nat} (h:T P ops o L q) (hd:o.dst=some d) (hn:Nat.blt d n=true) (h2:TSq P ops n l l' ((d,q)::L) L'):TSq P ops n (o::l) l' L L'
theorem TSq.go {l l':List Oper} (h:TSq P ops n l l' L L'):∀{a s},Has M n s0 a s L→(∀a s,Has M n s0 a s L'→wpList P ops Q l' a s.w)→wpList P ops Q l a s.w:=by
 induction h with
 | nil=>intro a s h k;exact k a s h
 | cons h hd hn _ ih=>intro a s hL k;exact st _ h hd hn hL fun a s _ hL=>ih hL k
class TL (P:Program) (ops:Array Oper) (n m:Nat) (p:Prop) (l:List Oper) (L:Lst) (l':outParam (List Oper)) (L':outParam Lst) (r:outParam Prop):Prop where
 h:p→r→TSq P ops n l l' L L'
section
variable {o : Op} {l l' : List Oper} {q : Pd} {d m : Nat} {r1 r2 r p p1 : Prop} {ty : TypeId} {ps : String} {af : Array Edge} {g : Option (Nat × Bool)}
instance tl0:TL P ops n 0 True l L l L True:=⟨fun _ _=>.nil⟩
instance tl1 [i:TO True P ops ⟨some d,o,ty,ps,af,g⟩ L q r1] [e:Ev (Nat.ble (d+1) n) true] [k:TL P ops n m p l ((d,q)::L) l' L' r2] [z:Cj r1 r2 r]:TL P ops n (m+1) p (⟨some d,o,ty,ps,af,g⟩::l) L l' L' r:=⟨fun hp hr=>.cons (i.h (z.h hr).1 trivial) rfl e.h (k.h hp (z.h hr).2)⟩
instance tl2 [i:TH p1 True P ops ⟨some d,o,ty,ps,af,g⟩ L q] [e:Ev (Nat.ble (d+1) n) true] [k:TL P ops n m p l ((d,q)::L) l' L' r]:TL P ops n (m+1) (p1∧p) (⟨some d,o,ty,ps,af,g⟩::l) L l' L' r:=⟨fun hp hr=>.cons (i.h hp.1 trivial) rfl e.h (k.h hp.2 hr)⟩
end
theorem sl {l l':List Oper} {r p:Prop} (m:Nat) (hp:p) (hL:Has M n s0 a s L) (k:∀a s,Has M n s0 a s L'→wpList P ops Q l' a s.w) [i:TL P ops n m p l L l' L' r] (hr:r:=by exact rr):wpList P ops Q l a s.w:=(i.h hp hr).go hL k
theorem sA {l l':List Oper} {r:Prop} (m:Nat) (hL:Has M n s0 a s L) (k:∀a s, Has M n s0 a s L'→wpList P ops Q l' a s.w) [i:TL P ops n m True l L l' L' r] (hr:r := by exact rr):wpList P ops Q l a s.w := sl m trivial hL k hr
theorem sv {o:Oper} {q:Pd} {d:Nat} (h:T P ops o L q) (hL:Has M n s0 a s L) (k:∀a' s',Has M n s0 a' s' ((d,q)::L)→wpList P ops Q rest a' s'.w) (hd:o.dst=some d:=by rfl) (hn:Nat.blt d n=true:=by rfl):wpList P ops Q (o::rest) a s.w:=st d h hd hn hL fun a s _ h=>k a s h
theorem pp {a b:Prop} (h:a) (k:b):a∧b:=⟨h,k⟩
theorem p1 {a:Prop} (h:a):a∧True := ⟨h, trivial⟩
variable {b : Code} {id : Nat} {l : List Oper}
theorem rs (h:wpList P l.toArray (Exit.then (b.wp P Q) Q) l a s.w):(Code.seq (Code.region id l.toArray false) b).wp P Q a s.w:=wp_seq (rg h)
theorem es (h:b.wp P Q a s.w):wpList P ops (Exit.then (b.wp P Q) Q) [] a s.w:=h
theorem ra {r p:Prop} (m:Nat) (hp:p) (hL:Has M n s0 a s L) (k:∀a s,Has M n s0 a s L'→b.wp P Q a s.w) [i:TL P l.toArray n m p l L [] L' r] (hr:r:=by exact rr):(Code.seq (Code.region id l.toArray false) b).wp P Q a s.w:=rs ((i.h hp hr).go hL fun a s h=>es (k a s h))
theorem rA (m:Nat) (hL:Has M n s0 a s L) (k:∀a s, Has M n s0 a s L'→b.wp P Q a s.w) {r:Prop} [i:TL P l.toArray n m True l L [] L' r] (hr:r := by exact rr):(Code.seq (Code.region id l.toArray false) b).wp P Q a s.w := ra m trivial hL k hr
theorem sB {α:Type} {E:En α} {x0 x1:α} {g:Nat} {y:Operand} {t:TypeId} {o:Oper} (c:Nat) (hL:Has M n s0 a s L) (k:∀s', Has M n s0 a s' ((c, Pd.box E s0.w.heap.size g x1)::L')→wpList P ops Q rest a s'.w) (ho:o.op = .store t (.tmp c) y := by rfl) (hc:lk L c=some (Pd.box E s0.w.heap.size g x0) := by rfl) [hy:Oc True L y (Pd.rep E x1)] [ht:Tq P t E] (hg:o.guard=none := by rfl) (hd:o.dst=none := by rfl) (hk:Kp (fun b => some g=some b) L L' := by exact ka):wpList P ops Q (o::rest) a s.w := zbh c hL hc (hy.h trivial) ht.h ho hg hd hk k
@[reducible] def bnd (e:Edge):Bool:=match e.ground with
 | .textOnly _=>false
 | .gcOnly _=>false
 | _=>true
theorem bnd_eq (e:Edge):Region.binds .any e=bnd e:=by
 unfold Region.binds bnd;cases e.ground <;> rfl
@[reducible] def nthR:Lst→Nat→Option (Nat × Pd)
 | [],_=>none
 | x::_,0=>some x
 | _::r,k+1=>nthR r k
@[reducible] def depA (i:Nat) (A L:Lst):List Edge→Lst
 | []=>L
 | e::r=>match bnd e,nthR A (Nat.sub (Nat.sub i 1) e.on) with
  | true,some x=>x::depA i A L r
  | _,_=>depA i A L r
inductive AA (P:Program) (ops:Array Oper) (L:Lst):Nat→Lst→List Oper→List Pd→Lst→Prop
 | nil {i:Nat} {A:Lst} {l:List Oper}:AA P ops L i A l [] A
 | cons {i:Nat} {A A':Lst} {o:Oper} {l:List Oper} {q:Pd} {qs:List Pd} {d:Nat} (h:T P ops o (depA i A L o.after.toList) q) (hd:o.dst=some d) (h2:AA P ops L (i+1) ((d,q)::A) l qs A'):AA P ops L i A (o::l) (q::qs) A'
theorem nthR_newL {ops:Array Oper} {qs:List Pd} {L:Lst}:∀{i:Nat},(∀j,j<i→∃d q,(ops[j]?).bind (·.dst)=some d∧qs[j]?=some q)→∀j d q,j<i→(ops[j]?).bind (·.dst)=some d→qs[j]?=some q→nthR (zer ops qs i L) (Nat.sub (Nat.sub i 1) j)=some (d,q)
 | 0,_,j,d,q,hj,_,_=>by omega
 | i+1,hall,j,d,q,hj,hd,hq=>by
  obtain ⟨d',q',h1,h2⟩:=hall i (by omega);unfold zer;rw [h1,h2]
  by_cases hji:j=i
  ·subst hji;rw [h1] at hd;rw [h2] at hq;cases hd;cases hq;have e:Nat.sub (Nat.sub (j+1) 1) j=0:=by show j+1-1-j=0;omega
   rw [e]
  ·have e:Nat.sub (Nat.sub (i+1) 1) j=Nat.sub (Nat.sub i 1) j+1:=by show i+1-1-j=i-1-j+1;omega
   rw [e];exact nthR_newL (fun j hj=>hall j (by omega)) j d q (by omega) hd hq
theorem depA_eq {ops:Array Oper} {qs:List Pd} {L:Lst} {i:Nat} (hall:∀j,j<i→∃d q,(ops[j]?).bind (·.dst)=some d∧qs[j]?=some q):∀es:List Edge,(∀e∈es,Region.binds .any e=true→e.on<i)→depA i (zer ops qs i L) L es=depL ops qs es L
 | [],_=>rfl
 | e::r,h=>by
  have ih:=depA_eq (L:=L) hall r fun e he=>h e (by simp [he]);unfold depA depL;cases hb:Region.binds .any e
  ·rw [bnd_eq] at hb;rw [hb];simp only;exact ih
  ·have hlt:=h e (by simp) hb;obtain ⟨d,q,h1,h2⟩:=hall e.on hlt;rw [bnd_eq] at hb;rw [hb,nthR_newL hall e.on d q hlt h1 h2,h1,h2];simp only;rw [ih]
theorem AA.all {l0:List Oper} {n m:Nat} (hok:zcg l0.toArray m n (L.map (·.1)) []=true):∀{l:List Oper} {i:Nat} {A A':Lst} {qs:List Pd},AA P l0.toArray L i A l qs A'→∀(pre:List Oper) (qp:List Pd),l0=pre++l→pre.length=i→qp.length=i→(∀j,j<i→∃d q,(l0[j]?).bind (·.dst)=some d∧qp[j]?=some q)→A=zer l0.toArray (qp++qs) i L →
  zbf P l0.toArray (qp++qs) L l qs∧A'=zer l0.toArray (qp++qs) (i+qs.length) L:=by
 intro l i A A' qs h
 induction h with
 | nil=>intro pre qp h1 h2 h3 h4 h5;exact ⟨zbf.nil,by simpa using h5⟩
 | cons h hd h2 ih=>
  rename_i i A A' o l q qs d
  intro pre qp h1 h2 h3 h4 h5;have e1:l0[i]?=some o:=by rw [h1,List.getElem?_append_right (by omega),show i-pre.length=0 by omega];rfl
  have hall:∀j,j<i→∃d q',((l0.toArray)[j]?).bind (·.dst)=some d∧(qp++q::qs)[j]?=some q':=fun j hj=>by
   obtain ⟨d,q',k1,k2⟩:=h4 j hj;exact ⟨d,q',by simpa using k1,by rw [List.getElem?_append_left (by omega)];exact k2⟩
  have hdep:∀e∈o.after.toList,Region.binds .any e=true→e.on<i:=by
   unfold zcg at hok;rw [Bool.and_eq_true,List.all_eq_true] at hok;have hil:=(List.getElem?_eq_some_iff.1 e1).1;have:=List.all_eq_true.1 hok.2 i (by simpa using hil);rw [show (l0.toArray)[i]?=some o by simpa using e1] at this;simp only [Bool.and_eq_true,List.all_eq_true] at this;intro e he hb;have:=this.1 e he;simp only [hb,Bool.not_true,Bool.false_or] at this;exact Nat.le_of_ble_eq_true this
  have e2:=ih (pre++[o]) (qp++[q]) (by rw [h1,List.append_assoc];rfl) (by simp [h2]) (by simp [h3]) (fun j hj=>by
   by_cases hji:j=i
   ·subst hji;exact ⟨d,q,by rw [e1];exact hd,by rw [List.getElem?_append_right (by omega),show j-qp.length=0 by omega];rfl⟩
   ·obtain ⟨d,q',k1,k2⟩:=h4 j (by omega);exact ⟨d,q',k1,by rw [List.getElem?_append_left (by omega)];exact k2⟩) (by
   rw [List.append_assoc];show (d,q)::A=zer l0.toArray (qp++q::qs) (i+1) L;unfold zer;have k1:((l0.toArray)[i]?).bind (·.dst)=some d:=by rw [show (l0.toArray)[i]?=some o by simpa using e1];exact hd
   have k2:(qp++q::qs)[i]?=some q:=by rw [List.getElem?_append_right (by omega),show i-qp.length=0 by omega];rfl
   rw [k1,k2,h5])
  rw [List.append_assoc] at e2;refine ⟨zbf.cons ?_ e2.1, ?_⟩
  ·rw [← depA_eq hall _ hdep,← h5];exact h
  ·rw [e2.2];show zer l0.toArray (qp++q::qs) (i+1+qs.length) L=zer l0.toArray (qp++q::qs) (i+(q::qs).length) L;rw [List.length_cons];congr 1;omega
class TA (P:Program) (ops:Array Oper) (L:Lst) (i m:Nat) (p:Prop) (A:Lst) (l:List Oper) (qs:outParam (List Pd)) (A':outParam Lst) (r:outParam Prop):Prop where
 h:p→r→AA P ops L i A l qs A'
section
variable {o : Op} {l : List Oper} {q : Pd} {qs : List Pd} {A A' : Lst} {d i m : Nat} {r1 r2 r p p1 : Prop} {ty : TypeId} {ps : String} {af : List Edge} {g : Option (Nat × Bool)}
instance ta0:TA P ops L i 0 True A l [] A True:=⟨fun _ _=>.nil⟩
instance ta1 [j:TO True P ops ⟨some d,o,ty,ps,af.toArray,g⟩ (depA i A L af) q r1] [k:TA P ops L (i+1) m p ((d,q)::A) l qs A' r2] [z:Cj r1 r2 r]:TA P ops L i (m+1) p A (⟨some d,o,ty,ps,af.toArray,g⟩::l) (q::qs) A' r:=⟨fun hp hr=>.cons (j.h (z.h hr).1 trivial) rfl (k.h hp (z.h hr).2)⟩
instance ta2 [j:TH p1 True P ops ⟨some d,o,ty,ps,af.toArray,g⟩ (depA i A L af) q] [k:TA P ops L (i+1) m p ((d,q)::A) l qs A' r]:TA P ops L i (m+1) (p1∧p) A (⟨some d,o,ty,ps,af.toArray,g⟩::l) (q::qs) A' r:=⟨fun hp hr=>.cons (j.h hp.1 trivial) rfl (k.h hp.2 hr)⟩
end
class Dp (m:Nat) (l:List Oper) (l':outParam (List Oper)):Prop where
 h:l.drop m=l'
instance dp0 {l:List Oper}:Dp 0 l l:=⟨rfl⟩
instance dp1 {m:Nat} {o:Oper} {l l':List Oper} [h:Dp m l l']:Dp (m+1) (o::l) l':=⟨by rw [List.drop_succ_cons];exact h.h⟩
theorem dp {m:Nat} {l l':List Oper} [i:Dp m l l'] (h:wpList P ops Q l' a s.w):wpList P ops Q (l.drop m) a s.w:=i.h ▸ h
theorem rdx {l':List Oper} {r p:Prop} {qs:List Pd} (m:Nat) (hp:p) (hL:Has M n s0 a s L) (hB:∀a' s',Has M n s0 a' s' L'→wpList P l.toArray Q l' a' s'.w) [i:TA P l.toArray L 0 m p L l qs L' r] [j:Dp m l l'] (hr:r:=by exact rr)
  (hf:P.follows .mixedOrders=true:=by exact zdj) (hok:zcg l.toArray m n (L.map (·.1)) []=true:=by kernel_rfl) (hq:Nat.beq qs.length m=true:=by rfl) (hm:Nat.ble m l.length=true:=by rfl):(Code.region id l.toArray true).wp P Q a s.w:=by
 have h:=AA.all hok (i.h hp hr) [] [] rfl rfl rfl (fun j hj=>by omega) rfl;refine rda hf m qs hL hok hq hm h.1 fun a s _ hL=>dp (hB a s ?_);have e:=h.2;rw [Nat.zero_add,Nat.eq_of_beq_eq_true hq] at e;rw [e];exact hL
theorem cn {t:Nat} {b:Bool} {x y:Code} {A B:Prop} (hL:Has M n s0 a s L) (h:(b=true→A)∧(b=false→B)) (h1:A→x.wp P Q a s.w) (h2:B→y.wp P Q a s.w) (hl:lk L t=some (Pd.rep En.bool b):=by rfl):(Code.cond (.tmp t) x y).wp P Q a s.w:=cnd hL hl (fun e=>h1 (h.1 e)) (fun e=>h2 (h.2 e))
section
variable {α : Type} {E : En α} {te g : Nat} {og : Option Nat} {xs : List α} {x : α}
end
theorem lpn {c:Code} (I:Nat→Act→St→Prop) (k0:Nat) (h0:I k0 a s)
  (round:∀k a s,I (k+1) a s→∀K:Act→World→Prop,(∀a' s',I k a' s'→K a' s'.w)→c.wp P (Exit.then K Q) a s.w) (hz:∀a s,I 0 a s→False:=by intro a s h;repeat (obtain ⟨_,h⟩:=h)):(Code.loop c).wp P Q a s.w:=
 lpg I k0 h0 fun k a s h K hK=>match k,h with
  | 0,h=>(hz a s h).elim
  | k+1,h=>round k a s h K fun a' s' h'=>hK k a' s' (Nat.lt_succ_self k) h'
end
end
end Go.Proofs.YtaknifhhnhcchaaDoor.V
namespace Go.Proofs.YtaknifhhnhcchaaDoor.V
open Go
set_option linter.unusedVariables false
set_option maxRecDepth 100000
section
variable {u : Bool} [Dr u]
noncomputable abbrev EnF58:En (Int × Str→Prop):=En.fun Tryd.prog (fun q=>[Pd.rep (En.int .i64) q.1]) (fun q=>Rq (Pd.rep En.str q.2))
noncomputable abbrev En.SOn_int_search:En SOn_int_search:=(En.cat (En.int .u8) (En.int .i64))
noncomputable abbrev EnF59:En (Int × (List SOn_int_search)→Prop):=En.fun Tryd.prog (fun q=>[Pd.rep (En.int .i64) q.1]) (fun q=>Rq (Pd.rep (En.slice En.SOn_int_search) q.2))
noncomputable abbrev EnF60:En (Int × Bool→Prop):=En.fun Tryd.prog (fun q=>[Pd.rep (En.int .i64) q.1]) (fun q=>Rq (Pd.rep En.bool q.2))
noncomputable abbrev En.SWay:En SWay:=(En.cat (En.int .u8) (En.int .i64))
noncomputable abbrev EnF88:En (SWay × Bool→Prop):=En.fun Tryd.prog (fun q=>[Pd.rep En.SWay q.1]) (fun q=>Rq (Pd.rep En.bool q.2))
noncomputable abbrev EnF89:En ((List SWay) × Bool→Prop):=En.fun Tryd.prog (fun q=>[Pd.rep (En.slice En.SWay) q.1]) (fun q=>Rq (Pd.rep En.bool q.2))
noncomputable abbrev En.SSpace_int_searchR:En SSpace_int_searchR:=(En.cat (En.int .i64) (En.cat EnF58 (En.cat EnF59 En.raw)))
noncomputable abbrev En.STable:En STable:=(En.cat (En.slice (En.slice En.SWay)) (En.slice En.bool))
noncomputable abbrev En.SVerdict:En SVerdict:=(En.cat (En.int .i64) (En.cat (En.slice (En.int .u8)) (En.cat (En.slice (En.int .u8)) (En.cat (En.int .i64) (En.cat (En.int .i64) (En.cat (En.int .i64) (En.int .i64)))))))
noncomputable abbrev En.SFound_int_search:En SFound_int_search:=(En.cat En.SVerdict (En.int .i64))
noncomputable abbrev En.SSpace_int_search:En SSpace_int_search:=(En.cat (En.int .i64) (En.cat EnF58 (En.cat EnF59 EnF60)))
noncomputable abbrev En.Smade_int_search:En Smade_int_search:=(En.cat (En.int .i64) (En.cat (En.int .i64) (En.int .u8)))
theorem ty62r:Ty Tryd.prog 62 En.SSpace_int_searchR:=⟨⟨_,_,rfl,rfl,rfl,rfl,by decide⟩,_,rfl,rfl⟩
theorem ty60r:Ty Tryd.prog 60 En.raw:=⟨⟨_,_,rfl,rfl,rfl,rfl,by decide⟩,_,rfl,rfl⟩
theorem ty3:Ty Tryd.prog 3 (En.int .i64):=⟨⟨_,_,rfl,rfl,rfl,rfl,by decide⟩,_,rfl,rfl⟩
theorem ty4:Ty Tryd.prog 4 En.bool:=⟨⟨_,_,rfl,rfl,rfl,rfl,by decide⟩,_,rfl,rfl⟩
theorem ty5:Ty Tryd.prog 5 (En.int .u8):=⟨⟨_,_,rfl,rfl,rfl,rfl,by decide⟩,_,rfl,rfl⟩
theorem zcj:Ty Tryd.prog 22 (En.slice (En.slice En.SWay)):=⟨⟨_,_,rfl,rfl,rfl,rfl,by decide⟩,_,rfl,rfl⟩
theorem ty23:Ty Tryd.prog 23 (En.slice En.bool):=⟨⟨_,_,rfl,rfl,rfl,rfl,by decide⟩,_,rfl,rfl⟩
theorem ty25:Ty Tryd.prog 25 En.STable:=⟨⟨_,_,rfl,rfl,rfl,rfl,by decide⟩,_,rfl,rfl⟩
theorem zdu:Ty Tryd.prog 28 (En.slice En.SWay):=⟨⟨_,_,rfl,rfl,rfl,rfl,by decide⟩,_,rfl,rfl⟩
theorem ty29:Ty Tryd.prog 29 (En.slice (En.int .u8)):=⟨⟨_,_,rfl,rfl,rfl,rfl,by decide⟩,_,rfl,rfl⟩
theorem ty32:Ty Tryd.prog 32 En.SVerdict:=⟨⟨_,_,rfl,rfl,rfl,rfl,by decide⟩,_,rfl,rfl⟩
theorem ty34:Ty Tryd.prog 34 (En.slice (En.int .i64)):=⟨⟨_,_,rfl,rfl,rfl,rfl,by decide⟩,_,rfl,rfl⟩
theorem ty37:Ty Tryd.prog 37 En.SWay:=⟨⟨_,_,rfl,rfl,rfl,rfl,by decide⟩,_,rfl,rfl⟩
theorem ty57:Ty Tryd.prog 57 En.SFound_int_search:=⟨⟨_,_,rfl,rfl,rfl,rfl,by decide⟩,_,rfl,rfl⟩
theorem ty58:Ty Tryd.prog 58 EnF58:=⟨⟨_,_,rfl,rfl,rfl,rfl,by decide⟩,_,rfl,rfl⟩
theorem ty59:Ty Tryd.prog 59 EnF59:=⟨⟨_,_,rfl,rfl,rfl,rfl,by decide⟩,_,rfl,rfl⟩
theorem ty60:Ty Tryd.prog 60 EnF60:=⟨⟨_,_,rfl,rfl,rfl,rfl,by decide⟩,_,rfl,rfl⟩
theorem ty62:Ty Tryd.prog 62 En.SSpace_int_search:=⟨⟨_,_,rfl,rfl,rfl,rfl,by decide⟩,_,rfl,rfl⟩
theorem ty91:Ty Tryd.prog 91 En.SOn_int_search:=⟨⟨_,_,rfl,rfl,rfl,rfl,by decide⟩,_,rfl,rfl⟩
theorem ty93:Ty Tryd.prog 93 En.Smade_int_search:=⟨⟨_,_,rfl,rfl,rfl,rfl,by decide⟩,_,rfl,rfl⟩
theorem tyz62r:TyZ Tryd.prog 62 En.SSpace_int_searchR ((0,(fun _=>False),(fun _=>False),Value.nilFunc):SSpace_int_searchR):=⟨_,_,([.int .i64 0]++([.nilFunc]++([.nilFunc]++[.nilFunc]))),rfl,rfl,by rfl,fun _ _=>⟨_,_,rfl,⟨rfl,by decide⟩,⟨_,_,rfl,.inl ⟨rfl,fun _ h=>h⟩,⟨_,_,rfl,.inl ⟨rfl,fun _ h=>h⟩,⟨rfl,rfl⟩⟩⟩⟩⟩
theorem tyz3:TyZ Tryd.prog 3 (En.int .i64) (0:Int):=⟨_,_,[.int .i64 0],rfl,rfl,by rfl,fun _ _=>⟨rfl,by decide⟩⟩
theorem tyz25:TyZ Tryd.prog 25 En.STable (([],[]):STable):=⟨_,_,([.slice none 0 0]++[.slice none 0 0]),rfl,rfl,by rfl,fun _ _=>⟨_,_,rfl,⟨_,rfl,zbu _ _ _⟩,⟨_,rfl,zbu _ _ _⟩⟩⟩
theorem tyz32:TyZ Tryd.prog 32 En.SVerdict ((0,[],[],0,0,0,0):SVerdict):=⟨_,_,([.int .i64 0]++([.slice none 0 0]++([.slice none 0 0]++([.int .i64 0]++([.int .i64 0]++([.int .i64 0]++[.int .i64 0])))))),rfl,rfl,by rfl,fun _ _=>⟨_,_,rfl,⟨rfl,by decide⟩,⟨_,_,rfl,⟨_,rfl,zbu _ _ _⟩,⟨_,_,rfl,⟨_,rfl,zbu _ _ _⟩,⟨_,_,rfl,⟨rfl,by decide⟩,⟨_,_,rfl,⟨rfl,by decide⟩,⟨_,_,rfl,⟨rfl,by decide⟩,⟨rfl,by decide⟩⟩⟩⟩⟩⟩⟩⟩
theorem tyz37:TyZ Tryd.prog 37 En.SWay ((0,0):SWay):=⟨_,_,([.int .u8 0]++[.int .i64 0]),rfl,rfl,by rfl,fun _ _=>⟨_,_,rfl,⟨rfl,by decide⟩,⟨rfl,by decide⟩⟩⟩
theorem tyz57:TyZ Tryd.prog 57 En.SFound_int_search (((0,[],[],0,0,0,0),0):SFound_int_search):=⟨_,_,(([.int .i64 0]++([.slice none 0 0]++([.slice none 0 0]++([.int .i64 0]++([.int .i64 0]++([.int .i64 0]++[.int .i64 0]))))))++[.int .i64 0]),rfl,rfl,by rfl,fun _ _=>⟨_,_,rfl,⟨_,_,rfl,⟨rfl,by decide⟩,⟨_,_,rfl,⟨_,rfl,zbu _ _ _⟩,⟨_,_,rfl,⟨_,rfl,zbu _ _ _⟩,⟨_,_,rfl,⟨rfl,by decide⟩,⟨_,_,rfl,⟨rfl,by decide⟩,⟨_,_,rfl,⟨rfl,by decide⟩,⟨rfl,by decide⟩⟩⟩⟩⟩⟩⟩,⟨rfl,by decide⟩⟩⟩
theorem tyz62:TyZ Tryd.prog 62 En.SSpace_int_search ((0,(fun _=>False),(fun _=>False),(fun _=>False)):SSpace_int_search):=⟨_,_,([.int .i64 0]++([.nilFunc]++([.nilFunc]++[.nilFunc]))),rfl,rfl,by rfl,fun _ _=>⟨_,_,rfl,⟨rfl,by decide⟩,⟨_,_,rfl,.inl ⟨rfl,fun _ h=>h⟩,⟨_,_,rfl,.inl ⟨rfl,fun _ h=>h⟩,.inl ⟨rfl,fun _ h=>h⟩⟩⟩⟩⟩
theorem tyz91:TyZ Tryd.prog 91 En.SOn_int_search ((0,0):SOn_int_search):=⟨_,_,([.int .u8 0]++[.int .i64 0]),rfl,rfl,by rfl,fun _ _=>⟨_,_,rfl,⟨rfl,by decide⟩,⟨rfl,by decide⟩⟩⟩
theorem tyz93:TyZ Tryd.prog 93 En.Smade_int_search ((0,0,0):Smade_int_search):=⟨_,_,([.int .i64 0]++([.int .i64 0]++[.int .u8 0])),rfl,rfl,by rfl,fun _ _=>⟨_,_,rfl,⟨rfl,by decide⟩,⟨_,_,rfl,⟨rfl,by decide⟩,⟨rfl,by decide⟩⟩⟩⟩
theorem tyv4:TyV Tryd.prog 4 En.bool (false:Bool):=⟨_,[.bool false],rfl,by rfl,fun _ _=>(by rfl)⟩
theorem tyn34:TyN Tryd.prog 34:=⟨_,rfl,by rfl⟩
theorem stt62r:Stt Tryd.prog 62 [(0,1),(1,1),(2,1),(3,1)]:=⟨_,Tryd.underlying62,by kernel_rfl⟩
theorem stt25:Stt Tryd.prog 25 [(0,1),(1,1)]:=⟨_,Tryd.underlying25,by kernel_rfl⟩
theorem zek:Stt Tryd.prog 32 [(0,1),(1,1),(2,1),(3,1),(4,1),(5,1),(6,1)]:=⟨_,Tryd.underlying32,by kernel_rfl⟩
theorem stt37:Stt Tryd.prog 37 [(0,1),(1,1)]:=⟨_,Tryd.underlying37,by kernel_rfl⟩
theorem zej:Stt Tryd.prog 57 [(0,7),(7,1)]:=⟨_,Tryd.underlying57,by kernel_rfl⟩
theorem stt62:Stt Tryd.prog 62 [(0,1),(1,1),(2,1),(3,1)]:=⟨_,Tryd.underlying62,by kernel_rfl⟩
theorem stt91:Stt Tryd.prog 91 [(0,1),(1,1)]:=⟨_,Tryd.underlying91,by kernel_rfl⟩
theorem stt93:Stt Tryd.prog 93 [(0,1),(1,1),(2,1)]:=⟨_,Tryd.underlying93,by kernel_rfl⟩
instance ud22:Ud Tryd.prog 22 (.slice 28):=⟨Tryd.underlying22⟩
instance ud28:Ud Tryd.prog 28 (.slice 37):=⟨Tryd.underlying28⟩
instance ud29:Ud Tryd.prog 29 (.slice 5):=⟨Tryd.underlying29⟩
instance tq5:Tq Tryd.prog 5 (En.int .u8):=⟨ty5⟩
instance tq28:Tq Tryd.prog 28 (En.slice En.SWay):=⟨zdu⟩
instance tq37:Tq Tryd.prog 37 En.SWay:=⟨ty37⟩
end
end Go.Proofs.YtaknifhhnhcchaaDoor.V
namespace Go.Proofs.YtaknifhhnhcchaaDoor.V
open Go Go.Shelf
set_option linter.unusedVariables false
set_option maxRecDepth 100000
def sl171_ren:Go.Shelf.Ren:=⟨fun | 171=>42 | 243=>61 | 246=>79 | 283=>87 | 284=>88 | 285=>89 | 286=>90 | 129=>76 | 317=>94 | 318=>95 | 319=>96 | 320=>97 | 337=>98 | 338=>99 | n=>n,fun | 3=>3 | 9=>9 | 2=>2 | 4=>4 | 171=>146 | 0=>0 | 53=>65 | 37=>29 | 5=>5 | 173=>148 | 212=>158 | 51=>135 | 20=>20 | 213=>159 | 46=>107 | 232=>160 | 233=>161 | n=>n,fun | 17=>1 | 18=>2 | 19=>3 | n=>n⟩
theorem sl171:Go.Proofs.LaysM.n171 Tryd.prog sl171_ren where
 mixed:=by kernel_rfl
 f129:=Tryd.func76.trans (congrArg some (by kernel_rfl))
 f171:=Tryd.func42.trans (congrArg some (by kernel_rfl))
 f243:=Tryd.func61.trans (congrArg some (by kernel_rfl))
 f246:=Tryd.func79.trans (congrArg some (by kernel_rfl))
 f283:=Tryd.func87.trans (congrArg some (by kernel_rfl))
 f284:=Tryd.func88.trans (congrArg some (by kernel_rfl))
 f285:=Tryd.func89.trans (congrArg some (by kernel_rfl))
 f286:=Tryd.func90.trans (congrArg some (by kernel_rfl))
 f317:=Tryd.func94.trans (congrArg some (by kernel_rfl))
 f318:=Tryd.func95.trans (congrArg some (by kernel_rfl))
 f319:=Tryd.func96.trans (congrArg some (by kernel_rfl))
 f320:=Tryd.func97.trans (congrArg some (by kernel_rfl))
 f337:=Tryd.func98.trans (congrArg some (by kernel_rfl))
 f338:=Tryd.func99.trans (congrArg some (by kernel_rfl))
 t0:=Tryd.underlying0
 a0:=Tryd.isAgg0
 z0:=Tryd.sizeOf0
 v0:=Tryd.zeroValue0
 t2:=Tryd.underlying2
 a2:=Tryd.isAgg2
 z2:=Tryd.sizeOf2
 v2:=Tryd.zeroValue2
 t3:=Tryd.underlying3
 a3:=Tryd.isAgg3
 z3:=Tryd.sizeOf3
 v3:=Tryd.zeroValue3
 t4:=Tryd.underlying4
 a4:=Tryd.isAgg4
 z4:=Tryd.sizeOf4
 v4:=Tryd.zeroValue4
 t5:=Tryd.underlying5
 a5:=Tryd.isAgg5
 z5:=Tryd.sizeOf5
 v5:=Tryd.zeroValue5
 t9:=Tryd.underlying9
 a9:=Tryd.isAgg9
 z9:=Tryd.sizeOf9
 v9:=Tryd.zeroValue9
 t20:=Tryd.underlying20
 a20:=Tryd.isAgg20
 z20:=Tryd.sizeOf20
 v20:=Tryd.zeroValue20
 t37:=Tryd.underlying29
 a37:=Tryd.isAgg29
 z37:=Tryd.sizeOf29
 v37:=Tryd.zeroValue29
 t46:=Tryd.underlying107
 a46:=Tryd.isAgg107
 z46:=Tryd.sizeOf107
 v46:=Tryd.zeroValue107
 t51:=Tryd.underlying135
 a51:=Tryd.isAgg135
 z51:=Tryd.sizeOf135
 v51:=Tryd.zeroValue135
 t53:=Tryd.underlying65
 a53:=Tryd.isAgg65
 z53:=Tryd.sizeOf65
 v53:=Tryd.zeroValue65
 t171:=Tryd.underlying146
 a171:=Tryd.isAgg146
 z171:=Tryd.sizeOf146
 v171:=Tryd.zeroValue146
 t173:=Tryd.underlying148
 a173:=Tryd.isAgg148
 z173:=Tryd.sizeOf148
 v173:=Tryd.zeroValue148
 t212:=Tryd.underlying158
 a212:=Tryd.isAgg158
 z212:=Tryd.sizeOf158
 v212:=Tryd.zeroValue158
 t213:=Tryd.underlying159
 a213:=Tryd.isAgg159
 z213:=Tryd.sizeOf159
 t232:=Tryd.underlying160
 a232:=Tryd.isAgg160
 z232:=Tryd.sizeOf160
 v232:=Tryd.zeroValue160
 t233:=Tryd.underlying161
 a233:=Tryd.isAgg161
 z233:=Tryd.sizeOf161
 v233:=Tryd.zeroValue161
 g17:=by kernel_rfl
 g18:=by kernel_rfl
 g19:=by kernel_rfl
 i0:=by kernel_rfl
 i2:=by kernel_rfl
 i3:=by kernel_rfl
 i4:=by kernel_rfl
 i5:=by kernel_rfl
 i9:=by kernel_rfl
 i20:=by kernel_rfl
 i37:=by kernel_rfl
 i46:=by kernel_rfl
 i51:=by kernel_rfl
 i53:=by kernel_rfl
 i171:=by kernel_rfl
 i173:=by kernel_rfl
 i212:=by kernel_rfl
 i232:=by kernel_rfl
 i233:=by kernel_rfl
 m17:=by kernel_rfl
 m18:=by kernel_rfl
 m19:=by kernel_rfl
open Go.RowKit
theorem b_itoa (n:Int) (h0:-9223372036854775808≤n) (h1:n≤9223372036854775807) (w:World) (htab:Lib.TabIs Tryd.prog w "internal/strconv.uint64pow10" .u64 Lib.pow10Tab):
  Calls Tryd.prog 42 #[.int .i64 n] w fun e w'=>e = .returned (.string ⟨(Lib.itoa n).toArray⟩)∧∃k os,w'=Sort.grow (w.drewN k) os:=Any.strconv_Itoa sl171 n h0 h1 w htab
theorem zcu {i_:Int} {r_:Str} (h:zz i_ r_):Fn Tryd.prog 42 [(Pd.rep (En.int .i64) i_)] (Rq (Pd.rep En.str r_)):=by
 obtain ⟨hn,rfl⟩:=h;refine ⟨zcc Tryd.func42 rfl (by rfl),fun s vs hgl hv=>?_⟩
 match vs,hv with
 | [v],⟨hv,_⟩=>
  obtain ⟨rfl,hr⟩:=zbg.1 hv;have fin:∀(x:Str) (w':World),x.length≤9223372036854775807→Below s.w.heap.size s.w w'→∃(v:Value) (s':St),Ending.returned (.string ⟨x.toArray⟩) = .returned v∧s'.w=w'∧Ex s s'∧Rq (Pd.rep En.str x) s s' v:=fun x w' hx hb=>
   ⟨_,⟨w',s.X,fun b hb'=>Nat.lt_of_lt_of_le (s.lt b hb') hb.size⟩,rfl,rfl,⟨⟨DR.kit,hb.os,hb.tape,hb.output,hb.size,fun b hb' _=>hb.block b hb',fun _ h=>h.elim,fun b h=>.inl h⟩,fun b h=>h⟩,rep_str.2 ⟨rfl,hx⟩⟩
  have htab:Lib.TabIs Tryd.prog s.w "internal/strconv.uint64pow10" .u64 Lib.pow10Tab:=by
   obtain ⟨_,t,fr,h2⟩:=hgl.1 _ (show (1,_)∈gtab from List.mem_cons_self ..);unfold Lib.TabIs World.var?;have hg:Tryd.prog.globalNamed "internal/strconv.uint64pow10"=some 1:=by kernel_rfl
   rw [hg];simp only [Option.bind_some];rw [h2];simp [Lib.pow10Tab]
  have hb:=inR_i64.1 hn;have hl:=Lib.itoa_length_le i_ hb.1 hb.2;refine (b_itoa i_ hb.1 hb.2 s.w htab).mono fun e w' ⟨he,k,os,hw⟩=>?_;subst he;subst hw;exact fin _ _ (by omega) (Lib.below_grow _ s.w (Nat.le_refl _) k os)
end Go.Proofs.YtaknifhhnhcchaaDoor.V
namespace Go.Proofs.YtaknifhhnhcchaaDoor.V
open Go
set_option linter.unusedVariables false
def zi.j1 (r_:(List Int)) (s2:(List Int)):Prop:=r_=s2
def zi.l1 (X1:(List Int)→Prop):Nat→(List Int)→Int→Int→Prop
 | 0,_,_,_=>False
 | k_0+1,s4,i5,j6=>((decide (i5<j6))=true→∃e12:Int,at? s4 j6=some e12∧∃e14:Int,at? s4 i5=some e14∧∃e16:Int,at? s4 i5=some e16∧∃e18:Int,at? (s4.set (i5:Int).toNat e12) j6=some e18∧(InR .i64 (i5+1))∧(InR .i64 (j6-1))∧zi.l1 X1 k_0 ((s4.set (i5:Int).toNat e12).set (j6:Int).toNat e14) (i5+1) (j6-1))∧((decide (i5<j6))=false→X1 s4)
def zi (s_:(List Int)) (r_:(List Int)):Prop:=(InR .i64 ((s_.length:Int)-1))∧∃k7,zi.l1 (zi.j1 r_) k7 s_ 0 ((s_.length:Int)-1)
def zd.j1 (r_:Int):Prop:=r_=(-1)
def zd.l1 (s_:(List SWay)) (f_:(SWay × Bool→Prop)) (r_:Int) (X1:Prop):Nat→Int→Prop
 | 0,_=>False
 | k_0+1,v3=>((decide (v3<(s_.length:Int)))=true→∃e9:SWay,at? s_ v3=some e9∧∃r11:Bool,f_ (e9,r11)∧((r11)=true→r_=v3)∧((r11)=false→(InR .i64 (v3+1))∧zd.l1 s_ f_ r_ X1 k_0 (v3+1)))∧((decide (v3<(s_.length:Int)))=false→X1)
def zd (s_:(List SWay)) (f_:(SWay × Bool→Prop)) (r_:Int):Prop:=∃k4,zd.l1 s_ f_ r_ (zd.j1 r_) k4 0
def zt (s_:(List SWay)) (f_:(SWay × Bool→Prop)) (r_:Bool):Prop:=∃r1:Int,zd s_ f_ r1∧r_=decide (0≤r1)
def ze.j1 (r_:Int):Prop:=r_=(-1)
def ze.l1 (s_:(List (List SWay))) (f_:((List SWay) × Bool→Prop)) (r_:Int) (X1:Prop):Nat→Int→Prop
 | 0,_=>False
 | k_0+1,v3=>((decide (v3<(s_.length:Int)))=true→∃e9:(List SWay),at? s_ v3=some e9∧∃r11:Bool,f_ (e9,r11)∧((r11)=true→r_=v3)∧((r11)=false→(InR .i64 (v3+1))∧ze.l1 s_ f_ r_ X1 k_0 (v3+1)))∧((decide (v3<(s_.length:Int)))=false→X1)
def ze (s_:(List (List SWay))) (f_:((List SWay) × Bool→Prop)) (r_:Int):Prop:=∃k4,ze.l1 s_ f_ r_ (ze.j1 r_) k4 0
def zu (s_:(List (List SWay))) (f_:((List SWay) × Bool→Prop)) (r_:Bool):Prop:=∃r1:Int,ze s_ f_ r1∧r_=decide (0≤r1)
set_option maxRecDepth 100000
set_option maxHeartbeats 2000000
set_option synthInstance.maxSize 100000
set_option synthInstance.maxHeartbeats 200000
theorem zb3 (v0:Value) {s_:(List Int)} {r_:(List Int)} (h:zi s_ r_):Fm Tryd.prog 62 (fun b=>v0.ownBlock=some b) [(Pd.prow (En.int .u8) 5 v0 s_)] (fun _ s' _=>(Pd.prow (En.int .u8) 5 v0 r_).p s' v0):=by
 unfold zi at h;refine fm_of Tryd.func62 J Tryd.ntmps62 (by rfl) (by simp) fun s0 a L=>?_;obtain ⟨h1,h⟩:=h;refine rA 5 L fun a s L=>?_;refine wp_block ?_;have J3:∀(s2:(List Int)) (a:Act) (s:St),Has (fun b=>v0.ownBlock=some b) 28 s0 a s [(0,(Pd.prow (En.int .u8) 5 v0 s2))]→((zi.j1 r_) s2)→(bodyPost Tryd.prog Tryd.f62 (Pst (fun b=>v0.ownBlock=some b) (fun _ s' _=>(Pd.prow (En.int .u8) 5 v0 r_).p s' v0) s0) .normal) a s.w:=by
  intro s2 a s L h;unfold zi.j1 at h;subst h;exact retm J L (c:=0) J
 obtain ⟨k7,h⟩:=h;refine lpn (fun k8 a s=>∃(s4:(List Int)) (i5:Int) (j6:Int),Has (fun b=>v0.ownBlock=some b) 28 s0 a s [(0,(Pd.prow (En.int .u8) 5 v0 s4)),(2,(Pi i5)),(3,(Pi j6))]∧zi.l1 (zi.j1 r_) k8 s4 i5 j6) k7 ⟨s_,0,((s_.length:Int)-1),L.kk,h⟩ ?_;rintro k8 a s ⟨s4,i5,j6,L,h⟩ KL9 hKL9;unfold zi.l1 at h;refine wp_seq_k fun K10 H10=>rA 3 L fun a s L=>?_;refine cn L h (fun h=>?_) fun h=>?_
 ·refine wp_skip (H10 _ _ ?_);refine wp_seq_k fun K11 H11=>wp_block ?_;obtain ⟨e12,h13,e14,h15,e16,h17,e18,h19,h⟩:=h;refine rdf 16 zdj L (by kernel_rfl) fun s _ L=>?_;refine fl_take 2 16 L (by rfl) (by kernel_rfl) (by kernel_rfl) (by kernel_rfl) (fun _ _ _ _ h=>h) (q:=(Pd.prow (En.int .u8) 5 v0 s4)) (y_move (O 0 J) J J) J J fun a L=>?_;refine fl_take 3 17 L (by rfl) (by kernel_rfl) (by kernel_rfl) (by kernel_rfl) (fun _ _ _ _ h=>h) (q:=(Pi j6)) (y_move (O 3 J) J J) J J fun a L=>?_;refine fl_go 13 [(Pd.prow (En.int .u8) 5 v0 s4),(Pi i5),(Pd.prow (En.int .u8) 5 v0 s4),(Pi j6),(Pd.prow (En.int .u8) 5 v0 s4),(Pi j6),(Pd.optr (En.int .u8) 0 v0.ownBlock ((j6:Int).toNat*(En.int .u8).sz) e12),(Pd.rep (En.int .u8) e12),(Pd.prow (En.int .u8) 5 v0 s4),(Pi i5),(Pd.optr (En.int .u8) 0 v0.ownBlock ((i5:Int).toNat*(En.int .u8).sz) e14),(Pd.rep (En.int .u8) e14),(Pd.optr (En.int .u8) 0 v0.ownBlock ((i5:Int).toNat*(En.int .u8).sz) e16)] [2,3] L (by kernel_rfl) (by kernel_rfl) (by kernel_rfl) (.cons (i:=2) J J J J (.cons (i:=3) J J J J .nil)) J J ?_ ?_
  ·refine zdd.cons (zf (O 0 J) J J) ?_;refine zdd.cons (zf (O 2 J) J J) ?_;refine zdd.skip J ?_;refine zdd.skip J ?_;refine zdd.cons (zf (O 0 J) J J) ?_;refine zdd.cons (zf (O 3 J) J J) ?_;refine zdd.cons (zdz (o_p (O 18 J)) (O 19 J) h13 Tryd.underlying29 ty5 J J) ?_;refine zdd.cons (z7 ty5 (O 20 J) J J) ?_;refine zdd.cons (zf (O 0 J) J J) ?_;refine zdd.cons (zf (O 2 J) J J) ?_;refine zdd.cons (zdz (o_p (O 22 J)) (O 23 J) h15 Tryd.underlying29 ty5 J J) ?_;refine zdd.cons (z7 ty5 (O 24 J) J J) ?_;refine zdd.cons (zdz (o_p (O 14 J)) (O 15 J) h17 Tryd.underlying29 ty5 J J) ?_;exact zdd.nil
  intro a s _ L;replace L:=L.kk (L':=[(0,(Pd.prow (En.int .u8) 5 v0 s4)),(2,(Pi i5)),(3,(Pi j6)),(16,(Pd.prow (En.int .u8) 5 v0 s4)),(17,(Pi j6)),(21,(Pd.rep (En.int .u8) e12)),(25,(Pd.rep (En.int .u8) e14)),(26,(Pd.optr (En.int .u8) 0 v0.ownBlock ((i5:Int).toNat*(En.int .u8).sz) e16))]);refine dp ?_;refine st_storp (off:=0) 0 (fun b h=>h) L J h17 op op (zj _ _ _) Tq.h J J J kw fun s L=>?_;refine sl 1 (p1 h19) L fun a s L=>?_;refine st_storp (off:=0) 0 (fun b h=>h) L J h19 op op (zj _ _ _) Tq.h J J J kw fun s L=>?_;refine en' (H11 _ _ ?_);obtain ⟨h20,h21,h⟩:=h;refine rg (sA 6 L fun a s L=>?_);refine en' ?_;exact hKL9 a s ⟨((s4.set (i5:Int).toNat e12).set (j6:Int).toNat e14),(i5+1),(j6-1),L.kk,h⟩
 ·refine wp_exit ?_;exact J3 s4 a s (L.kk) h
theorem zbl {s_:(List SWay)} {f_:(SWay × Bool→Prop)} {r_:Int} (h:zd s_ f_ r_):Fn Tryd.prog 60 [(Pd.rep (En.slice En.SWay) s_),(Pd.rep EnF88 f_)] (Rq (Pi r_)):=by
 unfold zd at h;refine zb6 Tryd.func60 J Tryd.ntmps60 (by rfl) (by simp) fun s0 a L=>?_;refine rA 1 L fun a s L=>?_;refine wp_seq_k fun K1 H1=>rA 3 L fun a s L=>?_;refine wp_block ?_;have J2:∀(a:Act) (s:St),Has N0 19 s0 a s []→((zd.j1 r_))→K1 a s.w:=by
  intro a s L h;unfold zd.j1 at h;show K1 a s.w;refine H1 _ _ (rA 1 L fun a s L=>?_);subst h;exact wp_ret (zd7 J L J)
 obtain ⟨k4,h⟩:=h;refine lpn (fun k5 a s=>∃(v3:Int),Has N0 19 s0 a s [(0,(Pd.rep (En.slice En.SWay) s_)),(1,(Pd.rep EnF88 f_)),(7,(Pi (s_.length:Int))),(8,(Pi v3))]∧zd.l1 s_ f_ r_ (zd.j1 r_) k5 v3) k4 ⟨0,L.kk,h⟩ ?_;rintro k5 a s ⟨v3,L,h⟩ KL6 hKL6;unfold zd.l1 at h;refine rA 1 L fun a s L=>?_;refine wp_seq_k fun K7 H7=>cn L h (fun h=>?_) fun h=>?_
 ·refine wp_skip (H7 _ _ ?_);refine wp_seq_k fun K8 H8=>wp_block (rA 2 L fun a s L=>?_);obtain ⟨e9,h10,r11,h12,h⟩:=h;refine rs (sl 5 (p1 h10) L fun a s L=>?_);refine sv (zbt (q:=(e9,r11)) op h12 opz (fun _ _ _ h_=>h_) J J) L fun a s L=>?_;refine es (cn L h (fun h=>?_) fun h=>?_)
  ·refine rA 2 L fun a s L=>?_;subst h;exact wp_ret (zd7 J L J)
  ·refine wp_skip (H8 _ _ ?_);obtain ⟨h13,h⟩:=h;refine rg (sA 2 L fun a s L=>?_);refine en' ?_;exact hKL6 a s ⟨(v3+1),L.kk,h⟩
 ·refine wp_exit ?_;exact J2 a s (L.kk) h
theorem zbi {s_:(List SWay)} {f_:(SWay × Bool→Prop)} {r_:Bool} (h:zt s_ f_ r_):Fn Tryd.prog 40 [(Pd.rep (En.slice En.SWay) s_),(Pd.rep EnF88 f_)] (Rq (Pd.rep En.bool r_)):=by
 unfold zt at h;refine zb6 Tryd.func40 J Tryd.ntmps40 (by rfl) (by simp) fun s0 a L=>?_;refine rA 1 L fun a s L=>?_;obtain ⟨r1,h2,h⟩:=h;refine ra 5 (p1 (zbl h2)) L fun a s L=>?_;subst h;exact wp_ret (zd7 J L J)
theorem zbn {s_:(List (List SWay))} {f_:((List SWay) × Bool→Prop)} {r_:Int} (h:ze s_ f_ r_):Fn Tryd.prog 59 [(Pd.rep (En.slice (En.slice En.SWay)) s_),(Pd.rep EnF89 f_)] (Rq (Pi r_)):=by
 unfold ze at h;refine zb6 Tryd.func59 J Tryd.ntmps59 (by rfl) (by simp) fun s0 a L=>?_;refine rA 1 L fun a s L=>?_;refine wp_seq_k fun K1 H1=>rA 3 L fun a s L=>?_;refine wp_block ?_;have J2:∀(a:Act) (s:St),Has N0 19 s0 a s []→((ze.j1 r_))→K1 a s.w:=by
  intro a s L h;unfold ze.j1 at h;show K1 a s.w;refine H1 _ _ (rA 1 L fun a s L=>?_);subst h;exact wp_ret (zd7 J L J)
 obtain ⟨k4,h⟩:=h;refine lpn (fun k5 a s=>∃(v3:Int),Has N0 19 s0 a s [(0,(Pd.rep (En.slice (En.slice En.SWay)) s_)),(1,(Pd.rep EnF89 f_)),(7,(Pi (s_.length:Int))),(8,(Pi v3))]∧ze.l1 s_ f_ r_ (ze.j1 r_) k5 v3) k4 ⟨0,L.kk,h⟩ ?_;rintro k5 a s ⟨v3,L,h⟩ KL6 hKL6;unfold ze.l1 at h;refine rA 1 L fun a s L=>?_;refine wp_seq_k fun K7 H7=>cn L h (fun h=>?_) fun h=>?_
 ·refine wp_skip (H7 _ _ ?_);refine wp_seq_k fun K8 H8=>wp_block (rA 2 L fun a s L=>?_);obtain ⟨e9,h10,r11,h12,h⟩:=h;refine rs (sl 5 (p1 h10) L fun a s L=>?_);refine sv (zbt (q:=(e9,r11)) op h12 opz (fun _ _ _ h_=>h_) J J) L fun a s L=>?_;refine es (cn L h (fun h=>?_) fun h=>?_)
  ·refine rA 2 L fun a s L=>?_;subst h;exact wp_ret (zd7 J L J)
  ·refine wp_skip (H8 _ _ ?_);obtain ⟨h13,h⟩:=h;refine rg (sA 2 L fun a s L=>?_);refine en' ?_;exact hKL6 a s ⟨(v3+1),L.kk,h⟩
 ·refine wp_exit ?_;exact J2 a s (L.kk) h
theorem zbk {s_:(List (List SWay))} {f_:((List SWay) × Bool→Prop)} {r_:Bool} (h:zu s_ f_ r_):Fn Tryd.prog 38 [(Pd.rep (En.slice (En.slice En.SWay)) s_),(Pd.rep EnF89 f_)] (Rq (Pd.rep En.bool r_)):=by
 unfold zu at h;refine zb6 Tryd.func38 J Tryd.ntmps38 (by rfl) (by simp) fun s0 a L=>?_;refine rA 1 L fun a s L=>?_;obtain ⟨r1,h2,h⟩:=h;refine ra 5 (p1 (zbn h2)) L fun a s L=>?_;subst h;exact wp_ret (zd7 J L J)
def zw.j1 (r_:Bool):Prop:=r_=true
def zw.l1 (a_:(List Int)) (b_:(List Int)) (r_:Bool) (X1:Prop):Nat→Int→Prop
 | 0,_=>False
 | k_0+1,i4=>((decide (i4<(a_.length:Int)))=true→∃e10:Int,at? a_ i4=some e10∧∃e12:Int,at? b_ i4=some e12∧(((e10 != e12))=true→r_=false)∧(((e10 != e12))=false→(InR .i64 (i4+1))∧zw.l1 a_ b_ r_ X1 k_0 (i4+1)))∧((decide (i4<(a_.length:Int)))=false→X1)
def zw (a_:(List Int)) (b_:(List Int)) (r_:Bool):Prop:=((((a_.length:Int) != (b_.length:Int)))=true→r_=false)∧((((a_.length:Int) != (b_.length:Int)))=false→∃k5,zw.l1 a_ b_ r_ (zw.j1 r_) k5 0)
set_option maxRecDepth 100000
set_option maxHeartbeats 2000000
set_option synthInstance.maxSize 100000
set_option synthInstance.maxHeartbeats 200000
theorem zd9 {a_:(List Int)} {b_:(List Int)} {r_:Bool} (h:zw a_ b_ r_):Fn Tryd.prog 18 [(Pd.rep (En.slice (En.int .u8)) a_),(Pd.rep (En.slice (En.int .u8)) b_)] (Rq (Pd.rep En.bool r_)):=by
 unfold zw at h;refine zb6 Tryd.func18 J Tryd.ntmps18 (by rfl) (by simp) fun s0 a L=>?_;refine rA 1 L fun a s L=>?_;refine wp_seq_k fun K1 H1=>rA 5 L fun a s L=>?_;refine cn L h (fun h=>?_) fun h=>?_
 ·refine rA 1 L fun a s L=>?_;subst h;exact wp_ret (zd7 J L J)
 ·refine wp_skip (H1 _ _ ?_);refine wp_seq_k fun K2 H2=>rA 1 L fun a s L=>?_;refine wp_block ?_;have J3:∀(a:Act) (s:St),Has N0 26 s0 a s []→((zw.j1 r_))→K2 a s.w:=by
   intro a s L h;unfold zw.j1 at h;show K2 a s.w;refine H2 _ _ (rA 1 L fun a s L=>?_);subst h;exact wp_ret (zd7 J L J)
  obtain ⟨k5,h⟩:=h;refine lpn (fun k6 a s=>∃(i4:Int),Has N0 26 s0 a s [(0,(Pd.rep (En.slice (En.int .u8)) a_)),(1,(Pd.rep (En.slice (En.int .u8)) b_)),(5,(Pi i4))]∧zw.l1 a_ b_ r_ (zw.j1 r_) k6 i4) k5 ⟨0,L.kk,h⟩ ?_;rintro k6 a s ⟨i4,L,h⟩ KL7 hKL7;unfold zw.l1 at h;refine wp_seq_k fun K8 H8=>rA 4 L fun a s L=>?_;refine cn L h (fun h=>?_) fun h=>?_
  ·refine wp_skip (H8 _ _ ?_);refine wp_seq_k fun K9 H9=>wp_block ?_;obtain ⟨e10,h11,e12,h13,h⟩:=h;refine wp_seq (rdx 9 (pp h11 (p1 h13)) L fun a s L=>?_);refine es (cn L h (fun h=>?_) fun h=>?_)
   ·refine rA 1 L fun a s L=>?_;subst h;exact wp_ret (zd7 J L J)
   ·refine wp_skip (H9 _ _ ?_);obtain ⟨h14,h⟩:=h;refine rg (sA 3 L fun a s L=>?_);refine en' ?_;exact hKL7 a s ⟨(i4+1),L.kk,h⟩
  ·refine wp_exit ?_;exact J3 a s (L.kk) h
def zbq (i_:Int) (cap0_:STable) (r_:Bool):Prop:=∃e1:Bool,at? cap0_.2 i_=some e1∧r_=e1
def zl.j1 (r_:(List SOn_int_search)) (out4:(List SOn_int_search)):Prop:=r_=out4
def zl.l1 (e2:(List SWay)) (X1:(List SOn_int_search)→Prop):Nat→(List SOn_int_search)→Int→Prop
 | 0,_,_=>False
 | k_0+1,out7,v9=>((decide (v9<(e2.length:Int)))=true→∃e15:SWay,at? e2 v9=some e15∧(out7.length+[(e15.1,e15.2)].length≤2147483648)∧(InR .i64 (v9+1))∧zl.l1 e2 X1 k_0 (out7++[(e15.1,e15.2)]) (v9+1))∧((decide (v9<(e2.length:Int)))=false→X1 out7)
def zl (i_:Int) (cap0_:STable) (r_:(List SOn_int_search)):Prop:=∃e2:(List SWay),at? cap0_.1 i_=some e2∧∃k10,zl.l1 e2 (zl.j1 r_) k10 ([]:(List SOn_int_search)) 0
def zcw (t_:STable) (hit_:(Int × Bool→Prop)) (r_:SSpace_int_search):Prop:=r_=(0,(fun q_=>zz q_.1 q_.2),(fun q_=>zl q_.1 t_ q_.2),hit_)
def zb9 (t_:STable) (hit_:Value) (r_:SSpace_int_searchR):Prop:=r_=(0,(fun q_=>zz q_.1 q_.2),(fun q_=>zl q_.1 t_ q_.2),hit_)
def zq.j1 (r_:(List Int)) (out2:(List Int)):Prop:=∃r5:(List Int),zi out2 r5∧r_=r5
def zq.l1 (l_:(List Smade_int_search)) (X1:(List Int)→Prop):Nat→Int→(List Int)→Prop
 | 0,_,_=>False
 | k_0+1,i7,out8=>∃e14:Smade_int_search,at? l_ i7=some e14∧((decide (0≤e14.2.1))=true→∃e17:Smade_int_search,at? l_ i7=some e17∧(out8.length+[e17.2.2].length≤2147483648)∧∃e21:Smade_int_search,at? l_ i7=some e21∧zq.l1 l_ X1 k_0 e21.2.1 (out8++[e17.2.2]))∧((decide (0≤e14.2.1))=false→X1 out8)
def zq (l_:(List Smade_int_search)) (i_:Int) (r_:(List Int)):Prop:=∃k10,zq.l1 l_ (zq.j1 r_) k10 i_ ([]:(List Int))
def za.j1 (r_:SFound_int_search) (v10:SFound_int_search) (list11:(List Smade_int_search)):Prop:=r_=((1,[],[],0,0,0,(list11.length:Int)),0)
def za.j2 (L1_:SFound_int_search→(List Smade_int_search)→(List (Str × Bool))→Int→Prop) (v15:SFound_int_search) (i20:Int) (list40:(List Smade_int_search)) (seen42:(List (Str × Bool))):Prop:=(InR .i64 (i20+1))∧L1_ v15 list40 seen42 (i20+1)
def za.l2 (s_:SSpace_int_search) (i20:Int) (r38:(List SOn_int_search)) (X2:(List Smade_int_search)→(List (Str × Bool))→Prop):Nat→(List Smade_int_search)→(List (Str × Bool))→Int→Prop
 | 0,_,_,_=>False
 | k_0+1,list49,seen51,v53=>((decide (v53<(r38.length:Int)))=true→∃e62:SOn_int_search,at? r38 v53=some e62∧∃r68:Str,s_.2.1 (e62.2,r68)∧(((!(zdr seen51 r68 false)))=true→(list49.length+[(e62.2,i20,e62.1)].length≤2147483648)∧(InR .i64 (v53+1))∧za.l2 s_ i20 r38 X2 k_0 (list49++[(e62.2,i20,e62.1)]) (zcx seen51 r68 true) (v53+1))∧(((!(zdr seen51 r68 false)))=false→(InR .i64 (v53+1))∧za.l2 s_ i20 r38 X2 k_0 list49 seen51 (v53+1)))∧((decide (v53<(r38.length:Int)))=false→X2 list49 seen51)
def za.l1 (s_:SSpace_int_search) (budget_:Int) (r_:SFound_int_search) (X1:SFound_int_search→(List Smade_int_search)→Prop):Nat→SFound_int_search→(List Smade_int_search)→(List (Str × Bool))→Int→Prop
 | 0,_,_,_,_=>False
 | k_0+1,v15,list16,seen18,i20=>((decide (i20<(list16.length:Int)))=true→((decide (budget_≤i20))=true→r_=((3,[],[],0,0,0,(max budget_ 0)),0))∧((decide (budget_≤i20))=false→∃e30:Smade_int_search,at? list16 i20=some e30∧∃r33:Bool,s_.2.2.2 (e30.1,r33)∧((r33)=true→∃r35:(List Int),zq list16 i20 r35∧(InR .i64 (i20+1))∧r_=((2,r35,[],0,0,0,i20+1),e30.1))∧((r33)=false→∃r38:(List SOn_int_search),s_.2.2.1 (e30.1,r38)∧∃k54,za.l2 s_ i20 r38 (za.j2 (za.l1 s_ budget_ r_ X1 k_0) v15 i20) k54 list16 seen18 0)))∧((decide (i20<(list16.length:Int)))=false→X1 v15 list16)
def za (s_:SSpace_int_search) (budget_:Int) (r_:SFound_int_search):Prop:=∃r7:Str,s_.2.1 (s_.1,r7)∧∃k21,za.l1 s_ budget_ r_ (za.j1 r_) k21 ((0,[],[],0,0,0,0),0) [(s_.1,(-1),0)] (zcx ([]:(List (Str × Bool))) r7 true) 0
def zb.j1 (r_:(SFound_int_search × (List Int))) (v13:SFound_int_search) (list14:(List Smade_int_search)) (v16:(List Int)):Prop:=r_=(((1,[],[],0,0,0,(list14.length:Int)),0),v16)
def zb.j2 (L1_:SFound_int_search→(List Smade_int_search)→(List (Str × Bool))→Int→(List Int)→Prop) (v25:SFound_int_search) (i30:Int) (v31:(List Int)) (e49:Smade_int_search) (list64:(List Smade_int_search)) (seen66:(List (Str × Bool))):Prop:=(InR .i64 (i30+1))∧L1_ v25 list64 seen66 (i30+1) (v31++[e49.1])
def zb.l2 (s_:SSpace_int_searchR) (i30:Int) (r62:(List SOn_int_search)) (X2:(List Smade_int_search)→(List (Str × Bool))→Prop):Nat→(List Smade_int_search)→(List (Str × Bool))→Int→Prop
 | 0,_,_,_=>False
 | k_0+1,list80,seen82,v84=>((decide (v84<(r62.length:Int)))=true→∃e100:SOn_int_search,at? r62 v84=some e100∧∃r108:Str,s_.2.1 (e100.2,r108)∧(((!(zdr seen82 r108 false)))=true→(list80.length+[(e100.2,i30,e100.1)].length≤2147483648)∧(InR .i64 (v84+1))∧zb.l2 s_ i30 r62 X2 k_0 (list80++[(e100.2,i30,e100.1)]) (zcx seen82 r108 true) (v84+1))∧(((!(zdr seen82 r108 false)))=false→(InR .i64 (v84+1))∧zb.l2 s_ i30 r62 X2 k_0 list80 seen82 (v84+1)))∧((decide (v84<(r62.length:Int)))=false→X2 list80 seen82)
def zb.l1 (s_:SSpace_int_searchR) (budget_:Int) (c_:Nat) (r_:(SFound_int_search × (List Int))) (X1:SFound_int_search→(List Smade_int_search)→(List Int)→Prop):Nat→SFound_int_search→(List Smade_int_search)→(List (Str × Bool))→Int→(List Int)→Prop
 | 0,_,_,_,_,_=>False
 | k_0+1,v25,list26,seen28,i30,v31=>((decide (i30<(list26.length:Int)))=true→((decide (budget_≤i30))=true→r_=(((3,[],[],0,0,0,(max budget_ 0)),0),v31))∧((decide (budget_≤i30))=false→∃e49:Smade_int_search,at? list26 i30=some e49∧(s_.2.2.2=hv 23 c_)∧(v31.length+1≤2147483648)∧((false)=true→∃r59:(List Int),zq list26 i30 r59∧(InR .i64 (i30+1))∧r_=(((2,r59,[],0,0,0,i30+1),e49.1),v31++[e49.1]))∧((false)=false→∃r62:(List SOn_int_search),s_.2.2.1 (e49.1,r62)∧∃k85,zb.l2 s_ i30 r62 (zb.j2 (zb.l1 s_ budget_ c_ r_ X1 k_0) v25 i30 v31 e49) k85 list26 seen28 0)))∧((decide (i30<(list26.length:Int)))=false→X1 v25 list26 v31)
def zb (c_:Nat) (s_:SSpace_int_searchR) (budget_:Int) (r_:(SFound_int_search × (List Int))):Prop:=∃r10:Str,s_.2.1 (s_.1,r10)∧∃k33,zb.l1 s_ budget_ c_ r_ (zb.j1 r_) k33 ((0,[],[],0,0,0,0),0) [(s_.1,(-1),0)] (zcx ([]:(List (Str × Bool))) r10 true) 0 ([]:(List Int))
def zbb (t_:STable) (budget_:Int) (r_:SVerdict):Prop:=∃r2:SSpace_int_search,zcw t_ (fun q_=>zbq q_.1 t_ q_.2) r2∧∃r4:SFound_int_search,za r2 budget_ r4∧r_=r4.1
def zb1 (t_:STable) (r_:(List Int)):Prop:=∀g1:Nat,∃r2:SSpace_int_searchR,zb9 t_ (hv 23 g1) r2∧∃r4:(SFound_int_search × (List Int)),zb g1 r2 (t_.1.length:Int) r4∧r_=r4.2
def zbp (w_:SWay) (cap0_:Int) (r_:Bool):Prop:=r_=((decide (w_.2<0))||(decide (cap0_≤w_.2)))
def zb2 (l_:(List SWay)) (cap0_:Int) (r_:Bool):Prop:=∃r1:Bool,zt l_ (fun q_=>zbp q_.1 cap0_ q_.2) r1∧r_=r1
def zbv (t_:STable) (r_:Bool):Prop:=∃b2:Bool,b2=((decide (0<(t_.1.length:Int)))&&((t_.2.length:Int)==(t_.1.length:Int)))∧∃r4:Bool,(((b2)=true)→zu t_.1 (fun q_=>zb2 q_.1 (t_.1.length:Int) q_.2) r4)∧r_=(b2&&(!r4))
def zcl  (r_:Bool):Prop:=∃r4:SVerdict,zbb ([[(1,2),(2,1)],[(3,3)],[(4,0)],([]:(List SWay))],[false,false,false,true]) 4 r4∧∃r9:(List Int),zb1 ([[(1,2),(2,1)],[(3,3)],[(4,0)],([]:(List SWay))],[false,false,false,true]) r9∧((((r9.length:Int) != 4))=true→r_=false)∧((((r9.length:Int) != 4))=false→∃r12:SVerdict,zbb ([([]:(List SWay))],[false]) 1 r12∧∃r14:SVerdict,((((r12.1==1))=true)→zbb ([([]:(List SWay))],[false]) 0 r14)∧∃r16:SVerdict,(((((r12.1==1)&&(r14.1==3)))=true)→zbb ([([]:(List SWay))],[false]) (-5) r16)∧∃b18:Bool,b18=(((r12.1==1)&&(r14.1==3))&&(r16.2.2.2.2.2.2==0))∧∃r20:Bool,(((((b18&&(r4.1==2))&&(r4.2.2.2.2.2.2==4)))=true)→zw r4.2.1 [2,3] r20)∧∃b22:Bool,b22=(((b18&&(r4.1==2))&&(r4.2.2.2.2.2.2==4))&&r20)∧∃r24:SVerdict,(((b22)=true)→zbb ([[(1,2),(2,1)],[(3,3)],[(4,0)],([]:(List SWay))],[false,false,false,true]) 3 r24)∧∃e26:Int,((((b22&&(r24.1==3)))=true)→at? r9 1=some e26)∧∃e28:Int,(((((b22&&(r24.1==3))&&(e26==2)))=true)→at? r9 2=some e28)∧∃b30:Bool,b30=(((b22&&(r24.1==3))&&(e26==2))&&(e28==1))∧∃r32:Bool,(((b30)=true)→zbv ([[(1,2),(2,1)],[(3,3)],[(4,0)],([]:(List SWay))],[false,false,false,true]) r32)∧∃r34:Bool,((((b30&&r32))=true)→zbv ([],[]) r34)∧∃r36:Bool,(((((b30&&r32)&&(!r34)))=true)→zbv ([[(0,1)]],[false]) r36)∧r_=(((b30&&r32)&&(!r34))&&(!r36)))
def z6.j1 (t_:STable) (r_:Bool) (n2:Int):Prop:=∃b4:Bool,b4=((decide ((t_.1.length:Int)≤60))&&(decide ((t_.2.length:Int)≤60)))∧r_=(b4&&(decide (n2≤400)))
def z6.l1 (t_:STable) (X1:Int→Prop):Nat→Int→Int→Prop
 | 0,_,_=>False
 | k_0+1,n6,i7=>∃b12:Bool,b12=((decide (i7<(t_.1.length:Int)))&&(decide (i7<100)))∧((b12)=true→∃e15:(List SWay),at? t_.1 i7=some e15∧(InR .i64 (n6+(e15.length:Int)))∧(InR .i64 (i7+1))∧z6.l1 t_ X1 k_0 (n6+(e15.length:Int)) (i7+1))∧((b12)=false→X1 n6)
def z6 (t_:STable) (r_:Bool):Prop:=∃k8,z6.l1 t_ (z6.j1 t_ r_) k8 0 0
def zo.j1 (r_:Bool):Prop:=r_=true
def zo.j2 (L1_:Int→Prop) (i6:Int):Prop:=(InR .i64 (i6+1))∧L1_ (i6+1)
def zo.l2 (t_:STable) (i6:Int) (r_:Bool) (X2:Prop):Nat→Int→Prop
 | 0,_=>False
 | k_0+1,k14=>∃e19:(List SWay),at? t_.1 i6=some e19∧((decide (k14<(e19.length:Int)))=true→∃e22:(List SWay),at? t_.1 i6=some e22∧∃e24:SWay,at? e22 k14=some e24∧∃e26:(List SWay),(((decide (e24.2<0))=false)→at? t_.1 i6=some e26)∧∃e28:SWay,(((decide (e24.2<0))=false)→at? e26 k14=some e28)∧∃b30:Bool,b30=((decide (e24.2<0))||(decide ((t_.1.length:Int)≤e28.2)))∧((b30)=true→r_=false)∧((b30)=false→(InR .i64 (k14+1))∧zo.l2 t_ i6 r_ X2 k_0 (k14+1)))∧((decide (k14<(e19.length:Int)))=false→X2)
def zo.l1 (t_:STable) (r_:Bool) (X1:Prop):Nat→Int→Prop
 | 0,_=>False
 | k_0+1,i6=>((decide (i6<(t_.1.length:Int)))=true→∃k15,zo.l2 t_ i6 r_ (zo.j2 (zo.l1 t_ r_ X1 k_0) i6) k15 0)∧((decide (i6<(t_.1.length:Int)))=false→X1)
def zo (t_:STable) (r_:Bool):Prop:=∃b2:Bool,b2=(((t_.1.length:Int)==0)||((t_.1.length:Int) != (t_.2.length:Int)))∧((b2)=true→r_=false)∧((b2)=false→∃k7,zo.l1 t_ r_ (zo.j1 r_) k7 0)
section
variable {u : Bool} [Dr u]
def Pd.e0:Pd:=⟨fun _ v=>∃ad,v = .slice ad 0 0,fun _=>False,fun _ _ h=>h⟩
section
variable {P : Program} {ops : Array Oper} {o : Oper} {L : Lst}
end
end
section
variable {P : Program} {ops : Array Oper} {o : Oper} {L : Lst}
theorem run_app_e0 {α:Type} {E:En α} {t te:TypeId} (ht:P.underlying t=some (.slice te)) (hE:Ty P te E) {ys:List α} {s:St} {ad:Option Addr} {u:Value} (hu:SlV E s.w (zcd s) u ys) (hne:ys≠[]) (hlen:ys.length≤2147483648) (ty:TypeId):
  (Builtin.append_ #[t,t] ty #[.slice ad 0 0,u]).run P s.w=(Builtin.append_ #[t,t] ty #[.slice none 0 0,u]).run P s.w:=by
 obtain ⟨i,z,hi,hsz,hz,hzs,hby⟩:=hE.info;obtain ⟨ad',cap,rfl,h1,h2,h3,h4⟩:=hu;obtain ⟨b,off,css,rfl,hb,hEl,hc⟩:=h4 hne;have hpos:0<ys.length:=List.length_pos_iff.2 hne;have hdl:css.flatten.length=ys.length*E.sz:=by rw [zcn hEl.lens,hEl.1]
 have hnews:∀j u,css.flatten[j]?=some u→s.w.cell? ((⟨b,off,none⟩:Addr).add j)=some u:=fun j u hu=>by rw [zc0];exact hc j u hu
 have hby':ys.length*i.bytes≤140737488355328:=by
  have:=Nat.mul_le_mul hlen hby;omega
 cases ad with
 | none=>rfl
 | some a0=>
  rw [run_append_grow (P:=P) s.w t ty te i z ht hi hz a0 0 0 [] (by simp) (by simp) ⟨b,off,none⟩ ys.length cap css.flatten (by rw [hsz];exact hdl) hnews (by omega) (by omega) (by rw [Nat.zero_add,nextslicecap_zero hpos];omega)];rw [run_append_nil (P:=P) s.w t ty te i z ht hi hz ⟨b,off,none⟩ ys.length cap css.flatten (by rw [hsz];exact hdl) hnews hpos (by omega) (by omega)];simp
end
end Go.Proofs.YtaknifhhnhcchaaDoor.V
namespace Go.Proofs.YtaknifhhnhcchaaDoor.V
open Go
set_option linter.unusedVariables false
section
variable {u : Bool} [Dr u]
def En.nsl (N:Nat) {α:Type} (E:En α):En (List α) where
 sz:=1
 agg:=false
 R:=fun w S cs xs=>(En.slice E).R w S cs xs∧(xs≠[]→∃b off n c arr te,cs=[.slice (some ⟨b,off,none⟩) n c]∧S b∧N≤b∧w.heap[b]?=some (.cells arr te (0,0)))
 sc:=fun _=>rfl
 pos:=Nat.one_pos
 len:=fun h=>(En.slice E).len h.1
 one:=fun h=>(En.slice E).one h.1
 mono:=fun h ⟨h1,h2⟩=>⟨(En.slice E).mono h h1,fun hn=>let ⟨b,off,n,c,arr,te,e,hb,hN,hg⟩:=h2 hn;⟨b,off,n,c,arr,te,e,h b hb,hN,hg⟩⟩
 move:=fun h ⟨h1,h2⟩=>⟨(En.slice E).move h h1,fun hn=>let ⟨b,off,n,c,arr,te,e,hb,hN,hg⟩:=h2 hn;⟨b,off,n,c,arr,te,e,hb,hN,(h b hb).trans hg⟩⟩
section
variable {α β : Type} {E F : En α} {E' F' : En β}
theorem nsl_nil (N:Nat) (E:En α) (w:World) (S:Nat→Prop):(En.nsl N E).R w S [.slice none 0 0] []:=⟨⟨_,rfl,zbu _ _ _⟩,fun h=>absurd rfl h⟩
end
def Pd.geq (N:Nat) (q:Pd):Pd:=⟨fun s v=>q.p s v∧N≤s.w.heap.size,q.own,fun h hb ⟨h1,h2⟩=>⟨q.mv h hb h1,Nat.le_trans h2 h.size⟩⟩
theorem o_geq {L:Lst} {x:Operand} {q:Pd} {N m:Nat} (hk:lk L m=some (Pd.ge N)) (hx:Opn L x q):Opn L x (Pd.geq N q):=fun M n s0 a s hL=>⟨hx M n s0 a s hL,hL.get m hk⟩
theorem Has.geq0 {M:Nat→Prop} {n N:Nat} {s0:St} {a:Act} {q:Pd} {qs:List Pd} (h:Has M n s0 a s0 (num 0 (Pd.geq N q::qs))):N≤s0.w.heap.size∧Has M n s0 a s0 ((999900,Pd.ge N)::num 0 (q::qs)):=by
 have h0:=h.get 0 rfl;refine ⟨h0.2,Has.cons (h.sub fun t r hl=>?_) 999900 h0.2⟩;unfold num at hl;rw [zcz] at hl;split at hl
 ·rename_i e;cases hl;subst e;exact h0.1
 ·rename_i e
  refine h.at_ t r ?_;unfold num;rw [zcz,if_neg e];exact hl
section
variable {P : Program} {f : FuncId} {q : Pd} {qs : List Pd}
theorem Fn.nfrz {α:Type} {E:En α} {te:TypeId} {xs:List α} (h:Fn P f (q::qs) (Ro E te xs)) (N:Nat):Fn P f (Pd.geq N q::qs) (Rq (Pd.rep (En.nsl N E) xs)):=
 ⟨h.call,fun s vs hg hv=>match vs,hv with
  | v0::vs,⟨⟨h0,hN⟩,hv⟩=>(h.run s (v0::vs) hg ⟨h0,hv⟩).mono fun e w' ⟨v,s',he,hw,hx,og,ho⟩=>by
   have hlt:=zc6 ho;refine ⟨v,⟨s'.w,fun b=>s'.X b∧og≠some b,fun b hb=>s'.lt b hb.1⟩,he,hw, ?_,[v],rfl,⟨v,rfl,zdh ho rfl fun b hb=>hb⟩,fun hn=>?_⟩
   ·exact ⟨⟨hx.mv.dr,hx.mv.os,hx.mv.tape,hx.mv.output,hx.mv.size,hx.mv.blk,fun _ h=>h.elim,fun b hb=>hx.mv.xx b hb.1⟩,fun b hb=>⟨hx.keep b hb,fun e=>by have:=(hlt b e).1;have:=s.lt b hb;omega⟩⟩
   ·obtain ⟨h1,h2,h3,css,h4,h5⟩:=ho;rcases h5.2 with ⟨e,hn0⟩ | ⟨g,cap,cur,e,hg,hh,r⟩
    ·exact absurd (List.eq_nil_of_length_eq_zero hn0) hn
    ·subst e;exact ⟨g,0,_,_,_,_,rfl,⟨(Array.getElem?_eq_some_iff.1 hh).1,fun hX=>hX.2 (by rw [← h1];rfl)⟩,Nat.le_trans hN hg,hh⟩⟩
end
def En.valu:En Value where
 sz:=1
 agg:=false
 R:=fun _ _ cs x=>cs=[x]∧x.oneCell'=true
 sc:=fun _=>rfl
 pos:=Nat.one_pos
 len:=by rintro _ _ _ _ ⟨rfl,_⟩;rfl
 one:=by rintro _ _ _ _ ⟨rfl,h⟩ u hu;simp at hu;subst hu;exact h
 mono:=fun _ h=>h
 move:=fun _ h=>h
theorem zdv {x:Value} {s:St} {v:Value}:(Pd.rep En.valu x).p s v↔v=x∧x.oneCell'=true:=
 ⟨fun ⟨_,hv,hc,h1⟩=>by subst hc;exact ⟨hv,h1⟩,fun ⟨hv,h1⟩=>⟨[x],hv,rfl,h1⟩⟩
def Pd.at (u:Value) (q:Pd):Pd:=⟨fun s _=>q.p s u,q.own,fun h hb hp=>q.mv h hb hp⟩
theorem o_at {L:Lst} {x:Operand} {u:Value} {q:Pd} {m:Nat} (hk:lk L m=some (Pd.at u q)) (hx:Opn L x (Pd.rep En.valu u)):Opn L x q:=fun M n s0 a s hL=>by
 have h1:q.p s u:=hL.get m hk;rw [(zdv.1 (hx M n s0 a s hL)).1];exact h1
theorem zem {α:Type} {E:En α} {N:Nat} {te:TypeId} {og:Option Nat} {xs:List α} {s:St} {v:Value} (h:(Pd.row E N te og xs).p s v):v.oneCell'=true:=by
 obtain ⟨h1,h2,h3,css,h4,h5⟩:=h;rcases h5.2 with ⟨e,_⟩ | ⟨g,cap,cur,e,_⟩ <;> (subst e;rfl)
section
variable {M : Nat → Prop} {n : Nat} {s0 : St} {a : Act} {s : St} {L L' : Lst} {α β : Type} {E : En α} {B : En β}
theorem Has.atrow {N:Nat} {te:TypeId} {og:Option Nat} {xs:List α} (h:Has M n s0 a s L) (d m:Nat) (hl:lk L d=some (Pd.row E N te og xs)):∃v,Has M n s0 a s ((d,Pd.rep En.valu v)::(m,Pd.at v (Pd.row E N te og xs))::L):=
 ⟨a.eval (.tmp d),(h.cons m (q:=Pd.at (a.eval (.tmp d)) (Pd.row E N te og xs)) (h.get d hl)).cons d (zdv.2 ⟨rfl,zem (h.get d hl)⟩)⟩
theorem Has.freezetab {g:Nat} {te:TypeId} {og:Option Nat} {xs:List α} {u:Value} {y:β} (h:Has M n s0 a s L) (c m:Nat) (hc:lk L c=some (Pd.box (En.cat En.valu B) s0.w.heap.size g (u,y))) (hm:lk L m=some (Pd.at u (Pd.row E s0.w.heap.size te og xs)))
  (hk:Kp (fun b=>og=some b∨b=g) L L'):∃s',s'.w=s.w∧Has M n s0 a s' ((c,Pd.ptr (En.cat (En.slice E) B) (xs,y))::L'):=by
 obtain ⟨hv,hN,hX,cs,t,hg,x1,x2,hcs,⟨hx1,h1⟩,hR⟩:=h.get c hc;have hr:(Pd.row E s0.w.heap.size te og xs).p s u:=h.get m hm;have hlt:=zc6 hr;refine ⟨⟨s.w,fun b=>s.X b∧¬ (og=some b∨b=g),fun b hb=>s.lt b hb.1⟩,rfl, ?_⟩;have e:Ef (fun b=>og=some b∨b=g) s ⟨s.w,fun b=>s.X b∧¬ (og=some b∨b=g),fun b hb=>s.lt b hb.1⟩:=
  ⟨⟨DR.eq rfl,rfl,rfl,rfl,Nat.le_refl _,fun _ _ _=>rfl,fun b hb=>hb.elim (hr.2.1 b) (fun e=>e ▸ hX),fun b hb=>.inl hb.1⟩,fun b hb hn=>⟨hb,hn⟩⟩
 refine (h.ef e (fun b hb=>hb.elim (fun h=>(hlt b h).1) (fun e=>e ▸ hN)) hk).cons c ⟨g,0,cs,hv,⟨(Array.getElem?_eq_some_iff.1 hg).1,fun hx=>hx.2 (.inr rfl)⟩,zy hg,x1,x2,hcs,⟨u,hx1,zdh hr rfl fun b hb=>⟨hb.1,fun e=>hb.2 (.inl e)⟩⟩, ?_⟩;exact B.mono (fun b hb=>⟨hb.1,fun hx=>hb.2 hx.1⟩) hR
end
def NewV (N:Nat) (w:World) (S:Nat→Prop) (sz:Nat) (u:Value) (len:Nat):Prop:=
 u.oneCell'=true∧∃ad cap,u = .slice ad len cap∧len≤lim∧(0<len→∃b off arr te,ad=some ⟨b,off,none⟩∧S b∧N≤b∧w.heap[b]?=some (.cells arr te (0,0))∧off+len*sz≤arr.size)
theorem nsl_new {α:Type} {E:En α} {N:Nat} {w:World} {S:Nat→Prop} {cs:List Value} {xs:List α} (h:(En.nsl N E).R w S cs xs):∃u,cs=[u]∧NewV N w S E.sz u xs.length:=by
 obtain ⟨⟨v,rfl,ad,cap,rfl,h1,h2,h3,h4⟩,hn⟩:=h;refine ⟨_,rfl,rfl,ad,cap,rfl,h3,fun hp=>?_⟩;have hne:xs≠[]:=fun e=>by rw [e] at hp;simp at hp
 obtain ⟨b,off,n,c,arr,te,e,hb,hN,hg⟩:=hn hne;obtain ⟨b',off',css,had,hb',hE,hc⟩:=h4 hne;simp only [List.cons.injEq,Value.slice.injEq,and_true] at e;rw [had] at e;obtain ⟨e1,_⟩:=e;cases e1;refine ⟨b,off,arr,te,had,hb,hN,hg, ?_⟩;have hl:css.flatten.length=xs.length*E.sz:=by rw [zcn hE.lens,hE.1]
 have hpos:0<xs.length*E.sz:=Nat.mul_pos hp E.pos;obtain ⟨u,hu⟩:∃u,css.flatten[xs.length*E.sz-1]?=some u:=⟨css.flatten[xs.length*E.sz-1]'(by omega),by simp⟩;have:=hc _ u hu;rw [cell_of_row w b _ arr te (0,0) hg] at this;have:=(Array.getElem?_eq_some_iff.1 this).1;omega
def HotV (H:Nat→Prop) (s:St) (sz:Nat) (u:Value) (len:Nat):Prop:=
 ∃ad cap,u = .slice ad len cap∧len≤lim∧(0<len→∃b off arr te,ad=some ⟨b,off,none⟩∧H b∧s.w.heap[b]?=some (.cells arr te (0,0))∧off+len*sz≤arr.size)
def Pd.hots (H:Nat→Prop) (sz:Nat) (us:List (Value × Nat)):Pd:=
 ⟨fun s _=>(∀b,H b→s.X b)∧∀u∈us,HotV H s sz u.1 u.2,H,fun {T s s' v} h hb ⟨h1,h2⟩=>⟨fun b hH=>(hb b hH).2 (h1 b hH),fun u hu=>by
  obtain ⟨ad,cap,e,hl,h3⟩:=h2 u hu
  refine ⟨ad,cap,e,hl,fun hp=>?_⟩
  obtain ⟨b,off,arr,te,e,hH,hg,hs⟩:=h3 hp
  exact ⟨b,off,arr,te,e,hH,(h.blk b (Array.getElem?_eq_some_iff.1 hg).1 (hb b hH).1).trans hg,hs⟩⟩⟩
def Pd.hptr (H:Nat→Prop) (k:Nat):Pd:=
 ⟨fun s v=>∃b o arr te,v = .pointer (some ⟨b,o,none⟩)∧H b∧s.w.heap[b]?=some (.cells arr te (0,0))∧o+k≤arr.size,H,fun {T s s' v} h hb ⟨b,o,arr,te,e,hH,hg,hs⟩=>
  ⟨b,o,arr,te,e,hH,(h.blk b (Array.getElem?_eq_some_iff.1 hg).1 (hb b hH).1).trans hg,hs⟩⟩
section
variable {P : Program} {ops : Array Oper} {o : Oper} {L L' : Lst} {H : Nat → Prop} {sz : Nat} {us : List (Value × Nat)} {uv : Value × Nat} {m : Nat} {y : Operand} {t te : TypeId}
theorem t_lenh (hk:lk L m=some (Pd.hots H sz us)) (hu:uv∈us) (hy:Opn L y (Pd.rep En.valu uv.1)) (ht:P.underlying t=some (.slice te)) (ho:o.op = .call { callee:=.builtin .len,args:=#[y],argTypes:=#[t] }) (hg:o.guard=none):
  T P ops o L (Pd.rep (En.int .i64) (uv.2:Int)):=
 T.pure hg fun M n s0 ac s hL=>by
  obtain ⟨ad,cap,hv,hl,_⟩:=(hL.get m hk).2 uv hu;have hy':=(zdv.1 (hy M n s0 ac s hL)).1;refine ⟨.int .i64 uv.2, ?_,zbg.2 ⟨rfl, ?_⟩⟩
  ·unfold execOp;rw [ho];simp [resolve,invoke,builtin,hy',hv,Builtin.len_,run_underlying ht,goInt]
  ·simp only [lim] at hl;simp [InR,IntKind.min,IntKind.max,IntKind.signed,IntKind.bits];omega
theorem t_idxh {α:Type} {E:En α} {k:IntKind} {i:Int} {z:Operand} (hk:lk L m=some (Pd.hots H sz us)) (hu:uv∈us) (hy:Opn L y (Pd.rep En.valu uv.1)) (hz:Opn L z (Pd.rep (En.int k) i)) (hi:0≤i∧i<(uv.2:Int)) (ht:P.underlying t=some (.slice te)) (hE:Ty P te E) (hsz:E.sz=sz)
  (ho:o.op = .indexAddr t y z) (hg:o.guard=none):T P ops o L (Pd.hptr H sz):=
 T.pure hg fun M n s0 ac s hL=>by
  obtain ⟨ad,cap,hv,hl,h3⟩:=(hL.get m hk).2 uv hu;have hy':=(zdv.1 (hy M n s0 ac s hL)).1;have hz':=(zbg.1 (hz M n s0 ac s hL)).1;obtain ⟨b,off,arr,te',e,hH,hg',hs⟩:=h3 (by omega);refine ⟨.pointer (some ⟨b,off+i.toNat*E.sz,none⟩), ?_,b,_,arr,te',rfl,hH,hg', ?_⟩
  ·unfold execOp;rw [ho];simp only [hy',hv,hz',Instr.indexAt,asIntOf,Sem.run_bind,Sem.run_pure,Result.andThen_ok,run_underlying ht,e];rw [if_pos (by omega)];simp [z1 hE,zc0]
  ·rw [hsz];have:(i.toNat+1)*sz≤uv.2*sz:=Nat.mul_le_mul_right _ (by omega);rw [Nat.succ_mul] at this;omega
section
variable {Q : Exit → Act → World → Prop} {rest : List Oper} {M : Nat → Prop} {n : Nat} {s0 : St} {a : Act} {s : St}
theorem st_sth {α:Type} {E:En α} {x:α} {k:Nat} {z:Operand} (c:Nat) (hL:Has M n s0 a s L) (hc:lk L c=some (Pd.hots H sz us)) (hH:∀b,H b→s0.w.heap.size≤b) (hy:Opn L y (Pd.hptr H k)) (hz:Opn L z (Pd.rep E x)) (ht:Ty P t E) (hle:E.sz≤k)
  (ho:o.op = .store t y z) (hg:o.guard=none) (hd:o.dst=none) (hk:Kw H L (Pd.hots H sz us) (Pd.hots H sz us) L') (kk:∀s',Has M n s0 a s' L'→wpList P ops Q rest a s'.w):wpList P ops Q (o::rest) a s.w:=by
 obtain ⟨b,o',arr,te',hv,hHb,hgb,hs⟩:=hy M n s0 a s hL;obtain ⟨cs,hzv,hR⟩:=hz M n s0 a s hL;have hX:=(hL.get c hc).1;have hlen:=E.len hR;have hl:o'+E.sz≤arr.toList.length:=by simp;omega
 have hr:=zc2 (P:=P) ht hR (g:=b) (off:=o') (cur:=arr.toList) (te:=te') (by simpa using hgb) hl;refine zds (s:=s) (by rw [hv,hzv];exact hr) ho hg hd ?_;have e0:Ef (fun c=>c=b) s (s.set b (spl arr.toList o' cs)):=Ef.set s _ (fun _=>Iff.rfl) (hX b hHb);have e:Ef H s (s.set b (spl arr.toList o' cs)):=
  ⟨⟨e0.mv.dr,e0.mv.os,e0.mv.tape,e0.mv.output,e0.mv.size,fun c hc hn=>e0.mv.blk c hc (fun e=>hn (e ▸ hHb)),hX,e0.mv.xx⟩,fun c hc _=>hc⟩
 refine kk (s.set b (spl arr.toList o' cs)) (hL.turn e (.inl hH) (fun _ h=>h) hk fun w hw=>⟨fun c hc=>hw.1 c hc,fun u hu=>?_⟩);obtain ⟨ad,cap,e1,hl1,h3⟩:=hw.2 u hu;refine ⟨ad,cap,e1,hl1,fun hp=>?_⟩;obtain ⟨b2,off,arr2,te2,e2,hH2,hg2,hs2⟩:=h3 hp
 by_cases hb:b2=b
 ·subst hb;rw [hgb] at hg2;cases hg2;refine ⟨b2,off,(spl arr.toList o' cs).toArray,te',e2,hH2,setRow_heap s.w b2 arr _ te' (0,0) hgb, ?_⟩;have:=zd1 (cells:=arr.toList) (cs:=cs) (off:=o') (by rw [hlen];exact hl);simp only [List.size_toArray,this];simpa using hs2
 ·exact ⟨b2,off,arr2,te2,e2,hH2,(e0.mv.blk b2 (Array.getElem?_eq_some_iff.1 hg2).1 hb).trans hg2,hs2⟩
theorem st_callhot {α β:Type} {E:En α} {F:En β} {x:α} {N:Nat} {f:FuncId} {xs:List Operand} {qs:List Pd} {ats:Array TypeId} (C:List (Value × Nat)→β→Prop) (d m:Nat) (hL:Has M n s0 a s L) (hN:N=s.w.heap.size) (hf:Fn P f qs (Rq (Pd.rep E x))) (hx:Opns L xs qs) (hag:E.agg=F.agg)
  (hc:∀w S cs,E.R w S cs x→∃us y,C us y∧(∀w' S',F.R w' S' cs y)∧∀u∈us,NewV N w S sz u.1 u.2) (ho:o.op = .call { callee:=.value (.func f),args:=xs.toArray,argTypes:=ats }) (hg:o.guard=none) (hd:o.dst=some d) (hn:Nat.blt d n=true)
  (k:∀a' s' H us y,(∀b,H b→s0.w.heap.size≤b)→C us y→Has M n s0 a' s' ((m,Pd.hots H sz us)::(d,Pd.rep F y)::L)→wpList P ops Q rest a' s'.w):wpList P ops Q (o::rest) a s.w:=by
 refine wpList_plain hg fun K hK=>?_;unfold Oper.wp;rw [zee hf a s.w ho,Oper.upon_enter];refine (hf.run s _ hL.gls (hx.vals hL)).mono fun e w' ⟨v,s',he,hw,hX,cs,hv,hR⟩=>?_;subst he;subst hw;refine hK _ _ ?_;rw [hd];obtain ⟨us,y,hC,hF,hnew⟩:=hc _ _ _ hR;have hlt:∀b,(s'.X b∨(N≤b∧zcd s' b))→b<s'.w.heap.size:=fun b hb=>hb.elim (s'.lt b) (fun h=>h.2.1);have ex:Ex s ⟨s'.w,fun b=>s'.X b∨(N≤b∧zcd s' b),hlt⟩:=
  ⟨⟨hX.mv.dr,hX.mv.os,hX.mv.tape,hX.mv.output,hX.mv.size,hX.mv.blk,fun _ h=>h.elim,fun b hb=>hb.elim (hX.mv.xx b) (fun h=>.inr (hN ▸ h.1))⟩,fun b hb=>.inl (hX.keep b hb)⟩
 have hL2:=hL.put ex (v:=v) (q:=Pd.rep F y) hn ⟨cs,by rw [hv];unfold En.val;rw [hag],hF _ _⟩;refine k _ ⟨s'.w,fun b=>s'.X b∨(N≤b∧zcd s' b),hlt⟩ (fun b=>N≤b∧zcd s' b) us y (fun b hb=>Nat.le_trans hL.ent.mv.size (hN ▸ hb.1)) hC (hL2.cons m (q:=Pd.hots (fun b=>N≤b∧zcd s' b) sz us) ⟨fun b hb=>.inr hb,fun u hu=>?_⟩);obtain ⟨_,ad,cap,e,hl,h3⟩:=hnew u hu;refine ⟨ad,cap,e,hl,fun hp=>?_⟩;obtain ⟨b,off,arr,te',e1,hS,hNb,hg1,hs1⟩:=h3 hp;exact ⟨b,off,arr,te',e1,⟨hNb,hS⟩,hg1,hs1⟩
end
end
end
section
variable {P : Program} {ops : Array Oper} {o : Oper} {L : Lst}
theorem t_new0 {α:Type} (E:En α) {te t:TypeId} (ht:P.underlying t=some (.slice te)) (hE:Ty P te E) (ho:o.op = .buildSlice t 0 #[]) (hg:o.guard=none):T P ops o L Pd.e0:=
 T.mk hg fun M n s0 a s hL=>by
  have hr:(execOp a.eval o).run P s.w = .ok (.value (.slice (some ⟨s.w.heap.size,0,none⟩) 0 0)) (s.w.alloc (.cells ((Array.range (0*E.sz)).map ((#[]:Array Value)[· % 0]!)) te)):=by
   unfold execOp;rw [ho];simp only [Instr.buildSlice,Sem.run_bind,run_underlying ht,Result.andThen_ok,z1 hE];rw [if_neg (by omega),if_pos (by omega)];simp [Instr.fill,newRow]
  exact ⟨_,s.push _,hr,Ex.push s _,_,rfl⟩
theorem t_appe {α:Type} {E:En α} {te t:TypeId} {ys:List α} {x y:Operand} (hx:Opn L x Pd.e0) (hy:Opn L y (Pd.rep (En.slice E) ys)) (ht:P.underlying t=some (.slice te)) (hE:Ty P te E) (hlen:ys.length≤2147483648)
  (ho:o.op = .call { callee:=.builtin .append,args:=#[x,y],argTypes:=#[t,t] }) (hg:o.guard=none):T P ops o L (Pd.rep (En.slice E) ys):=
 T.mk hg fun M n s0 a s hL=>by
 obtain ⟨ad,hx0⟩:=hx M n s0 a s hL;have h2:=zbj.1 (hy M n s0 a s hL)
 by_cases hne:ys=[]
 ·subst hne;obtain ⟨i,z,hi,hsz,hz,hzs,hby⟩:=hE.info;have hr:(Builtin.append_ #[t,t] o.type #[.slice ad 0 0,a.eval y]).run P s.w = .ok (.slice ad 0 0) s.w:=by
   obtain ⟨ad',cap,hv,k1,k2,k3,k4⟩:=h2;rw [hv];cases ad' with
   | none=>cases ad <;> simp [Builtin.append_,run_underlying ht,sizeOf,typeInfo,hi,Builtin.lenOf,Builtin.firstCells,storeCells]
   | some b=>
    have hf:=run_firstCells_some (P:=P) s.w i.size 0 b 0 cap [] (by simp) (by simp);cases ad <;> simp [Builtin.append_,run_underlying ht,sizeOf,typeInfo,hi,Builtin.lenOf,hf,storeCells]
  refine ⟨.slice ad 0 0,s, ?_,Ex.refl s,zbj.2 ⟨ad,0,rfl,Nat.le_refl _,fun _=>rfl,Nat.zero_le _,fun h=>absurd rfl h⟩⟩;unfold execOp;simp only [ho,resolve,invoke,builtin,Sem.run_bind,Sem.run_pure,Result.andThen_ok,List.map_toArray,List.map_cons,List.map_nil,hx0,hr]
 ·have hn0:(Pd.row E s0.w.heap.size te none ([]:List α)).p s (.slice none 0 0):=zeo _ _ _ _;obtain ⟨v',s',og',hr,e,hq,hf⟩:=run_app ht hE hn0 h2 hL.ent.mv.size (by simpa using hlen) o.type;rw [← run_app_e0 ht hE (ad:=ad) h2 hne hlen o.type] at hr;have ex:Ex s ⟨s'.w,fun b=>s'.X b∧og'≠some b,fun b hb=>s'.lt b hb.1⟩:=
   ⟨⟨e.mv.dr,e.mv.os,e.mv.tape,e.mv.output,e.mv.size,fun b hb _=>e.mv.blk b hb (by simp),fun _ h=>h.elim,fun b hb=>e.mv.xx b hb.1⟩,fun b hb=>⟨e.keep b hb (by simp),fun h=>(hf b h).elim (fun h=>by cases h) fun h=>by have:=s.lt b hb;omega⟩⟩
  refine ⟨v',⟨s'.w,fun b=>s'.X b∧og'≠some b,fun b hb=>s'.lt b hb.1⟩, ?_,ex, ?_⟩
  ·unfold execOp;simp only [ho,resolve,invoke,builtin,Sem.run_bind,Sem.run_pure,Result.andThen_ok,List.map_toArray,List.map_cons,List.map_nil,hx0,hr]
  ·rw [List.nil_append] at hq;exact zbj.2 (zdh hq rfl fun b hb=>hb)
end
end Go.Proofs.YtaknifhhnhcchaaDoor.V
namespace Go.Proofs.YtaknifhhnhcchaaDoor.V
open Go
set_option linter.unusedVariables false
def Pd.cv (c:Nat) (v0:Value) (t:TypeId):Pd:=
 ⟨fun s _=>s.X c∧s.w.heap[c]?=some (.cells #[v0] t (0,0)),fun b=>b=c,fun {T s s' v} h hb hp=>⟨(hb c rfl).2 hp.1,by rw [h.blk c (Array.getElem?_eq_some_iff.1 hp.2).1 (hb c rfl).1];exact hp.2⟩⟩
theorem t_loadcv {P:Program} {ops:Array Oper} {o:Oper} {L:Lst} {t c:Nat} {tt:TypeId} {v0:Value} (hE:Ty P t En.raw) {x g:Nat} (hx:lk L x=some (Pd.is (.pointer (some ⟨c,0,none⟩)))) (hc:lk L g=some (Pd.cv c v0 tt)) (h1:v0.oneCell'=true) (ho:o.op = .load t (.tmp x)) (hg:o.guard=none):T P ops o L (Pd.is v0):=
 T.pure hg fun M n s0 a s hL=>by
  have hv:a.eval (.tmp x)=_:=hL.get x hx;obtain ⟨_,hcell⟩:=hL.get g hc;refine ⟨v0, ?_,rfl⟩;have hl:(loadVar t ⟨c,0,none⟩).run P s.w = .ok (En.raw.val [v0]) s.w:=zbx (E:=En.raw) hE (w':=s.w) (S:=fun _=>True) ⟨rfl,h1⟩ (zy (cs:=[v0]) hcell);unfold execOp;rw [ho];simp [hv,Instr.loadAt,Instr.sureAddr,hl,En.val,En.raw]
theorem Ef.comp {T T':Nat→Prop} {a b c:St} (h:Ef T a b) (k:Ef T' b c) (hT':∀x,T' x→T x∨a.w.heap.size≤x):Ef T a c:=
 ⟨⟨h.mv.dr.trans k.mv.dr,k.mv.os.trans h.mv.os,k.mv.tape.trans h.mv.tape,k.mv.output.trans h.mv.output,Nat.le_trans h.mv.size k.mv.size,
  fun x hx hn=>(k.mv.blk x (Nat.lt_of_lt_of_le hx h.mv.size) (fun ht=>(hT' x ht).elim hn (fun hs=>by omega))).trans (h.mv.blk x hx hn),h.mv.tx,
  fun x hx=>(k.mv.xx x hx).elim (fun j=>h.mv.xx x j) (fun j=>.inr (Nat.le_trans h.mv.size j))⟩,
  fun x hx hn=>k.keep x (h.keep x hx hn) (fun ht=>(hT' x ht).elim hn (fun hs=>by have:=a.lt x hx;omega))⟩
set_option maxRecDepth 100000 in
theorem hit23:HitOk Tryd.prog 23 3:=by
 refine ⟨zcc Tryd.func23 rfl (by rfl),fun N c og xs x s v hgl hN hlen hx hgh=>?_⟩;obtain ⟨hXc,hne,v0,tt,hcell,hrow⟩:=hgh;refine calls_of_wp Tryd.func23 rfl ?_;have h0:Has N0 8 s { tmps:=#[v,.pointer (some ⟨c,0,none⟩)]++Array.replicate (Tryd.f23.ntmps - #[v,Value.pointer (some ⟨c,0,none⟩)].size) undef,defers:=[] } s
   [(999901,Pd.cv c v0 tt),(999902,Pd.at v0 (Pd.row (En.int .i64) N 3 og xs)),(0,Pd.rep (En.int .i64) x),(1,Pd.is (.pointer (some ⟨c,0,none⟩)))]:=
  ((((⟨by rfl,rfl,Fr.refl (fun _ h=>h.elim),hgl,fun t q e=>by cases e⟩:Has N0 8 s _ s []).cons 1 (by rfl)).cons 0 hx).cons 999902 hrow).cons 999901 ⟨hXc,hcell⟩
 refine wp_seq_k fun K1 hK1=>?_;refine rg ?_;refine st 3 (zh o_b rfl rfl) rfl rfl h0 fun a s1 e1 hL=>?_;refine en' ?_;show K1 a s1.w;refine hK1 _ _ ?_;refine wp_seq_k fun K2 hK2=>?_;refine rg ?_;refine st 4 (t_loadcv ⟨ty34.info,ty34.agg⟩ (x:=1) (g:=999901) rfl rfl (zem hrow) rfl rfl) rfl rfl hL fun a s2 e2 hL=>?_;refine st 5 (zf (o_t 0 rfl) rfl rfl) rfl rfl hL fun a s3 e3 hL=>?_;refine st 6 (zcs (xs:=[.tmp 5]) (.cons (o_t 5 rfl) .nil) Tryd.underlying34 ty3 rfl rfl (by decide) rfl rfl) rfl rfl hL fun a s4 e4 hL=>?_;have hrow4:(Pd.row (En.int .i64) N 3 og xs).p s4 v0:=hL.get 999902 rfl;have h4:a.eval (.tmp 4)=v0:=hL.get 4 rfl;have hy:=zbj.1 (hL.get 6 rfl);obtain ⟨hX4,hc4⟩:s4.X c∧s4.w.heap[c]?=some (.cells #[v0] tt (0,0)):=hL.get 999901 rfl;have e04:Ex s s4:=hL.ent.ex;obtain ⟨v',s5,og',hr,eA,hq,hf⟩:=run_app Tryd.underlying34 ty3 hrow4 hy (Nat.le_trans hN e04.mv.size) (by simpa using hlen) 34;have hlt4:=(Array.getElem?_eq_some_iff.1 hc4).1;have hc5:s5.w.heap[c]?=some (.cells #[v0] tt (0,0)):=by rw [eA.mv.blk c hlt4 (fun e=>hne e)];exact hc4
 have hX5:s5.X c:=eA.keep c hX4 (fun e=>hne e);have hne':og'≠some c:=fun e=>(hf c e).elim hne (fun hs=>by omega);refine wpList_plain rfl fun K hK=>?_;unfold Oper.wp execOp;simp only [resolve,invoke,builtin,Sem.run_bind,Sem.run_pure,Result.andThen_ok,List.map_toArray,List.map_cons,List.map_nil,h4,hr];refine hK _ _ ?_;have hst:=zc2 (E:=En.raw) (⟨ty34.info,ty34.agg⟩:Ty Tryd.prog 34 En.raw) (w:=s5.w) (w':=s5.w) (S:=fun _=>True) (cs:=[v']) ⟨rfl,zem hq⟩ (g:=c) (off:=0) (cur:=[v0]) hc5 (by simp [En.raw]);have hE6:Ef (fun b=>b=c) s5 (s5.set c [v']):=Ef.set s5 [v'] (fun b=>Iff.rfl) hX5;refine zds (s:=s5) (w':=(s5.set c [v']).w) ?_ rfl rfl rfl ?_
 ·have e1:(a.put (some 7) v').eval (.tmp 1) = .pointer (some ⟨c,0,none⟩):=by rw [zda (by decide)];exact hL.get 1 rfl
  have e7:(a.put (some 7) v').eval (.tmp 7)=v':=zco hL.size (by rfl);rw [e1,e7];exact hst
 refine en' ?_;show K2 _ (s5.set c [v']).w;refine hK2 _ _ ?_;have h6:Has N0 8 (s5.set c [v']) (a.put (some 7) v') (s5.set c [v']) []:=
  ⟨by simp [Act.put,hL.size],hL.defers,Fr.refl (fun _ h=>h.elim),((hgl.mv e04.mv).mv eA.mv).mv hE6.mv,fun t q e=>by cases e⟩
 refine wp_seq_k fun K3 hK3=>?_;refine rg ?_;refine st 3 (zh o_b rfl rfl) rfl rfl h6 fun a s7 e7 hL7=>?_;refine en' ?_;show K3 a s7.w;refine hK3 _ _ ?_;refine wp_ret ⟨hL7.defers,_,results_tmp rfl a.tmps _ s7.w,s7,og', ?_,rfl, ?_, ?_, ?_, ?_⟩
 ·exact congrArg Ending.returned (zbc.1 (hL7.get 3 rfl))
 ·have hTx:∀b,(some c=some b∨og=some b)→s.X b:=fun b hb=>hb.elim (fun e=>by cases e;exact hXc) (fun e=>hrow.2.1 b e);exact (((e04.ef _ hTx).comp eA (fun b hb=>.inl (.inr hb))).comp hE6 (fun b hb=>.inl (.inl (by rw [hb])))).comp (e7.ef (fun _=>False) (fun _ h=>h.elim)) (fun _ h=>h.elim)
 ·exact e7.keep c hX5
 ·exact fun b hb=>(hf b hb).imp id (fun h=>Nat.le_trans e04.mv.size h)
 ·have hg6:Gh (En.int .i64) N 3 c og' (xs++[x]) (s5.set c [v']):=
   ⟨hX5,hne',v',tt,setRow_heap s5.w c #[v0] _ tt (0,0) hc5,(Pd.row (En.int .i64) N 3 og' (xs++[x])).mv hE6.mv (fun b hb=>⟨fun e=>hne' (by rw [hb,e]),fun h=>h⟩) hq⟩
  exact hg6.mv e7.mv (fun b hb=>⟨fun h=>h,e7.keep b⟩)
end Go.Proofs.YtaknifhhnhcchaaDoor.V
