/-
  The texts that the law's proof needs, part 1.
-/
import Derived.Deep.LoopGhost
import Derived.KernelRfl
import Derived.Laws.AppendOwnNone
import Derived.Laws.BytesArg
import Derived.Laws.StructEq
import Derived.Laws.Tables
import Derived.Lib.Hide
import Derived.Maps.Keyed
import Derived.Maps.RangeRun
import Derived.OpenShut
import Derived.Orders
import Derived.ProofKit
import Derived.Test.YtjdaaiodniicoaaGreatDoorChecked
import Derived.WalkKit

namespace Go.Proofs.YtjdaaiodniicoaaGreatDoor.V
theorem J {α:Sort _}{a:α}:a=a:=rfl
open Go
def gdat2:List Bool:=[false,false,true,false,false,false,false,false,true,true]
def gtab:List (Nat × List Value):=[(1,(List.range 20).map fun i=>Value.int .u64 ((10 ^ i:Nat):Int)),(2,gdat2.map Value.bool)]
def fidV:Option Nat→Value
 | some f=>.func (.func f) #[] #[]
 | none=>.nilFunc
def Fmst (es:Array MapEntry) (clock:Nat) (ys:List (Int × Option Nat)):Prop:=
 Go.MapKept.Stamped es clock∧es.toList.length=ys.length∧∀(i:Nat) (e:MapEntry) (p:Int × Option Nat),es.toList[i]?=some e→ys[i]?=some p→e.key = .int .i64 p.1∧(-9223372036854775808≤p.1∧p.1≤9223372036854775807)∧e.val=fidV p.2
def gfm0:List (Int × Option Nat):=[(1,some 238),(3,some 239),(4,some 236)]
abbrev gfmS:List (Int × Option Nat):=gfm0
def gmap:List (Nat × List (Int × Option Nat)):=[(0,gfm0)]
set_option linter.unusedVariables false
structure St where
 w:World
 X:Nat→Prop
 lt:∀b,X b→b<w.heap.size
class Dr (u:outParam Bool) where
 R:World→World→Prop
 eq:∀{w w':World},w'.drawn=w.drawn→R w w'
 succ:∀{w w':World},w'.drawn=w.drawn+1→R w w'
 trans:∀{a b c:World},R a b→R b c→R a c
instance (priority:=low) dNone:Dr false:=⟨fun _ _=>True,fun _=>trivial,fun _=>trivial,fun _ _=>trivial⟩
@[reducible] def dLe:Dr true:=⟨fun w w'=>w.drawn≤w'.drawn,fun h=>Nat.le_of_eq h.symm,fun h=>by omega,fun h k=>Nat.le_trans h k⟩
theorem DR.kit {w w':World}:dNone.R w w':=trivial
section
variable {u : Bool} [Dr u]
def DR (w w':World):Prop:=Dr.R w w'
theorem DR.eq {w w':World} (h:w'.drawn=w.drawn):DR w w':=Dr.eq h
theorem DR.succ {w w':World} (h:w'.drawn=w.drawn+1):DR w w':=Dr.succ h
theorem DR.trans {a b c:World} (h:DR a b) (k:DR b c):DR a c:=Dr.trans h k
structure Mv (T:Nat→Prop) (s s':St):Prop where
 dr:DR s.w s'.w
 os:s'.w.os=s.w.os
 tape:s'.w.tape=s.w.tape
 output:s'.w.output=s.w.output
 size:s.w.heap.size≤s'.w.heap.size
 blk:∀b,b<s.w.heap.size→¬ T b→s'.w.heap[b]?=s.w.heap[b]?
 tx:∀b,T b→s.X b
 xx:∀b,s'.X b→s.X b∨s.w.heap.size≤b
structure Ex (s s':St):Prop where
 mv:Mv (fun _=>False) s s'
 keep:∀b,s.X b→s'.X b
theorem Mv.refl (T:Nat→Prop) (s:St) (h:∀b,T b→s.X b):Mv T s s:=⟨DR.eq rfl,rfl,rfl,rfl,Nat.le_refl _,fun _ _ _=>rfl,h,fun _ h=>.inl h⟩
theorem Ex.refl (s:St):Ex s s:=⟨Mv.refl _ s (fun _ h=>h.elim),fun _ h=>h⟩
theorem Ex.trans {a b c:St} (h:Ex a b) (k:Ex b c):Ex a c:=
 ⟨⟨h.mv.dr.trans k.mv.dr,k.mv.os.trans h.mv.os,k.mv.tape.trans h.mv.tape,k.mv.output.trans h.mv.output,Nat.le_trans h.mv.size k.mv.size,
  fun i hi hn=>(k.mv.blk i (Nat.lt_of_lt_of_le hi h.mv.size) hn).trans (h.mv.blk i hi hn),fun _ h=>h.elim,
  fun i hi=>(k.mv.xx i hi).elim (fun j=>h.mv.xx i j) (fun j=>.inr (Nat.le_trans h.mv.size j))⟩,fun i hi=>k.keep i (h.keep i hi)⟩
def Gl (s:St):Prop:=(∀p∈gtab,¬ s.X p.1∧∃t fr,s.w.heap[p.1]?=some (.cells p.2.toArray t fr)) ∧
 ∀p∈gmap,¬ s.X p.1∧∃m t fr es clock ys,s.w.heap[p.1]?=some (.cells #[.map (some m)] t fr)∧¬ s.X m∧s.w.heap[m]?=some (.map es clock)∧Fmst es clock ys∧ys.Perm p.2
theorem Gl.mv {T:Nat→Prop} {s s':St} (h:Gl s) (m:Mv T s s'):Gl s':=by
 have key:∀b o,¬ s.X b→s.w.heap[b]?=some o→¬ s'.X b∧s'.w.heap[b]?=some o:=fun b o h1 h2=>by
  have hlt:b<s.w.heap.size:=(Array.getElem?_eq_some_iff.1 h2).1;refine ⟨fun hx=>(m.xx _ hx).elim h1 (fun hk=>by omega), ?_⟩;rw [m.blk _ hlt (fun ht=>h1 (m.tx _ ht))];exact h2
 refine ⟨fun p hp=>?_,fun p hp=>?_⟩
 ·obtain ⟨h1,t,fr,h2⟩:=h.1 p hp;obtain ⟨k1,k2⟩:=key _ _ h1 h2;exact ⟨k1,t,fr,k2⟩
 ·obtain ⟨h1,b,t,fr,es,clock,ys,h2,h3,h4,h5,h6⟩:=h.2 p hp;obtain ⟨k1,k2⟩:=key _ _ h1 h2;obtain ⟨k3,k4⟩:=key _ _ h3 h4;exact ⟨k1,b,t,fr,es,clock,ys,k2,k3,k4,h5,h6⟩
abbrev N0:Nat→Prop:=fun _=>False
structure Fr (M:Nat→Prop) (s s':St):Prop where
 mv:Mv M s s'
 keep:∀b,s.X b→s'.X b
theorem Fr.ex {s s':St} (h:Fr N0 s s'):Ex s s':=⟨h.mv,h.keep⟩
theorem Fr.refl {M:Nat→Prop} {s:St} (h:∀b,M b→s.X b):Fr M s s:=⟨Mv.refl M s h,fun _ h=>h⟩
theorem Fr.trans {M:Nat→Prop} {a b c:St} (h:Fr M a b) (k:Ex b c):Fr M a c:=
 ⟨⟨h.mv.dr.trans k.mv.dr,k.mv.os.trans h.mv.os,k.mv.tape.trans h.mv.tape,k.mv.output.trans h.mv.output,Nat.le_trans h.mv.size k.mv.size,
  fun i hi hn=>(k.mv.blk i (Nat.lt_of_lt_of_le hi h.mv.size) (fun h=>h)).trans (h.mv.blk i hi hn),h.mv.tx,
  fun i hi=>(k.mv.xx i hi).elim (fun j=>h.mv.xx i j) (fun j=>.inr (Nat.le_trans h.mv.size j))⟩,fun i hi=>k.keep i (h.keep i hi)⟩
structure Pd where
 p:St→Value→Prop
 own:Nat→Prop
 mv:∀{T s s' v},Mv T s s'→(∀b,own b→¬ T b∧(s.X b→s'.X b))→p s v→p s' v
theorem Pd.ex {q:Pd} {s s':St} {v:Value} (h:Ex s s') (hq:q.p s v):q.p s' v:=q.mv h.mv (fun b _=>⟨id,h.keep b⟩) hq
def Pd.Stable (q:Pd):Prop:=∀b,¬ q.own b
theorem Pd.Stable.mv {q:Pd} (hq:q.Stable) {T:Nat→Prop} {s s':St} {v:Value} (h:Mv T s s') (hp:q.p s v):q.p s' v:=
 q.mv h (fun b hb=>(hq b hb).elim) hp
def Pd.any:Pd:=⟨fun _ _=>True,fun _=>False,fun _ _ h=>h⟩
def Pd.is (x:Value):Pd:=⟨fun _ v=>v=x,fun _=>False,fun _ _ h=>h⟩
def Pd.when (c:Prop) (q:Pd):Pd:=⟨fun s v=>(c→q.p s v)∧(¬ c→v=undef),q.own,fun h hb hp=>⟨fun hc=>q.mv h hb (hp.1 hc),hp.2⟩⟩
abbrev Lst:=List (Nat × Pd)
def lk:Lst→Nat→Option Pd
 | [],_=>none
 | (d,q)::r,t=>bif Nat.beq d t then some q else lk r t
structure Has (M:Nat→Prop) (n:Nat) (s0:St) (a:Act) (s:St) (L:Lst):Prop where
 size:a.tmps.size=n
 defers:a.defers=[]
 ent:Fr M s0 s
 gl:Gl s0
 at_:∀t q,lk L t=some q→q.p s (a.eval (.tmp t))
theorem Has.gls {M:Nat→Prop} {n:Nat} {s0:St} {a:Act} {s:St} {L:Lst} (h:Has M n s0 a s L):Gl s:=h.gl.mv h.ent.mv
theorem Has.get {M:Nat→Prop} {n:Nat} {s0:St} {a:Act} {s:St} {L:Lst} (h:Has M n s0 a s L) (t:Nat) {q:Pd} (e:lk L t=some q):q.p s (a.eval (.tmp t)):=h.at_ t q e
theorem zd7 {a:Act} {d n:Nat} {v:Value} (hn:a.tmps.size=n) (hd:Nat.blt d n=true):(a.put (some d) v).eval (.tmp d)=v:=by
 have:d<a.tmps.size:=by rw [hn];exact Nat.le_of_ble_eq_true hd
 simp [Act.eval,Act.put,Array.getD,this]
theorem zfq {a:Act} {d t:Nat} {v:Value} (h:d≠t):(a.put (some d) v).eval (.tmp t)=a.eval (.tmp t):=by
 simp [Act.eval,Act.put,Array.getElem?_setIfInBounds_ne h]
theorem zhd {d t:Nat} (h:d≠t):Nat.beq d t=false:=by
 rw [← Bool.not_eq_true];exact fun e=>h (Nat.eq_of_beq_eq_true e)
theorem Has.put {M:Nat→Prop} {n:Nat} {s0:St} {a:Act} {s s':St} {L:Lst} (h:Has M n s0 a s L) (e:Ex s s') {d:Nat} (hd:Nat.blt d n=true) {v:Value} {q:Pd} (hq:q.p s' v):
  Has M n s0 (a.put (some d) v) s' ((d,q)::L) where
 size:=by simp [Act.put,h.size]
 defers:=h.defers
 ent:=h.ent.trans e
 gl:=h.gl
 at_:=by
  intro t q' hl;unfold lk at hl
  by_cases ht:d=t
  ·subst ht;simp at hl;subst hl;rw [zd7 h.size hd];exact hq
  ·have:Nat.beq d t=false:=zhd ht;rw [this] at hl;rw [zfq ht];exact Pd.ex e (h.at_ t q' hl)
theorem Has.ex {M:Nat→Prop} {n:Nat} {s0:St} {a:Act} {s s':St} {L:Lst} (h:Has M n s0 a s L) (e:Ex s s'):Has M n s0 a s' L where
 size:=h.size
 defers:=h.defers
 ent:=h.ent.trans e
 gl:=h.gl
 at_:=fun t q hl=>Pd.ex e (h.at_ t q hl)
theorem Has.sub {M:Nat→Prop} {n:Nat} {s0:St} {a:Act} {s:St} {L L':Lst} (h:Has M n s0 a s L) (hs:∀t q,lk L' t=some q→q.p s (a.eval (.tmp t))):Has M n s0 a s L':=
 ⟨h.size,h.defers,h.ent,h.gl,hs⟩
theorem Has.cons {M:Nat→Prop} {n:Nat} {s0:St} {a:Act} {s:St} {L:Lst} (h:Has M n s0 a s L) (d:Nat) {q:Pd} (hq:q.p s (a.eval (.tmp d))):Has M n s0 a s ((d,q)::L):=by
 refine ⟨h.size,h.defers,h.ent,h.gl,fun t q' hl=>?_⟩;unfold lk at hl
 by_cases ht:d=t
 ·subst ht;simp at hl;subst hl;exact hq
 ·have:Nat.beq d t=false:=zhd ht;rw [this] at hl;exact h.at_ t q' hl
def OpR (P:Program) (ops:Array Oper) (o:Oper) (a:Act) (s:St) (K:Value→St→Prop):Prop:=
 ∀(Q:Exit→Act→World→Prop) (k:Act→World→Prop),(∀v s',K v s'→k (a.put o.dst v) s'.w) →
  (if Region.wanted o (yielded ops a.tmps) then o.wp P a s.w k Q else k (a.put o.dst undef) s.w)
def T (P:Program) (ops:Array Oper) (o:Oper) (L:Lst) (q:Pd):Prop:=
 ∀M n s0 a s,Has M n s0 a s L→OpR P ops o a s (fun v s'=>Ex s s'∧q.p s' v)
theorem OpR.of_run {P:Program} {ops:Array Oper} {o:Oper} {a:Act} {s:St} {K:Value→St→Prop} (hg:o.guard=none) {v:Value} {s':St}
  (h:(execOp a.eval o).run P s.w = .ok (.value v) s'.w) (hK:K v s'):OpR P ops o a s K:=by
 intro Q k hk;simp only [Region.wanted,hg,if_true];unfold Oper.wp;rw [h];exact hk v s' hK
theorem st {P:Program} {ops:Array Oper} {Q:Exit→Act→World→Prop} {rest:List Oper} {o:Oper} {M:Nat→Prop} {n:Nat} {s0:St} {a:Act} {s:St} {L:Lst} {q:Pd} (d:Nat)
  (h:T P ops o L q) (hd:o.dst=some d) (hn:Nat.blt d n=true) (hL:Has M n s0 a s L)
  (k:∀a' s',Ex s s'→Has M n s0 a' s' ((d,q)::L)→wpList P ops Q rest a' s'.w):wpList P ops Q (o::rest) a s.w:=by
 refine wpList_step fun K hK=>?_;refine h M n s0 a s hL Q K fun v s' ⟨e,hq⟩=>hK _ _ ?_;rw [hd];exact k _ s' e (hL.put e hn hq)
theorem nE {p:Nat→Prop} (b:Nat) (h:False):p b:=h.elim
theorem en' {P:Program} {ops:Array Oper} {Q:Exit→Act→World→Prop} {a:Act} {w:World} (h:Q .normal a w):wpList P ops Q [] a w:=h
theorem rg {P:Program} {id:Nat} {l:List Oper} {Q:Exit→Act→World→Prop} {a:Act} {w:World} (h:wpList P l.toArray Q l a w):(Code.region id l.toArray false).wp P Q a w:=wp_region_lit h
def zh3 (ops:Array Oper) (qs:List Pd):List Edge→Lst→Lst
 | [],L=>L
 | e::r,L=>match Region.binds .any e,(ops[e.on]?).bind (·.dst),qs[e.on]? with
  | true,some d,some q=>(d,q)::zh3 ops qs r L
  | _,_,_=>zh3 ops qs r L
def zfn (ops:Array Oper):Nat→Nat→Nat→Bool
 | 0,_,_=>false
 | f+1,i,k=>match ops[i]? with
  | none=>false
  | some o=>(o.after.toList.any fun e=>Region.binds .any e&&Nat.beq e.on k)||(o.after.toList.any fun e=>Region.binds .any e&&zfn ops f e.on k)
theorem zef {ops:Array Oper} {p:Nat→Prop} (hp:∀i o,p i→ops[i]?=some o→∀e∈o.after.toList,Region.binds .any e=true→p e.on):
  ∀(f i k:Nat),zfn ops f i k=true→(∀o,ops[i]?=some o→∀e∈o.after.toList,Region.binds .any e=true→p e.on)→p k:=by
 intro f
 induction f with
 | zero=>intro i k h;cases h
 | succ f ih=>
  intro i k h hi;unfold zfn at h;cases ho:ops[i]? with
  | none=>rw [ho] at h;cases h
  | some o=>
   simp only [ho,Bool.or_eq_true,List.any_eq_true,Bool.and_eq_true] at h;rcases h with ⟨e,he,hb,hk⟩ | ⟨e,he,hb,hk⟩
   ·rw [← Nat.eq_of_beq_eq_true hk];exact hi o ho e he hb
   ·have:=hi o ho e he hb;exact ih e.on k hk fun o' ho'=>hp e.on o' this ho'
def zd0 (ops:Array Oper) (m n:Nat) (ks:List Nat) (F:List Nat):Bool:=
 (F.all fun k=>Nat.blt k m) &&
 (List.range ops.size).all fun i=>match ops[i]? with
  | none=>false
  | some o=>(o.after.toList.all fun e=>!Region.binds .any e||Nat.blt e.on i) &&
   (if i<m then F.contains i||(match o.dst with
    | none=>false
    | some d=>Nat.blt d n&&ks.all (fun t=>!Nat.beq t d)&&(List.range m).all fun j=>Nat.beq j i||!((ops[j]?).bind (·.dst)==some d))
   else (List.range i).all fun k=>F.contains k||zfn ops ops.size i k)
theorem zdf {ops:Array Oper} {listed:Array Bool} {i:Nat}:i∈Region.ready .any ops listed ↔
  i<ops.size∧listed.getD i true=false∧∃o,ops[i]?=some o∧∀e∈o.after.toList,Region.binds .any e=true→listed.getD e.on false=true:=by
 unfold Region.ready;simp only [List.mem_filter,List.mem_range,Bool.and_eq_true,Bool.not_eq_true'];constructor
 ·rintro ⟨h1,h2,h3⟩;refine ⟨h1,h2, ?_⟩;cases ho:ops[i]? with
  | none=>simp [ho] at h3
  | some o=>
   refine ⟨o,rfl,fun e he hb=>?_⟩;simp only [ho,Option.map_some,Option.getD_some] at h3;rw [← Array.all_toList,List.all_eq_true] at h3;have:=h3 e he;simpa [hb] using this
 ·rintro ⟨h1,h2,o,ho,h3⟩;refine ⟨h1,h2, ?_⟩;simp only [ho,Option.map_some,Option.getD_some];rw [← Array.all_toList,List.all_eq_true];intro e he;cases hb:Region.binds .any e
  ·simp
  ·simp [h3 e he hb]
theorem zb3 {listed:Array Bool} {i k:Nat} {d:Bool} (h:i<listed.size):(listed.setIfInBounds i true).getD k d=if k=i then true else listed.getD k d:=by
 simp only [Array.getD_eq_getD_getElem?,Array.getElem?_setIfInBounds]
 by_cases hk:k=i
 ·subst hk;simp [h]
 ·simp [hk,Ne.symm hk]
theorem zgi {P:Program} {ops:Array Oper} {Q:Exit→Act→World→Prop} {m n:Nat} {ks F:List Nat} (hok:zd0 ops m n ks F=true):
  ∀(f k:Nat) (listed:Array Bool) (a:Act) (w:World),k+f=ops.size→m≤k→listed.size=ops.size→(∀i,i<ops.size→listed.getD i true=decide (i<k)) →
   wpOps P ops Q (List.range' k f) a w→wpAny P .any ops Q f listed a w:=by
 unfold zd0 at hok;rw [Bool.and_eq_true] at hok;obtain ⟨hF,hok⟩:=hok;rw [List.all_eq_true] at hok hF;intro f
 induction f with
 | zero=>
  intro k listed a w hk hm hs hl h;refine ⟨?_,h⟩;cases hr:Region.ready .any ops listed with
  | nil=>rfl
  | cons x xs=>
   have hx:x∈Region.ready .any ops listed:=by rw [hr];simp
   obtain ⟨h1,h2,_⟩:=zdf.1 hx;rw [hl x h1] at h2;simp at h2;omega
 | succ f ih=>
  intro k listed a w hk hm hs hl h;rw [List.range'_succ,wpOps_cons] at h;have hkr:k∈Region.ready .any ops listed:=by
   obtain ⟨o,ho⟩:∃o,ops[k]?=some o:=⟨ops[k]'(by omega),by simp⟩;refine zdf.2 ⟨by omega,by rw [hl k (by omega)];simp,o,ho,fun e he hb=>?_⟩;have:=hok k (by simp;omega);simp only [ho,Bool.and_eq_true] at this;have h1:=List.all_eq_true.1 this.1 e he;simp only [hb,Bool.not_true,Bool.false_or] at h1;have h2:e.on<k:=Nat.le_of_ble_eq_true h1;have h3:=hl e.on (by omega);have h4:listed.getD e.on false=listed.getD e.on true:=by simp [Array.getD,hs,show e.on<ops.size by omega]
   rw [h4,h3];simpa using h2
  refine ⟨fun he=>by rw [he] at hkr;simp at hkr,fun i hi=>?_⟩;obtain ⟨h1,h2,o,ho,h3⟩:=zdf.1 hi;have hik:¬ i<k:=by rw [hl i h1] at h2;simpa using h2
  have:i=k:=by
   rcases Nat.lt_or_ge k i with hlt | hge
   ·exfalso;have h5:=hok i (by simpa using h1);simp only [ho,Bool.and_eq_true] at h5;have h6:=h5.2;rw [if_neg (by omega),List.all_eq_true] at h6;have h7:=h6 k (by simpa using hlt);have hkF:F.contains k=false:=by
     cases hc:F.contains k
     ·rfl
     ·have:=hF k (by simpa using hc);have:k<m:=Nat.le_of_ble_eq_true this;omega
    rw [hkF,Bool.false_or] at h7;have h8:=zef (ops:=ops) (p:=fun j=>listed.getD j false=true) (fun j o' hj ho' e he hb=>by
     have hjs:j<ops.size:=by
      rcases Nat.lt_or_ge j ops.size with h | h
      ·exact h
      ·simp [Array.getElem?_eq_none h] at ho'
     have hjk:j<k:=by
      have:listed.getD j false=listed.getD j true:=by simp [Array.getD,hs,hjs]
      rw [this,hl j hjs] at hj;simpa using hj
     have hok2:=hok j (by simpa using hjs);simp only [ho',Bool.and_eq_true] at hok2;have h9:=List.all_eq_true.1 hok2.1 e he;simp only [hb,Bool.not_true,Bool.false_or] at h9;have h10:e.on<j:=Nat.le_of_ble_eq_true h9;have:listed.getD e.on false=listed.getD e.on true:=by simp [Array.getD,hs,show e.on<ops.size by omega]
     rw [this,hl e.on (by omega)];simp;omega) _ i k h7 (fun o' ho'=>by rw [ho] at ho';cases ho';exact h3)
    have h10:listed.getD k false=listed.getD k true:=by simp [Array.getD,hs,show k<ops.size by omega]
    rw [h10,hl k (by omega)] at h8;simp at h8
   ·omega
  subst this;refine wpOp_mono (fun a w hw=>ih (i+1) _ a w (by omega) (by omega) (by simpa using hs) (fun j hj=>?_) hw) h;rw [zb3 (by omega),hl j hj]
  by_cases hj':j=i
  ·simp [hj']
  ·simp only [if_neg hj',decide_eq_decide];omega
theorem zj8 {ops:Array Oper} {qs:List Pd} {M:Nat→Prop} {n:Nat} {s0:St} {a:Act} {s:St} {L:Lst} (hL:Has M n s0 a s L):
  ∀(es:List Edge),(∀e∈es,Region.binds .any e=true→∀d q,(ops[e.on]?).bind (·.dst)=some d→qs[e.on]?=some q→q.p s (a.eval (.tmp d)))→Has M n s0 a s (zh3 ops qs es L)
 | [],_=>hL
 | e::r,h=>by
  have ih:=zj8 hL r (fun e' he'=>h e' (by simp [he']));unfold zh3;split
  ·rename_i d q hb hd hq
   exact ih.cons d (h e (by simp) hb d q hd hq)
  ·exact ih
theorem zr1 {L:Lst} {d:Nat} (h:(L.map (·.1)).all (fun t=>!Nat.beq t d)=true):lk L d=none:=by
 induction L with
 | nil=>rfl
 | cons x r ih=>
  simp only [List.map_cons,List.all_cons,Bool.and_eq_true,Bool.not_eq_true'] at h;unfold lk;rw [h.1];exact ih h.2
def zmp (ops:Array Oper) (qs:List Pd):Nat→Lst→Lst
 | 0,L=>L
 | i+1,L=>match (ops[i]?).bind (·.dst),qs[i]? with
  | some d,some q=>(d,q)::zmp ops qs i L
  | _,_=>zmp ops qs i L
theorem zij {ops:Array Oper} {qs:List Pd} {M:Nat→Prop} {n:Nat} {s0:St} {a:Act} {s:St} {L:Lst} (hL:Has M n s0 a s L):
  ∀m,(∀i,i<m→∀d q,(ops[i]?).bind (·.dst)=some d→qs[i]?=some q→q.p s (a.eval (.tmp d)))→Has M n s0 a s (zmp ops qs m L)
 | 0,_=>hL
 | m+1,h=>by
  have ih:=zij hL m (fun i hi=>h i (by omega));unfold zmp;split
  ·rename_i d q hd hq
   exact ih.cons d (h m (by omega) d q hd hq)
  ·exact ih
theorem rd_key {P:Program} {ops:Array Oper} {Q:Exit→Act→World→Prop} {M:Nat→Prop} {n:Nat} {s0:St} {s:St} {L:Lst} (m:Nat) (qs:List Pd) (F:List Nat)
  (hok:zd0 ops m n (L.map (·.1)) F=true) (hq:qs.length=m) (hm:m≤ops.size)
  (hT:∀i o q,i<m→ops[i]?=some o→qs[i]?=some q→F.contains i=false→T P ops o (zh3 ops qs o.after.toList L) q)
  (hB:∀a' s',Ex s s'→Has M n s0 a' s' (zmp ops qs m L)→wpOps P ops Q (List.range' m (ops.size-m)) a' s'.w):
  ∀(f:Nat) (listed:Array Bool) (a:Act) (s':St),listed.size=ops.size→((List.range ops.size).filter (fun i=>!listed.getD i true)).length=f→Ex s s'→Has M n s0 a s' L →
   (∀i o,listed.getD i false=true→ops[i]?=some o→∀e∈o.after.toList,Region.binds .any e=true→listed.getD e.on false=true)→(∀i,i<ops.size→m≤i→listed.getD i true=false) →
   (∀i,i<m→listed.getD i true=true→∀d q,(ops[i]?).bind (·.dst)=some d→qs[i]?=some q→q.p s' (a.eval (.tmp d)))→(∀i∈F,listed.getD i true=true)→wpAny P .any ops Q f listed a s'.w:=by
 have hok':=hok;unfold zd0 at hok';rw [Bool.and_eq_true] at hok';obtain ⟨hF,hok'⟩:=hok';rw [List.all_eq_true] at hok';intro f
 induction f with
 | zero=>
  intro listed a s' hs hc e hL' hcl hn hd hl0;have hall:∀i,i<ops.size→listed.getD i true=true:=by
   intro i hi;have:(List.range ops.size).filter (fun i=>!listed.getD i true)=[]:=List.length_eq_zero_iff.1 hc;rw [List.filter_eq_nil_iff] at this;have:=this i (by simpa using hi);simpa using this
  have hmm:m=ops.size:=by
   rcases Nat.lt_or_ge m ops.size with h | h
   ·have:=hn m h (Nat.le_refl _);rw [hall m h] at this;cases this
   ·omega
  refine zgi hok 0 ops.size listed a s'.w (by omega) (by omega) hs (fun i hi=>by rw [hall i hi];simp [hi]) ?_;have:=hB a s' e (zij hL' m fun i hi=>hd i hi (hall i (by omega)));rw [hmm] at this;simpa using this
 | succ f ih=>
  intro listed a s' hs hc e hL' hcl hn hd hl0
  by_cases hdone:∀i,i<m→listed.getD i true=true
  ·-- the tail
   have hf:f+1=ops.size-m:=by
    rw [← hc];have h1:(List.range ops.size).filter (fun i=>!listed.getD i true)=List.range' m (ops.size-m):=by
     have e1:List.range ops.size=List.range' 0 m++List.range' m (ops.size-m):=by
      rw [List.range_eq_range',show ops.size=m+(ops.size-m) by omega,← List.range'_append_1];simp
     rw [e1,List.filter_append];have e2:(List.range' 0 m).filter (fun i=>!listed.getD i true)=[]:=by
      rw [List.filter_eq_nil_iff];intro i hi;simp at hi;simp [hdone i hi]
     have e3:(List.range' m (ops.size-m)).filter (fun i=>!listed.getD i true)=List.range' m (ops.size-m):=by
      rw [List.filter_eq_self];intro i hi;simp at hi;simp [hn i (by omega) (by omega)]
     rw [e2,e3,List.nil_append]
    rw [h1];simp
   refine zgi hok (f+1) m listed a s'.w (by omega) (Nat.le_refl _) hs (fun i hi=>?_) ?_
   ·by_cases h:i<m
    ·simp [h,hdone i h]
    ·simp [h,hn i hi (by omega)]
   ·rw [hf];exact hB a s' e (zij hL' m fun i hi=>hd i hi (hdone i hi))
  ·have hex:∃i,i<m∧listed.getD i true=false:=by
    have h1:=Classical.not_forall.1 hdone;obtain ⟨i,hi⟩:=h1;rw [Classical.not_imp] at hi;exact ⟨i,hi.1,by simpa using hi.2⟩
   have hlow:∀i,i∈Region.ready .any ops listed→i<m:=by
    intro i hi;obtain ⟨h1,h2,o,ho,h3⟩:=zdf.1 hi;rcases Nat.lt_or_ge i m with h | h
    ·exact h
    ·exfalso;obtain ⟨k,hk,hkl⟩:=hex;have h5:=hok' i (by simpa using h1);simp only [ho,Bool.and_eq_true] at h5;have h6:=h5.2;rw [if_neg (by omega),List.all_eq_true] at h6;have h7:=h6 k (by simp;omega);have hkF:F.contains k=false:=by
      cases hc':F.contains k
      ·rfl
      ·have:=hl0 k (by simpa using hc');rw [this] at hkl;cases hkl
     rw [hkF,Bool.false_or] at h7;have h8:=zef (ops:=ops) (p:=fun j=>listed.getD j false=true) hcl _ i k h7 (fun o' ho'=>by rw [ho] at ho';cases ho';exact h3);have h10:listed.getD k false=listed.getD k true:=by simp [Array.getD,hs,show k<ops.size by omega]
     rw [h10,hkl] at h8;cases h8
   refine ⟨fun hnil=>?_,fun i hi=>?_⟩
   ·-- the least that isn't done is ready
    exfalso;obtain ⟨k,hk,hmin⟩:=exists_least (p:=fun i=>i<m∧listed.getD i true=false) hex;obtain ⟨o,ho⟩:∃o,ops[k]?=some o:=⟨ops[k]'(by omega),by simp⟩;have:k∈Region.ready .any ops listed:=by
     refine zdf.2 ⟨by omega,hk.2,o,ho,fun e he hb=>?_⟩;have h5:=hok' k (by simp;omega);simp only [ho,Bool.and_eq_true] at h5;have h1:=List.all_eq_true.1 h5.1 e he;simp only [hb,Bool.not_true,Bool.false_or] at h1;have h2:e.on<k:=Nat.le_of_ble_eq_true h1;have h4:listed.getD e.on false=listed.getD e.on true:=by simp [Array.getD,hs,show e.on<ops.size by omega]
     rw [h4]
     by_cases h6:listed.getD e.on true=true
     ·exact h6
     ·have:=hmin e.on ⟨by omega,by simpa using h6⟩;omega
    rw [hnil] at this;simp at this
   ·have him:=hlow i hi;obtain ⟨h1,h2,o,ho,h3⟩:=zdf.1 hi;obtain ⟨q,hqi⟩:∃q,qs[i]?=some q:=⟨qs[i]'(by omega),by simp⟩;have h5:=hok' i (by simpa using h1);have hiF:F.contains i=false:=by
     cases hc':F.contains i
     ·rfl
     ·have:=hl0 i (by simpa using hc');rw [this] at h2;cases h2
    simp only [ho,Bool.and_eq_true,if_pos him,hiF,Bool.false_or] at h5;obtain ⟨d,hdst⟩:∃d,o.dst=some d:=by
     cases hd':o.dst with
     | none=>rw [hd'] at h5;simp at h5
     | some d=>exact ⟨d,rfl⟩
    have h6:=h5.2;rw [hdst] at h6;simp only [Bool.and_eq_true] at h6;have hdep:Has M n s0 a s' (zh3 ops qs o.after.toList L):=by
     refine zj8 hL' _ fun e' he' hb d' q' hd' hq'=>?_;have h7:=h3 e' he' hb;have h8:=List.all_eq_true.1 h5.1 e' he';simp only [hb,Bool.not_true,Bool.false_or] at h8;have h9:e'.on<i:=Nat.le_of_ble_eq_true h8;have h10:listed.getD e'.on false=listed.getD e'.on true:=by simp [Array.getD,hs,show e'.on<ops.size by omega]
     exact hd e'.on (by omega) (h10 ▸ h7) d' q' hd' hq'
    have hrun:=hT i o q him ho hqi hiF M n s0 a s' hdep Q (wpAny P .any ops Q f (listed.setIfInBounds i true)) ?_
    ·unfold wpOp;simp only [ho]
     by_cases hw:Region.wanted o (yielded ops a.tmps)=true
     ·rw [if_pos hw] at hrun ⊢;exact .inl hrun
     ·rw [if_neg hw] at hrun ⊢;exact hrun
    ·rintro v s'' ⟨e',hq'⟩;have hfresh:lk L d=none:=zr1 h6.1.2;refine ih _ _ s'' (by simpa using hs) ?_ (e.trans e') ?_ ?_ ?_ ?_ ?_
     ·-- one fewer
      have hnd:((List.range ops.size).filter (fun j=>!listed.getD j true)).Nodup:=List.Nodup.sublist List.filter_sublist List.nodup_range;have hmem:i∈(List.range ops.size).filter (fun j=>!listed.getD j true):=List.mem_filter.2 ⟨by simpa using h1,by rw [h2];rfl⟩;have e1:(List.range ops.size).filter (fun j=>!(listed.setIfInBounds i true).getD j true)=((List.range ops.size).filter (fun j=>!listed.getD j true)).filter (fun j=>j != i):=by
       rw [List.filter_filter];refine List.filter_congr fun j hj=>?_;rw [zb3 (by omega)]
       by_cases hji:j=i <;> simp [hji]
      rw [e1,← List.Nodup.erase_eq_filter hnd,List.length_erase_of_mem hmem,hc];rfl
     ·have hp:=hL'.put e' (d:=d) h6.1.1 hq';rw [hdst];refine hp.sub fun t q'' hl=>hp.at_ t q'' ?_;unfold lk;have:d≠t:=fun he=>by rw [he] at hfresh;rw [hfresh] at hl;cases hl
      rw [zhd this];exact hl
     ·intro j o' hj ho' e2 he2 hb2;rw [zb3 (by omega)] at hj ⊢;split
      ·rfl
      ·by_cases hji:j=i
       ·subst hji;rw [ho] at ho';cases ho';exact h3 e2 he2 hb2
       ·rw [if_neg hji] at hj;exact hcl j o' hj ho' e2 he2 hb2
     ·intro j hj hmj;rw [zb3 (by omega),if_neg (by omega)];exact hn j hj hmj
     ·intro j hj hlj d' q'' hd' hq'';rw [hdst]
      by_cases hji:j=i
      ·subst hji;rw [ho,Option.bind_some,hdst] at hd';cases hd';rw [hqi] at hq'';cases hq'';rw [zd7 hL'.size h6.1.1];exact hq'
      ·rw [zb3 (by omega),if_neg hji] at hlj;have h7:=List.all_eq_true.1 h6.2 j (by simpa using hj);have h8:Nat.beq j i=false:=zhd hji;rw [h8,Bool.false_or,hd'] at h7;have:d≠d':=fun he=>by simp [he] at h7
       rw [zfq this];exact Pd.ex e' (hd j hj hlj d' q'' hd' hq'')
     ·intro j hj;rw [zb3 (by omega)];split
      ·rfl
      ·exact hl0 j hj
theorem rd {P:Program} {id:Nat} {ops:Array Oper} {Q:Exit→Act→World→Prop} {M:Nat→Prop} {n:Nat} {s0:St} {a:Act} {s:St} {L:Lst} (hf:P.follows .mixedOrders=true) (m:Nat) (qs:List Pd)
  (hL:Has M n s0 a s L) (hok:zd0 ops m n (L.map (·.1)) []=true) (hq:qs.length=m) (hm:m≤ops.size)
  (hT:∀i o q,i<m→ops[i]?=some o→qs[i]?=some q→T P ops o (zh3 ops qs o.after.toList L) q)
  (hB:∀a' s',Ex s s'→Has M n s0 a' s' (zmp ops qs m L)→wpOps P ops Q (List.range' m (ops.size-m)) a' s'.w):(Code.region id ops true).wp P Q a s.w:=by
 refine wp_region_any hf ?_;have:=rd_key m qs [] hok hq hm (fun i o q h1 h2 h3 _=>hT i o q h1 h2 h3) hB ops.size (Array.replicate ops.size false) a ⟨{ s.w with drawn:=s.w.drawn+1 },s.X,s.lt⟩ (by simp) ?_ ⟨⟨DR.succ rfl,rfl,rfl,rfl,Nat.le_refl _,fun _ _ _=>rfl,fun _ h=>h.elim,fun _ h=>.inl h⟩,fun _ h=>h⟩ ?_ ?_ ?_ ?_ (fun i h=>by cases h)
 ·exact this
 ·rw [List.filter_eq_self.2]
  ·simp
  ·intro i hi;simp at hi;simp [hi]
 ·exact hL.ex ⟨⟨DR.succ rfl,rfl,rfl,rfl,Nat.le_refl _,fun _ _ _=>rfl,fun _ h=>h.elim,fun _ h=>.inl h⟩,fun _ h=>h⟩
 ·intro i o h;simp [Array.getD] at h
 ·intro i hi _;simp [hi]
 ·intro i hi h;simp [show i<ops.size by omega] at h
def TY (P:Program) (o:Oper) (L:Lst) (q:Pd):Prop:=o.guard=none∧∀M n s0 a s,Has M n s0 a s L→∃v,(∀w,(execOp a.eval o).run P w = .ok (.value v) w)∧q.p s v
theorem rdf {P:Program} {id:Nat} {ops:Array Oper} {Q:Exit→Act→World→Prop} {M:Nat→Prop} {n:Nat} {s0:St} {a:Act} {s:St} {L:Lst} (N:Nat) (hf:P.follows .mixedOrders=true) (hL:Has M n s0 a s L) (hN:ops.size=N)
  (h:∀s',Ex s s'→Has M n s0 a s' L→wpAny P .any ops Q N (Array.replicate N false) a s'.w):(Code.region id ops true).wp P Q a s.w:=by
 refine wp_region_any hf ?_;subst hN;have e:Ex s ⟨{ s.w with drawn:=s.w.drawn+1 },s.X,s.lt⟩:=⟨⟨DR.succ rfl,rfl,rfl,rfl,Nat.le_refl _,fun _ _ _=>rfl,fun _ h=>h.elim,fun _ h=>.inl h⟩,fun _ h=>h⟩;exact h _ e (hL.ex e)
theorem zei {P:Program} {ops:Array Oper} {Q:Exit→Act→World→Prop} {M:Nat→Prop} {n:Nat} {s0:St} {a:Act} {s:St} {L:Lst} {f:Nat} {listed:Array Bool} {o:Oper} {q:Pd} (i d:Nat) (hL:Has M n s0 a s L) (hi:ops[i]?=some o) (hs:Region.noSelect ops=true)
  (hf:Region.free .any ops listed i=true) (hr:(Region.ready .any ops listed).contains i=true) (hQ:∀v c a w,Q (.panic c) (a.put (some d) v) w→Q (.panic c) a w) (hT:TY P o L q) (hd:o.dst=some d) (hn:Nat.blt d n=true)
  (k:∀a',Has M n s0 a' s ((d,q)::L)→wpAny P .any ops Q f (listed.setIfInBounds i true) a' s.w):wpAny P .any ops Q (f+1) listed a s.w:=by
 obtain ⟨hg,hT⟩:=hT;obtain ⟨v,hv,hq⟩:=hT M n s0 a s hL;refine wpAny_take hi hs hf hr (fun c a w=>by rw [hd];exact hQ v c a w) (.inl ⟨by simp [Region.wanted,hg],hv⟩) ?_;rw [hd];exact k _ (hL.put (Ex.refl s) hn hq)
def zl6 (ops:Array Oper) (listed:Array Bool) (m:Nat) (F:List Nat):Bool:=
 Nat.beq listed.size ops.size&&(List.range ops.size).all fun i=>(listed.getD i true==F.contains i)&&(!F.contains i||(Nat.blt i m&&(match ops[i]? with
  | none=>false
  | some o=>o.after.toList.all fun e=>!Region.binds .any e||F.contains e.on&&Nat.blt e.on ops.size)))
inductive FlOk (ops:Array Oper) (qs:List Pd) (L:Lst):List Nat→Prop
 | nil:FlOk ops qs L []
 | cons {i d:Nat} {o:Oper} {q:Pd} {r:List Nat} (ho:ops[i]?=some o) (hd:o.dst=some d) (hq:qs[i]?=some q) (hl:lk L d=some q) (h:FlOk ops qs L r):FlOk ops qs L (i::r)
theorem FlOk.at {ops:Array Oper} {qs:List Pd} {L:Lst} {F:List Nat} (h:FlOk ops qs L F):∀i∈F,∃o d q,ops[i]?=some o∧o.dst=some d∧qs[i]?=some q∧lk L d=some q:=by
 induction h with
 | nil=>intro i h;cases h
 | cons ho hd hq hl _ ih=>
  intro i hi;rcases List.mem_cons.1 hi with rfl | hi
  ·exact ⟨_,_,_,ho,hd,hq,hl⟩
  ·exact ih i hi
theorem fl_end {P:Program} {ops:Array Oper} {Q:Exit→Act→World→Prop} {M:Nat→Prop} {n:Nat} {s0:St} {a:Act} {s:St} {L:Lst} {f:Nat} {listed:Array Bool} (m:Nat) (qs:List Pd) (F:List Nat) (hL:Has M n s0 a s L)
  (hok:zd0 ops m n (L.map (·.1)) F=true) (hst:zl6 ops listed m F=true) (hc:((List.range ops.size).filter (fun i=>!listed.getD i true)).length=f) (hfl:FlOk ops qs L F) (hq:qs.length=m) (hm:m≤ops.size)
  (hT:∀i o q,i<m→ops[i]?=some o→qs[i]?=some q→F.contains i=false→T P ops o (zh3 ops qs o.after.toList L) q)
  (hB:∀a' s',Ex s s'→Has M n s0 a' s' (zmp ops qs m L)→wpOps P ops Q (List.range' m (ops.size-m)) a' s'.w):wpAny P .any ops Q f listed a s.w:=by
 unfold zl6 at hst;rw [Bool.and_eq_true,List.all_eq_true] at hst;obtain ⟨h1,h2⟩:=hst;have hsz:=Nat.eq_of_beq_eq_true h1;have hg:∀i,i<ops.size→listed.getD i true=F.contains i:=fun i hi=>by
  have:=h2 i (by simpa using hi);rw [Bool.and_eq_true] at this;exact eq_of_beq this.1
 have hgf:∀i,i<ops.size→listed.getD i false=listed.getD i true:=fun i hi=>by simp [Array.getD,hsz,hi]
 have hFm:∀i∈F,i<m:=by
  unfold zd0 at hok;rw [Bool.and_eq_true,List.all_eq_true] at hok;exact fun i hi=>Nat.le_of_ble_eq_true (hok.1 i hi)
 refine rd_key m qs F hok hq hm hT hB f listed a s hsz hc (Ex.refl s) hL ?_ ?_ ?_ ?_
 ·intro i o hi ho e he hb;have hlt:i<ops.size:=(Array.getElem?_eq_some_iff.1 ho).1;rw [hgf i hlt,hg i hlt] at hi;have:=h2 i (by simpa using hlt);rw [Bool.and_eq_true,hi,ho] at this;have h3:=this.2;simp only [Bool.not_true,Bool.false_or,Bool.and_eq_true,List.all_eq_true] at h3;have h4:=h3.2 e he;simp only [hb,Bool.not_true,Bool.false_or,Bool.and_eq_true] at h4;have h5:e.on<ops.size:=Nat.le_of_ble_eq_true h4.2;rw [hgf _ h5,hg _ h5];exact h4.1
 ·intro i hi hmi;rw [hg i hi];cases hcF:F.contains i
  ·rfl
  ·have:=hFm i (by simpa using hcF);omega
 ·intro i hi hl d q hd hqi;rw [hg i (by omega)] at hl;obtain ⟨o,d',q',ho,hd',hq',hlk⟩:=hfl.at i (by simpa using hl);rw [ho,Option.bind_some,hd'] at hd;rw [hq'] at hqi;cases hd;cases hqi;exact hL.get _ hlk
 ·intro i hi;have:=hFm i hi;rw [hg i (by omega)];simpa using hi
end
end Go.Proofs.YtjdaaiodniicoaaGreatDoor.V
namespace Go.Proofs.YtjdaaiodniicoaaGreatDoor.V
open Go
set_option linter.unusedVariables false
section
variable {u : Bool} [Dr u]
def zgh (s:St):Nat→Prop:=fun b=>b<s.w.heap.size∧¬ s.X b
def Same (S:Nat→Prop) (w w':World):Prop:=∀b,S b→w'.heap[b]?=w.heap[b]?
structure En (α:Type) where
 sz:Nat
 agg:Bool
 R:World→(Nat→Prop)→List Value→α→Prop
 sc:agg=false→sz=1
 pos:0<sz
 len:∀{w S cs x},R w S cs x→cs.length=sz
 one:∀{w S cs x},R w S cs x→∀u∈cs,u.oneCell'=true
 mono:∀{w S S' cs x},(∀b,S b→S' b)→R w S cs x→R w S' cs x
 move:∀{w w' S cs x},Same S w w'→R w S cs x→R w' S cs x
def En.val {α:Type} (E:En α) (cs:List Value):Value:=bif E.agg then .agg cs.toArray else cs.headD undef
theorem En.val_cells {α:Type} {E:En α} {w S cs x} (h:E.R w S cs x):(E.val cs).cells=cs.toArray:=by
 unfold En.val;cases ha:E.agg
 ·have hl:=E.len h;rw [E.sc ha] at hl
  match cs,hl with
  | [u],_=>
   have h1:=E.one h u (by simp);simp only [cond_false,List.headD_cons];cases u <;> first | rfl | simp [Value.oneCell'] at h1
 ·rfl
theorem En.go {α:Type} (E:En α) {T:Nat→Prop} {s s':St} {cs:List Value} {x:α} (h:Mv T s s') (hR:E.R s.w (zgh s) cs x):E.R s'.w (zgh s') cs x:=
 E.mono (fun b hb=>⟨Nat.lt_of_lt_of_le hb.1 h.size,fun hx=>(h.xx b hx).elim hb.2 (fun hk=>by have:=hb.1;omega)⟩)
  (E.move (fun b hb=>h.blk b hb.1 (fun ht=>hb.2 (h.tx b ht))) hR)
def Pd.rep {α:Type} (E:En α) (x:α):Pd:=
 ⟨fun s v=>∃cs,v=E.val cs∧E.R s.w (zgh s) cs x,fun _=>False,fun h _ ⟨cs,hv,hR⟩=>⟨cs,hv,E.go h hR⟩⟩
def ze2 (w:World) (b o:Nat) (cs:List Value):Prop:=∀j u,cs[j]?=some u→w.cell? ⟨b,o+j,none⟩=some u
theorem ze2.same {w w':World} {b o:Nat} {cs:List Value} (h:ze2 w b o cs) (hb:w'.heap[b]?=w.heap[b]?):ze2 w' b o cs:=
 fun j u hu=>by rw [World.cell?_of_block (w:=w) hb];exact h j u hu
theorem zfr (b o j:Nat):(⟨b,o,none⟩:Addr).add j=⟨b,o+j,none⟩:=by unfold Addr.add;split <;> simp_all
def Pd.ptr {α:Type} (E:En α) (x:α):Pd:=
 ⟨fun s v=>∃b o cs,v = .pointer (some ⟨b,o,none⟩)∧zgh s b∧ze2 s.w b o cs∧E.R s.w (zgh s) cs x,fun _=>False,
  fun {T s s' v} h _ ⟨b,o,cs,hv,hb,hc,hR⟩=>⟨b,o,cs,hv,
   ⟨Nat.lt_of_lt_of_le hb.1 h.size,fun hx=>(h.xx b hx).elim hb.2 (fun hk=>by have:=hb.1;omega)⟩,
   hc.same (h.blk b hb.1 (fun ht=>hb.2 (h.tx b ht))),E.go h hR⟩⟩
def Pd.optr {α:Type} (E:En α) (N:Nat) (og:Option Nat) (o:Nat) (x:α):Pd:=
 ⟨fun s v=>∃g,og=some g∧v = .pointer (some ⟨g,o,none⟩)∧N≤g∧g<s.w.heap.size∧s.X g∧∃cs,ze2 s.w g o cs∧E.R s.w (zgh s) cs x,fun b=>og=some b,
  fun {T s s' v} h hb ⟨g,ho,hv,hN,hg,hx,cs,hc,hR⟩=>⟨g,ho,hv,hN,Nat.lt_of_lt_of_le hg h.size,(hb g ho).2 hx,cs,hc.same (h.blk g hg (hb g ho).1),E.go h hR⟩⟩
def Pd.box {α:Type} (E:En α) (N g:Nat) (x:α):Pd:=
 ⟨fun s v=>v = .pointer (some ⟨g,0,none⟩)∧N≤g∧s.X g∧∃cs t,s.w.heap[g]?=some (.cells cs.toArray t (0,0))∧E.R s.w (zgh s) cs x,fun b=>b=g,
  fun {T s s' v} h hb ⟨hv,hN,hx,cs,t,hc,hR⟩=>⟨hv,hN,(hb g rfl).2 hx,cs,t,by
   rw [h.blk g (Array.getElem?_eq_some_iff.1 hc).1 (hb g rfl).1];exact hc,E.go h hR⟩⟩
theorem Pd.rep_stable {α:Type} (E:En α) (x:α):(Pd.rep E x).Stable:=fun _ h=>h
def InR (k:IntKind) (x:Int):Prop:=k.min≤x∧x≤k.max
instance (k : IntKind) (x : Int) : Decidable (InR k x):=by unfold InR; infer_instance
def En.int (k:IntKind):En Int where
 sz:=1
 agg:=false
 R:=fun _ _ cs x=>cs=[.int k x]∧InR k x
 sc:=fun _=>rfl
 pos:=Nat.one_pos
 len:=by rintro _ _ _ _ ⟨rfl,_⟩;rfl
 one:=by rintro _ _ _ _ ⟨rfl,_⟩ u hu;simp at hu;subst hu;rfl
 mono:=fun _ h=>h
 move:=fun _ h=>h
def En.bool:En Bool where
 sz:=1
 agg:=false
 R:=fun _ _ cs x=>cs=[.bool x]
 sc:=fun _=>rfl
 pos:=Nat.one_pos
 len:=by rintro _ _ _ _ rfl;rfl
 one:=by rintro _ _ _ _ rfl u hu;simp at hu;subst hu;rfl
 mono:=fun _ h=>h
 move:=fun _ h=>h
abbrev Str:=List UInt8
def En.str:En Str where
 sz:=1
 agg:=false
 R:=fun _ _ cs x=>cs=[.string ⟨x.toArray⟩]∧x.length≤9223372036854775807
 sc:=fun _=>rfl
 pos:=Nat.one_pos
 len:=by rintro _ _ _ _ ⟨rfl,_⟩;rfl
 one:=by rintro _ _ _ _ ⟨rfl,_⟩ u hu;simp at hu;subst hu;rfl
 mono:=fun _ h=>h
 move:=fun _ h=>h
theorem zbf {k:IntKind} {x:Int} {s:St} {v:Value}:(Pd.rep (En.int k) x).p s v↔v = .int k x∧InR k x:=
 ⟨fun ⟨_,hv,hc,hr⟩=>by subst hc;exact ⟨hv,hr⟩,fun ⟨hv,hr⟩=>⟨[.int k x],hv,rfl,hr⟩⟩
theorem zch {x:Bool} {s:St} {v:Value}:(Pd.rep En.bool x).p s v↔v = .bool x:=
 ⟨fun ⟨_,hv,hc⟩=>by cases hc;exact hv,fun hv=>⟨[.bool x],hv,rfl⟩⟩
theorem zif {x:Str} {s:St} {v:Value}:(Pd.rep En.str x).p s v↔v = .string ⟨x.toArray⟩∧x.length≤9223372036854775807:=
 ⟨fun ⟨_,hv,hc,hr⟩=>by subst hc;exact ⟨hv,hr⟩,fun ⟨hv,hr⟩=>⟨[.string ⟨x.toArray⟩],hv,rfl,hr⟩⟩
def Opn (L:Lst) (x:Operand) (q:Pd):Prop:=∀M n s0 a s,Has M n s0 a s L→q.p s (a.eval x)
theorem o_t {L:Lst} (t:Nat) {q:Pd} (h:lk L t=some q):Opn L (.tmp t) q:=fun _ _ _ _ _ hL=>hL.get t h
theorem O {L:Lst}(t:Nat){q:Pd}(h:lk L t=some q):Opn L (.tmp t) q:=o_t t h
theorem o_c {L:Lst} {v:Value} {q:Pd} (h:∀s,q.p s v):Opn L (.const v) q:=fun _ _ _ _ s _=>h s
theorem o_i {L:Lst} {k:IntKind} {x:Int} (h:InR k x):Opn L (.const (.int k x)) (Pd.rep (En.int k) x):=o_c fun _=>zbf.2 ⟨rfl,h⟩
abbrev U3:=Tryz.underlying3
abbrev U9:=Tryz.underlying9
abbrev U22:=Tryz.underlying22
abbrev U24:=Tryz.underlying24
abbrev U29:=Tryz.underlying29
abbrev U42:=Tryz.underlying42
abbrev U61:=Tryz.underlying61
abbrev U76:=Tryz.underlying76
abbrev U77:=Tryz.underlying77
abbrev U80:=Tryz.underlying80
abbrev U126:=Tryz.underlying126
abbrev U148:=Tryz.underlying148
abbrev U151:=Tryz.underlying151
abbrev U222:=Tryz.underlying222
abbrev U225:=Tryz.underlying225
theorem oI {L:Lst}{x:Int}(h:InR .i64 x:=by decide):Opn L (.const (.int .i64 x)) (Pd.rep (En.int .i64) x):=o_i h
abbrev Pi (x:Int):Pd:=Pd.rep (En.int .i64) x
theorem o_b {L:Lst} {x:Bool}:Opn L (.const (.bool x)) (Pd.rep En.bool x):=o_c fun _=>zch.2 rfl
theorem o_s {L:Lst} {x:Str} (h:x.length≤9223372036854775807):Opn L (.const (.string ⟨x.toArray⟩)) (Pd.rep En.str x):=o_c fun _=>zif.2 ⟨rfl,h⟩
section
variable {P : Program} {ops : Array Oper} {o : Oper} {L : Lst}
theorem T.mk {q:Pd} (hg:o.guard=none) (h:∀M n s0 a s,Has M n s0 a s L→∃v s',(execOp a.eval o).run P s.w = .ok (.value v) s'.w∧Ex s s'∧q.p s' v):T P ops o L q:=
 fun M n s0 a s hL=>by
  obtain ⟨v,s',h1,h2,h3⟩:=h M n s0 a s hL;exact OpR.of_run hg h1 ⟨h2,h3⟩
theorem T.pure {q:Pd} (hg:o.guard=none) (h:∀M n s0 a s,Has M n s0 a s L→∃v,(execOp a.eval o).run P s.w = .ok (.value v) s.w∧q.p s v):T P ops o L q:=
 T.mk hg fun M n s0 a s hL=>let ⟨v,h1,h2⟩:=h M n s0 a s hL;⟨v,s,h1,Ex.refl s,h2⟩
theorem zj {x:Operand} {q:Pd} (h:Opn L x q) (ho:o.op = .move x) (hg:o.guard=none):T P ops o L q:=
 T.pure hg fun M n s0 a s hL=>⟨a.eval x,by unfold execOp;rw [ho];rfl,h M n s0 a s hL⟩
theorem zp {x:Operand} {q:Pd} (h:Opn L x q) (ho:o.op = .assign x) (hg:o.guard=none):T P ops o L q:=
 T.pure hg fun M n s0 a s hL=>⟨a.eval x,by unfold execOp;rw [ho];rfl,h M n s0 a s hL⟩
theorem zi4 {k:IntKind} {x:Int} (h:InR k x):k.wrap x=x:=by
 unfold InR at h;cases k <;> simp [IntKind.min,IntKind.max,IntKind.signed,IntKind.bits] at h <;> simp [IntKind.wrap,IntKind.signed,IntKind.bits] <;> omega
theorem wrap_inR (k:IntKind) (x:Int):InR k (k.wrap x):=by
 unfold InR;cases k <;> simp [IntKind.min,IntKind.max,IntKind.signed,IntKind.bits,IntKind.wrap] <;> omega
theorem t_arith {k:IntKind} {x y:Operand} {a b:Int} (op:BinOp) (f:Int→Int→Int) (hf:∀a b,(Op.intArith op k a b:Sem Value)=Pure.pure (.int k (k.wrap (f a b)))) (hop:op = .add∨op = .sub∨op = .mul)
  (hx:Opn L x (Pd.rep (En.int k) a)) (hy:Opn L y (Pd.rep (En.int k) b)) (hr:InR k (f a b)) {t u:TypeId} (ho:o.op = .binOp op t x y u) (hg:o.guard=none):
  T P ops o L (Pd.rep (En.int k) (f a b)):=
 T.pure hg fun M n s0 ac s hL=>by
  have h1:=(zbf.1 (hx M n s0 ac s hL)).1;have h2:=(zbf.1 (hy M n s0 ac s hL)).1;refine ⟨.int k (f a b), ?_,zbf.2 ⟨rfl,hr⟩⟩;unfold execOp;rw [ho];simp only [h1,h2];rcases hop with rfl | rfl | rfl <;> simp [eqGuard,binOp,hf,zi4 hr]
theorem zi6 {k:IntKind} {x y:Operand} {a b:Int} (hx:Opn L x (Pd.rep (En.int k) a)) (hy:Opn L y (Pd.rep (En.int k) b)) (hr:InR k (a+b)) {t u:TypeId} (ho:o.op = .binOp .add t x y u) (hg:o.guard=none):
  T P ops o L (Pd.rep (En.int k) (a+b)):=t_arith .add (· + ·) (fun _ _=>rfl) (.inl rfl) hx hy hr ho hg
theorem zlw {k:IntKind} {x y:Operand} {a b:Int} (hx:Opn L x (Pd.rep (En.int k) a)) (hy:Opn L y (Pd.rep (En.int k) b)) (hr:InR k (a-b)) {t u:TypeId} (ho:o.op = .binOp .sub t x y u) (hg:o.guard=none):
  T P ops o L (Pd.rep (En.int k) (a-b)):=t_arith .sub (· - ·) (fun _ _=>rfl) (.inr (.inl rfl)) hx hy hr ho hg
theorem t_mul {k:IntKind} {x y:Operand} {a b:Int} (hx:Opn L x (Pd.rep (En.int k) a)) (hy:Opn L y (Pd.rep (En.int k) b)) (hr:InR k (a*b)) {t u:TypeId} (ho:o.op = .binOp .mul t x y u) (hg:o.guard=none):
  T P ops o L (Pd.rep (En.int k) (a*b)):=t_arith .mul (· * ·) (fun _ _=>rfl) (.inr (.inr rfl)) hx hy hr ho hg
theorem t_cmp {k:IntKind} {x y:Operand} {a b:Int} (op:BinOp) (f:Int→Int→Bool) (hf:(fun a b=>(Op.intCmp op a b:Sem Value))=fun a b=>Pure.pure (.bool (f a b)))
  (hop:op = .lss∨op = .leq∨op = .gtr∨op = .geq∨op = .eql∨op = .neq)
  (hx:Opn L x (Pd.rep (En.int k) a)) (hy:Opn L y (Pd.rep (En.int k) b)) {t u:TypeId} (ho:o.op = .binOp op t x y u) (hg:o.guard=none):
  T P ops o L (Pd.rep En.bool (f a b)):=
 T.pure hg fun M n s0 ac s hL=>by
  have h1:=(zbf.1 (hx M n s0 ac s hL)).1;have h2:=(zbf.1 (hy M n s0 ac s hL)).1;have hf':(Op.intCmp op a b:Sem Value)=Pure.pure (.bool (f a b)):=congrFun (congrFun hf a) b;refine ⟨.bool (f a b), ?_,zch.2 rfl⟩;unfold execOp;rw [ho];simp only [h1,h2];rcases hop with rfl | rfl | rfl | rfl | rfl | rfl <;> simp [eqGuard,binOp,hf']
theorem zi1 {k:IntKind} {x y:Operand} {a b:Int} (hx:Opn L x (Pd.rep (En.int k) a)) (hy:Opn L y (Pd.rep (En.int k) b)) {t u:TypeId} (ho:o.op = .binOp .lss t x y u) (hg:o.guard=none):
  T P ops o L (Pd.rep En.bool (decide (a<b))):=t_cmp .lss (fun a b=>decide (a<b)) rfl (.inl rfl) hx hy ho hg
theorem t_leq {k:IntKind} {x y:Operand} {a b:Int} (hx:Opn L x (Pd.rep (En.int k) a)) (hy:Opn L y (Pd.rep (En.int k) b)) {t u:TypeId} (ho:o.op = .binOp .leq t x y u) (hg:o.guard=none):
  T P ops o L (Pd.rep En.bool (decide (a≤b))):=t_cmp .leq (fun a b=>decide (a≤b)) rfl (.inr (.inl rfl)) hx hy ho hg
theorem t_gtr {k:IntKind} {x y:Operand} {a b:Int} (hx:Opn L x (Pd.rep (En.int k) a)) (hy:Opn L y (Pd.rep (En.int k) b)) {t u:TypeId} (ho:o.op = .binOp .gtr t x y u) (hg:o.guard=none):
  T P ops o L (Pd.rep En.bool (decide (b<a))):=t_cmp .gtr (fun a b=>decide (b<a)) rfl (.inr (.inr (.inl rfl))) hx hy ho hg
theorem t_geq {k:IntKind} {x y:Operand} {a b:Int} (hx:Opn L x (Pd.rep (En.int k) a)) (hy:Opn L y (Pd.rep (En.int k) b)) {t u:TypeId} (ho:o.op = .binOp .geq t x y u) (hg:o.guard=none):
  T P ops o L (Pd.rep En.bool (decide (b≤a))):=t_cmp .geq (fun a b=>decide (b≤a)) rfl (.inr (.inr (.inr (.inl rfl)))) hx hy ho hg
theorem zgp {k:IntKind} {x y:Operand} {a b:Int} (hx:Opn L x (Pd.rep (En.int k) a)) (hy:Opn L y (Pd.rep (En.int k) b)) {t u:TypeId} (ho:o.op = .binOp .eql t x y u) (hg:o.guard=none):
  T P ops o L (Pd.rep En.bool (a==b)):=t_cmp .eql (fun a b=>a==b) rfl (.inr (.inr (.inr (.inr (.inl rfl))))) hx hy ho hg
theorem t_nei {k:IntKind} {x y:Operand} {a b:Int} (hx:Opn L x (Pd.rep (En.int k) a)) (hy:Opn L y (Pd.rep (En.int k) b)) {t u:TypeId} (ho:o.op = .binOp .neq t x y u) (hg:o.guard=none):
  T P ops o L (Pd.rep En.bool (a != b)):=t_cmp .neq (fun a b=>a != b) rfl (.inr (.inr (.inr (.inr (.inr rfl))))) hx hy ho hg
theorem t_not {x:Operand} {a:Bool} (hx:Opn L x (Pd.rep En.bool a)) {t:TypeId} (ho:o.op = .unOp .not t x) (hg:o.guard=none):T P ops o L (Pd.rep En.bool (!a)):=
 T.pure hg fun M n s0 ac s hL=>by
  have h1:=zch.1 (hx M n s0 ac s hL);refine ⟨.bool (!a), ?_,zch.2 rfl⟩;unfold execOp;rw [ho];simp [h1,Op.unary]
structure Ty {α:Type} (P:Program) (t:TypeId) (E:En α):Prop where
 info:∃i z,P.info? t=some i∧i.size=E.sz∧i.zero=some z∧z.cells.size=E.sz∧i.bytes≤65536
 agg:∃d,P.underlying t=some d∧(match d with | .struct _ | .array _ _=>true | _=>false)=E.agg
theorem zk7 {α:Type} {t:TypeId} {E:En α} (h:Ty P t E) (w:World):(isAgg t).run P w = .ok E.agg w:=by
 obtain ⟨d,hd,he⟩:=h.agg;unfold isAgg;simp only [Sem.run_bind,run_underlying hd,Result.andThen_ok];rw [← he];cases d <;> rfl
theorem zbw {α:Type} {t:TypeId} {E:En α} (h:Ty P t E) (w:World):(sizeOf t).run P w = .ok E.sz w:=by
 obtain ⟨i,z,hi,he,_⟩:=h.info;simp [sizeOf,typeInfo,hi,he]
theorem zg5 {α:Type} {t:TypeId} {E:En α} (h:Ty P t E) {w w':World} {S:Nat→Prop} {cs:List Value} {x:α} (hR:E.R w' S cs x) {b o:Nat} (hc:ze2 w b o cs):
  (loadVar t ⟨b,o,none⟩).run P w = .ok (E.val cs) w:=by
 unfold loadVar;simp only [Sem.run_bind,zk7 h,Result.andThen_ok];have hl:=E.len hR;cases ha:E.agg
 ·have h1:=E.sc ha;rw [h1] at hl
  match cs,hl with
  | [u],_=>
   have:=hc 0 u rfl;simp [En.val,ha,show w.cell? ⟨b,o,none⟩=some u from this]
 ·simp only [if_true,Sem.run_bind,zbw h,Result.andThen_ok];have:(loadCells ⟨b,o,none⟩ E.sz).run P w = .ok cs.toArray w:=by
   rw [← hl];exact run_loadCells_list w ⟨b,o,none⟩ cs (fun j v hv=>by rw [zfr];exact hc j v hv)
  simp [this,En.val,ha]
theorem zw {α:Type} {E:En α} {x:α} {y:Operand} {t:TypeId} (ht:Ty P t E) (hy:Opn L y (Pd.ptr E x)) (ho:o.op = .load t y) (hg:o.guard=none):T P ops o L (Pd.rep E x):=
 T.pure hg fun M n s0 ac s hL=>by
  obtain ⟨b,off,cs,hv,hb,hc,hR⟩:=hy M n s0 ac s hL;refine ⟨E.val cs, ?_,cs,rfl,hR⟩;unfold execOp;rw [ho];simp [hv,Instr.loadAt,Instr.sureAddr,zg5 ht hR hc]
theorem zcr {α:Type} {E:En α} {x:α} {y:Operand} {t:TypeId} {N off:Nat} {og:Option Nat} (ht:Ty P t E) (hy:Opn L y (Pd.optr E N og off x)) (ho:o.op = .load t y) (hg:o.guard=none):T P ops o L (Pd.rep E x):=
 T.pure hg fun M n s0 ac s hL=>by
  obtain ⟨g,_,hv,_,_,_,cs,hc,hR⟩:=hy M n s0 ac s hL;refine ⟨E.val cs, ?_,cs,rfl,hR⟩;unfold execOp;rw [ho];simp [hv,Instr.loadAt,Instr.sureAddr,zg5 ht hR hc]
theorem zd8 {w:World} {g:Nat} {cs:List Value} {t:TypeId} {fr:Nat × Nat} (h:w.heap[g]?=some (.cells cs.toArray t fr)):ze2 w g 0 cs:=
 fun j u hu=>by rw [Nat.zero_add,cell_of_row w g j cs.toArray t fr h];simpa using hu
theorem zgo {α:Type} {E:En α} {x:α} {y:Operand} {t:TypeId} {N g:Nat} (ht:Ty P t E) (hy:Opn L y (Pd.box E N g x)) (ho:o.op = .load t y) (hg:o.guard=none):T P ops o L (Pd.rep E x):=
 T.pure hg fun M n s0 ac s hL=>by
  obtain ⟨hv,_,_,cs,t',hc,hR⟩:=hy M n s0 ac s hL;refine ⟨E.val cs, ?_,cs,rfl,hR⟩;unfold execOp;rw [ho];simp [hv,Instr.loadAt,Instr.sureAddr,zg5 ht hR (zd8 hc)]
theorem zrd {k k':IntKind} {t u:TypeId} {x:Int} (ht:P.underlying t=some (.int k)) (hu:P.underlying u=some (.int k')) (w:World):(convert t u (.int k x)).run P w = .ok (.int k' (k'.wrap x)) w:=by
 simp [convert,run_underlying ht,run_underlying hu,go_sem]
theorem t_u8 {k:IntKind} {x:Int} {y:Operand} {t u:TypeId} (hy:Opn L y (Pd.rep (En.int k) x)) (ht:P.underlying t=some (.int k)) (hu:P.underlying u=some (.int .u8)) (ho:o.op = .convert t u y) (hg:o.guard=none):T P ops o L (Pd.rep (En.int .u8) (x % 256)):=
 T.pure hg fun M n s0 ac s hL=>by
  have h1:=(zbf.1 (hy M n s0 ac s hL)).1;refine ⟨.int .u8 (x % 256), ?_,zbf.2 ⟨rfl, ?_⟩⟩
  ·unfold execOp;rw [ho];have:=zrd (k:=k) (k':=.u8) (x:=x) ht hu s.w;simp only [h1,Sem.run_bind,this,Result.andThen_ok,Sem.run_pure];simp [IntKind.wrap,IntKind.signed,IntKind.bits]
  ·simp [InR,IntKind.min,IntKind.max,IntKind.signed,IntKind.bits];omega
theorem t_up {k k':IntKind} {x:Int} {y:Operand} {t u:TypeId} (hy:Opn L y (Pd.rep (En.int k) x)) (hk:k'.min≤k.min∧k.max≤k'.max) (ht:P.underlying t=some (.int k)) (hu:P.underlying u=some (.int k')) (ho:o.op = .convert t u y) (hg:o.guard=none):
  T P ops o L (Pd.rep (En.int k') x):=
 T.pure hg fun M n s0 ac s hL=>by
  obtain ⟨h1,h2⟩:=zbf.1 (hy M n s0 ac s hL);have hr:InR k' x:=⟨Int.le_trans hk.1 h2.1,Int.le_trans h2.2 hk.2⟩;refine ⟨.int k' x, ?_,zbf.2 ⟨rfl,hr⟩⟩;unfold execOp;rw [ho];have:=zrd (k:=k) (k':=k') (x:=x) ht hu s.w;simp only [h1,Sem.run_bind,this,Result.andThen_ok,Sem.run_pure,zi4 hr]
theorem t_g {c0:Prop} {b want:Bool} {j d:Nat} {q:Pd} (hg:o.guard=some (j,want)) (hj:(ops[j]?).bind (·.dst)=some d) (hl:lk L d=some (Pd.when c0 (Pd.rep En.bool b))) (h:c0∧b=want→T P ops { o with guard:=none } L q):
  T P ops o L (Pd.when (c0∧b=want) q):=fun M n s0 a s hL Q k hk=>by
 have hd:=hL.get d hl;have hw:Region.wanted o (yielded ops a.tmps)=true↔c0∧b=want:=by
  simp only [Region.wanted,hg];have:yielded ops a.tmps j=match a.eval (.tmp d) with | .bool x=>some x | _=>none:=by
   unfold yielded;cases ho:ops[j]? with
   | none=>rw [ho] at hj;cases hj
   | some oj=>
    rw [ho] at hj;simp only [Option.bind_some] at hj;simp only [hj,Act.eval,Option.bind_some,Array.getD_eq_getD_getElem?];cases a.tmps[d]? with
    | none=>simp [undef]
    | some v=>cases v <;> rfl
  rw [this]
  by_cases h0:c0
  ·rw [zch.1 (hd.1 h0)];simp [h0]
  ·rw [hd.2 h0];simp [h0,undef]
 by_cases hc:c0∧b=want
 ·rw [if_pos (hw.2 hc)];have:=h hc M n s0 a s hL Q k (fun v s' ⟨e,hq⟩=>hk v s' ⟨e,fun _=>hq,fun hn=>absurd hc hn⟩);obtain ⟨dst,op,type,pos,after,guard⟩:=o;exact this
 ·rw [if_neg (fun h=>hc (hw.1 h))];exact hk undef s ⟨Ex.refl s,fun h=>absurd h hc,fun _=>rfl⟩
theorem zfk {b want:Bool} {j d:Nat} {q:Pd} (hg:o.guard=some (j,want)) (hj:(ops[j]?).bind (·.dst)=some d) (hl:lk L d=some (Pd.rep En.bool b)) (h:b=want→T P ops { o with guard:=none } L q):
  T P ops o L (Pd.when (b=want) q):=fun M n s0 a s hL Q k hk=>by
 have hd:=zch.1 (hL.get d hl);have hw:Region.wanted o (yielded ops a.tmps)=true↔b=want:=by
  simp only [Region.wanted,hg];have:yielded ops a.tmps j=match a.eval (.tmp d) with | .bool x=>some x | _=>none:=by
   unfold yielded;cases ho:ops[j]? with
   | none=>rw [ho] at hj;cases hj
   | some oj=>
    rw [ho] at hj;simp only [Option.bind_some] at hj;simp only [hj,Act.eval,Option.bind_some,Array.getD_eq_getD_getElem?];cases a.tmps[d]? with
    | none=>simp [undef]
    | some v=>cases v <;> rfl
  rw [this,hd];simp
 by_cases hc:b=want
 ·rw [if_pos (hw.2 hc)];have:=h hc M n s0 a s hL Q k (fun v s' ⟨e,hq⟩=>hk v s' ⟨e,fun _=>hq,fun hn=>absurd hc hn⟩);obtain ⟨dst,op,type,pos,after,guard⟩:=o;exact this
 ·rw [if_neg (fun h=>hc (hw.1 h))];exact hk undef s ⟨Ex.refl s,fun h=>absurd h hc,fun _=>rfl⟩
theorem o_w {c:Prop} (hc:c) (t:Nat) {q:Pd} (h:lk L t=some (Pd.when c q)):Opn L (.tmp t) q:=fun _ _ _ _ _ hL=>(hL.get t h).1 hc
theorem zpm {x y:Operand} {a b:Bool} (hx:Opn L x (Pd.rep En.bool a)) (hy:a=true→Opn L y (Pd.rep En.bool b)) (ho:o.op = .pick x y (.const (.bool false))) (hg:o.guard=none):T P ops o L (Pd.rep En.bool (a&&b)):=
 T.pure hg fun M n s0 ac s hL=>by
  have h1:=zch.1 (hx M n s0 ac s hL);refine ⟨.bool (a&&b), ?_,zch.2 rfl⟩;unfold execOp;rw [ho];cases a
  ·have hcn:ac.eval (.const (.bool false)) = .bool false:=rfl;simp [h1,asBool,hcn]
  ·have h2:=zch.1 (hy rfl M n s0 ac s hL);simp [h1,h2,asBool]
theorem t_or {x y:Operand} {a b:Bool} (hx:Opn L x (Pd.rep En.bool a)) (hy:a=false→Opn L y (Pd.rep En.bool b)) (ho:o.op = .pick x (.const (.bool true)) y) (hg:o.guard=none):T P ops o L (Pd.rep En.bool (a||b)):=
 T.pure hg fun M n s0 ac s hL=>by
  have h1:=zch.1 (hx M n s0 ac s hL);refine ⟨.bool (a||b), ?_,zch.2 rfl⟩;unfold execOp;rw [ho];cases a
  ·have h2:=zch.1 (hy rfl M n s0 ac s hL);simp [h1,h2,asBool]
  ·have hcn:ac.eval (.const (.bool true)) = .bool true:=rfl;simp [h1,asBool,hcn]
def St.push (s:St) (ob:Obj):St:=⟨s.w.alloc ob,s.X,fun b hb=>Nat.lt_of_lt_of_le (s.lt b hb) (by simp)⟩
theorem Ex.push (s:St) (ob:Obj):Ex s (s.push ob):=
 ⟨⟨DR.eq rfl,rfl,rfl,rfl,by simp [St.push],fun b hb _=>Go.RowKit.Below.heap_alloc s.w ob b hb,fun _ h=>h.elim,fun _ h=>.inl h⟩,fun _ h=>h⟩
end
end
end Go.Proofs.YtjdaaiodniicoaaGreatDoor.V
namespace Go.Proofs.YtjdaaiodniicoaaGreatDoor.V
open Go
set_option linter.unusedVariables false
section
variable {u : Bool} [Dr u]
def at? {α:Type} (xs:List α) (i:Int):Option α:=if 0≤i then xs[i.toNat]? else none
def Els {α:Type} (E:En α) (w:World) (S:Nat→Prop) (css:List (List Value)) (xs:List α):Prop:=
 css.length=xs.length∧∀(i:Nat) (cs:List Value) (x:α),css[i]?=some cs→xs[i]?=some x→E.R w S cs x
theorem Els.lens {α:Type} {E:En α} {w S css} {xs:List α} (h:Els E w S css xs):∀cs∈css,cs.length=E.sz:=by
 intro cs hcs;obtain ⟨i,hi⟩:=List.getElem?_of_mem hcs;have hlt:i<css.length:=(List.getElem?_eq_some_iff.1 hi).1;have hx:xs[i]?=some (xs[i]'(h.1 ▸ hlt)):=by simp
 exact E.len (h.2 i cs _ hi hx)
theorem zhc {css:List (List Value)} {n:Nat} (h:∀cs∈css,cs.length=n):css.flatten.length=css.length*n:=by
 induction css with
 | nil=>simp
 | cons c r ih=>
  simp only [List.flatten_cons,List.length_append,List.length_cons];rw [ih (fun x hx=>h x (by simp [hx])),h c (by simp),Nat.add_mul];omega
theorem zlj {css:List (List Value)} {n:Nat} (h:∀cs∈css,cs.length=n):∀{i:Nat} {cs:List Value} {j:Nat} {u:Value},css[i]?=some cs→cs[j]?=some u→css.flatten[i*n+j]?=some u:=by
 induction css with
 | nil=>intro i cs j u hi;simp at hi
 | cons c r ih=>
  intro i cs j u hi hj;have hc:c.length=n:=h c (by simp);cases i with
  | zero=>
   simp at hi;subst hi;rw [List.flatten_cons,Nat.zero_mul,Nat.zero_add,List.getElem?_append_left (List.getElem?_eq_some_iff.1 hj).1];exact hj
  | succ i=>
   simp at hi;rw [List.flatten_cons,List.getElem?_append_right (by rw [hc,Nat.succ_mul];omega)];rw [show (i+1)*n+j-c.length=i*n+j by rw [hc,Nat.succ_mul];omega];exact ih (fun x hx=>h x (by simp [hx])) hi hj
def lim:Nat:=9223372036854775807
def SlV {α:Type} (E:En α) (w:World) (S:Nat→Prop) (v:Value) (xs:List α):Prop:=
 ∃ad cap,v = .slice ad xs.length cap∧xs.length≤cap∧(ad=none→cap=0)∧xs.length≤lim ∧
  (xs≠[]→∃b off css,ad=some ⟨b,off,none⟩∧S b∧Els E w S css xs∧ze2 w b off css.flatten)
def En.slice {α:Type} (E:En α):En (List α) where
 sz:=1
 agg:=false
 R:=fun w S cs xs=>∃v,cs=[v]∧SlV E w S v xs
 sc:=fun _=>rfl
 pos:=Nat.one_pos
 len:=by rintro _ _ _ _ ⟨v,rfl,_⟩;rfl
 one:=by rintro _ _ _ _ ⟨v,rfl,ad,cap,rfl,_⟩ u hu;simp at hu;subst hu;rfl
 mono:=by
  rintro w S S' cs xs h ⟨v,rfl,ad,cap,hv,h1,h2,h3,h4⟩
  refine ⟨v,rfl,ad,cap,hv,h1,h2,h3,fun hne=>?_⟩
  obtain ⟨b,off,css,e,hb,hE,hc⟩:=h4 hne
  exact ⟨b,off,css,e,h b hb,⟨hE.1,fun i cs x a b=>E.mono h (hE.2 i cs x a b)⟩,hc⟩
 move:=by
  rintro w w' S cs xs h ⟨v,rfl,ad,cap,hv,h1,h2,h3,h4⟩
  refine ⟨v,rfl,ad,cap,hv,h1,h2,h3,fun hne=>?_⟩
  obtain ⟨b,off,css,e,hb,hE,hc⟩:=h4 hne
  exact ⟨b,off,css,e,hb,⟨hE.1,fun i cs x a b=>E.move h (hE.2 i cs x a b)⟩,hc.same (h b hb)⟩
theorem zbx {α:Type} {E:En α} {xs:List α} {s:St} {v:Value}:(Pd.rep (En.slice E) xs).p s v↔SlV E s.w (zgh s) v xs:=
 ⟨fun ⟨_,hv,u,hc,h⟩=>by subst hc;subst hv;exact h,fun h=>⟨[v],rfl,v,rfl,h⟩⟩
theorem zcx {α:Type} (E:En α) (w:World) (S:Nat→Prop):SlV E w S (.slice none 0 0) ([]:List α):=⟨none,0,rfl,Nat.le_refl _,fun _=>rfl,Nat.zero_le _,fun h=>absurd rfl h⟩
def Pd.row {α:Type} (E:En α) (N:Nat) (te:TypeId) (og:Option Nat) (xs:List α):Pd:=
 ⟨fun s v=>v.ownBlock=og∧(∀g,og=some g→s.X g)∧xs.length≤lim∧∃css,Els E s.w (zgh s) css xs∧s.w.ownsRow N te E.sz v xs.length css.flatten,fun b=>og=some b,
  by
   rintro T s s' v h hb ⟨h1,h2,h3,css,h4,h5⟩
   refine ⟨h1,fun g hg=>(hb g hg).2 (h2 g hg),h3,css,⟨h4.1,fun i cs x a b=>E.go h (h4.2 i cs x a b)⟩,h5.1, ?_⟩
   rcases h5.2 with hn | ⟨g,cap,cur,e,hN,hg,rest⟩
   ·exact .inl hn
   ·subst e
    have hog:og=some g:=by rw [← h1];rfl
    refine .inr ⟨g,cap,cur,rfl,hN, ?_,rest⟩
    rw [h.blk g (Array.getElem?_eq_some_iff.1 hg).1 (hb g hog).1];exact hg⟩
theorem own_nil {α:Type} (E:En α) (N:Nat) (te:TypeId) (s:St):(Pd.row E N te none ([]:List α)).p s (.slice none 0 0):=by
 refine ⟨rfl, ?_,Nat.zero_le _,[],⟨rfl, ?_⟩,World.ownsRow_nil _ _ _ _⟩
 ·intro g h;cases h
 ·intro i cs x h;simp at h
theorem own_slV {α:Type} {E:En α} {N:Nat} {te:TypeId} {og:Option Nat} {xs:List α} {s s':St} {v:Value} (h:(Pd.row E N te og xs).p s v) (hw:s'.w=s.w)
  (hX:∀b,s'.X b→s.X b∧og≠some b):SlV E s'.w (zgh s') v xs:=by
 obtain ⟨h1,h2,h3,css,h4,h5⟩:=h;have hf:∀b,zgh s b→zgh s' b:=fun b hb=>⟨by rw [hw];exact hb.1,fun hx=>hb.2 (hX b hx).1⟩;have h4':Els E s'.w (zgh s') css xs:=⟨h4.1,fun i cs x a b=>by rw [hw];exact E.mono hf (h4.2 i cs x a b)⟩;rcases h5.2 with ⟨e,hn⟩ | ⟨g,cap,cur,e,hN,hg,hnc,hcm,hcs,ht⟩
 ·have:xs=[]:=List.eq_nil_of_length_eq_zero hn;subst this;rw [e];exact zcx E _ _
 ·subst e;refine ⟨some ⟨g,0,none⟩,cap,rfl,hnc,(fun e=>by cases e),h3,fun _=>⟨g,0,css,rfl,⟨?_,fun hx=>(hX g hx).2 (by rw [← h1];rfl)⟩,h4',fun j u hu=>?_⟩⟩
  ·rw [hw];exact (Array.getElem?_eq_some_iff.1 hg).1
  ·rw [hw,Nat.zero_add,cell_of_row s.w g j cur te (0,0) hg];rw [← ht,List.getElem?_take] at hu;split at hu
   ·simpa using hu
   ·cases hu
section
variable {P : Program} {ops : Array Oper} {o : Oper} {L : Lst}
theorem zi2 {α:Type} {E:En α} {xs:List α} {y:Operand} {t te:TypeId} (hy:Opn L y (Pd.rep (En.slice E) xs)) (ht:P.underlying t=some (.slice te)) (ho:o.op = .call { callee:=.builtin .len,args:=#[y],argTypes:=#[t] }) (hg:o.guard=none):
  T P ops o L (Pd.rep (En.int .i64) xs.length):=
 T.pure hg fun M n s0 ac s hL=>by
  obtain ⟨ad,cap,hv,h1,h2,h3,h4⟩:=zbx.1 (hy M n s0 ac s hL);refine ⟨.int .i64 xs.length, ?_,zbf.2 ⟨rfl, ?_⟩⟩
  ·unfold execOp;rw [ho];simp [resolve,invoke,builtin,hv,Builtin.len_,run_underlying ht,goInt]
  ·simp only [lim] at h3;simp [InR,IntKind.min,IntKind.max,IntKind.signed,IntKind.bits];omega
theorem t_leno {α:Type} {E:En α} {xs:List α} {N te og} {y:Operand} {t te':TypeId} (hy:Opn L y (Pd.row E N te og xs)) (ht:P.underlying t=some (.slice te')) (ho:o.op = .call { callee:=.builtin .len,args:=#[y],argTypes:=#[t] }) (hg:o.guard=none):
  T P ops o L (Pd.rep (En.int .i64) xs.length):=
 T.pure hg fun M n s0 ac s hL=>by
  obtain ⟨h1,h2,h3,css,h4,h5⟩:=hy M n s0 ac s hL;refine ⟨.int .i64 xs.length, ?_,zbf.2 ⟨rfl, ?_⟩⟩
  ·have hv:∃ad cap,ac.eval y = .slice ad xs.length cap:=by
    rcases h5.2 with ⟨e,hn⟩ | ⟨g,cap,cur,e,_⟩
    ·exact ⟨none,0,by rw [e,hn]⟩
    ·exact ⟨_,_,e⟩
   obtain ⟨ad,cap,hv⟩:=hv;unfold execOp;rw [ho];simp [resolve,invoke,builtin,hv,Builtin.len_,run_underlying ht,goInt]
  ·simp only [lim] at h3;simp [InR,IntKind.min,IntKind.max,IntKind.signed,IntKind.bits];omega
theorem zkb {α:Type} {E:En α} {xs:List α} {e:α} {k:IntKind} {i:Int} {x y:Operand} {t te:TypeId} (hx:Opn L x (Pd.rep (En.slice E) xs)) (hy:Opn L y (Pd.rep (En.int k) i)) (he:at? xs i=some e)
  (ht:P.underlying t=some (.slice te)) (hE:Ty P te E) (ho:o.op = .indexAddr t x y) (hg:o.guard=none):T P ops o L (Pd.ptr E e):=
 T.pure hg fun M n s0 ac s hL=>by
  obtain ⟨ad,cap,hv,h1,h2,h3,h4⟩:=zbx.1 (hx M n s0 ac s hL);have hi:=(zbf.1 (hy M n s0 ac s hL)).1;unfold at? at he;split at he
  case isFalse=>cases he
  rename_i h0
  have hlt:i.toNat<xs.length:=(List.getElem?_eq_some_iff.1 he).1;obtain ⟨b,off,css,e1,hb,hEl,hc⟩:=h4 (by intro h;simp [h] at hlt);obtain ⟨cs,hcs⟩:∃cs,css[i.toNat]?=some cs:=⟨css[i.toNat]'(by rw [hEl.1];exact hlt),by simp⟩;refine ⟨.pointer (some ⟨b,off+i.toNat*E.sz,none⟩), ?_,b,off+i.toNat*E.sz,cs,rfl,hb, ?_,hEl.2 _ _ _ hcs he⟩
  ·unfold execOp;rw [ho];simp only [hv,hi,Instr.indexAt,asIntOf,Sem.run_bind,Sem.run_pure,Result.andThen_ok,run_underlying ht,e1];rw [if_pos (by omega)];simp [zbw hE,zfr]
  ·intro j u hu;rw [Nat.add_assoc];exact hc _ u (zlj hEl.lens hcs hu)
theorem zea {α:Type} {E:En α} {xs:List α} {e:α} {k:IntKind} {i:Int} {N:Nat} {og:Option Nat} {x y:Operand} {t te te':TypeId} (hx:Opn L x (Pd.row E N te' og xs)) (hy:Opn L y (Pd.rep (En.int k) i)) (he:at? xs i=some e)
  (ht:P.underlying t=some (.slice te)) (hE:Ty P te E) (ho:o.op = .indexAddr t x y) (hg:o.guard=none):T P ops o L (Pd.optr E N og (i.toNat*E.sz) e):=
 T.pure hg fun M n s0 ac s hL=>by
  obtain ⟨h1,h2,h3,css,h4,h5⟩:=hx M n s0 ac s hL;have hi:=(zbf.1 (hy M n s0 ac s hL)).1;unfold at? at he;split at he
  case isFalse=>cases he
  rename_i h0
  have hlt:i.toNat<xs.length:=(List.getElem?_eq_some_iff.1 he).1;rcases h5.2 with ⟨e',hn⟩ | ⟨g',cap,cur,ev,hN,hgb,hnc,hcm,hcs',htk⟩
  ·omega
  ·have hgg:og=some g':=by rw [← h1,ev];rfl
   obtain ⟨cs,hcs⟩:∃cs,css[i.toNat]?=some cs:=⟨css[i.toNat]'(by rw [h4.1];exact hlt),by simp⟩;refine ⟨.pointer (some ⟨g',i.toNat*E.sz,none⟩), ?_,g',hgg,rfl,hN,(Array.getElem?_eq_some_iff.1 hgb).1,h2 _ hgg,cs, ?_,h4.2 _ _ _ hcs he⟩
   ·unfold execOp;rw [ho];simp only [ev,hi,Instr.indexAt,asIntOf,Sem.run_bind,Sem.run_pure,Result.andThen_ok,run_underlying ht];rw [if_pos (by omega)];simp [zbw hE,zfr]
   ·intro j u hu;have hf:=zlj h4.lens hcs hu;rw [cell_of_row s.w g' _ cur te' (0,0) hgb];rw [← htk,List.getElem?_take] at hf;split at hf
    ·simpa using hf
    ·cases hf
theorem En.psh {α:Type} (E:En α) {s:St} {ob:Obj} {cs:List Value} {x:α} (h:E.R s.w (zgh s) cs x):E.R (s.push ob).w (zgh (s.push ob)) cs x:=E.go (Ex.push s ob).mv h
theorem zpd (s:St) (cs:List Value) (t:TypeId):ze2 (s.push (.cells cs.toArray t)).w s.w.heap.size 0 cs:=
 zd8 (w:=(s.push (.cells cs.toArray t)).w) (t:=t) (fr:=(0,0)) (heap_alloc_new s.w _)
theorem zgd {α:Type} {E:En α} {x:α} {y:Operand} {t:TypeId} (hy:Opn L y (Pd.rep E x)) (ho:o.op = .box t y) (hg:o.guard=none):T P ops o L (Pd.ptr E x):=
 T.mk hg fun M n s0 ac s hL=>by
  obtain ⟨cs,hv,hR⟩:=hy M n s0 ac s hL;refine ⟨.pointer (some ⟨s.w.heap.size,0,none⟩),s.push (.cells cs.toArray t), ?_,Ex.push s _,s.w.heap.size,0,cs,rfl,⟨by simp [St.push],fun h=>by have:=s.lt _ h;omega⟩,zpd s cs t,E.psh hR⟩;unfold execOp;rw [ho];simp only [hv,Instr.box,newVar,newRow,En.val_cells hR,Sem.run_bind,run_newObj,Result.andThen_ok,Sem.run_pure];rfl
end
end
end Go.Proofs.YtjdaaiodniicoaaGreatDoor.V
namespace Go.Proofs.YtjdaaiodniicoaaGreatDoor.V
open Go
set_option linter.unusedVariables false
section
variable {u : Bool} [Dr u]
structure Ef (T:Nat→Prop) (s s':St):Prop where
 mv:Mv T s s'
 keep:∀b,s.X b→¬ T b→s'.X b
theorem Ex.ef {s s':St} (e:Ex s s') (T:Nat→Prop) (h:∀b,T b→s.X b):Ef T s s':=
 ⟨⟨e.mv.dr,e.mv.os,e.mv.tape,e.mv.output,e.mv.size,fun b hb _=>e.mv.blk b hb id,h,e.mv.xx⟩,fun b hb _=>e.keep b hb⟩
theorem Ef.ex {M T:Nat→Prop} {s0 s s':St} (h:Fr M s0 s) (e:Ef T s s') (hT:∀b,T b→s0.w.heap.size≤b):Fr M s0 s':=
 ⟨⟨h.mv.dr.trans e.mv.dr,e.mv.os.trans h.mv.os,e.mv.tape.trans h.mv.tape,e.mv.output.trans h.mv.output,Nat.le_trans h.mv.size e.mv.size,
  fun b hb hn=>(e.mv.blk b (Nat.lt_of_lt_of_le hb h.mv.size) (fun ht=>by have:=hT b ht;omega)).trans (h.mv.blk b hb hn),h.mv.tx,
  fun b hb=>(e.mv.xx b hb).elim (fun j=>h.mv.xx b j) (fun j=>.inr (Nat.le_trans h.mv.size j))⟩,
  fun b hb=>e.keep b (h.keep b hb) (fun ht=>by have:=hT b ht;have:=s0.lt b hb;omega)⟩
def Kp (T:Nat→Prop) (L L':Lst):Prop:=∀t q,lk L' t=some q→q=Pd.any∨lk L t=some q∧∀b,q.own b→¬ T b
theorem zil {d:Nat} {q:Pd} {L:Lst} {t:Nat}:lk ((d,q)::L) t=if d=t then some q else lk L t:=by
 rw [lk]
 by_cases h:d=t
 ·subst h;simp
 ·rw [zhd h,if_neg h];rfl
theorem Kp.nil {T:Nat→Prop} {L:Lst}:Kp T L []:=fun t q h=>by cases h
theorem Kp.cons {T:Nat→Prop} {L:Lst} {t:Nat} {q:Pd} {r:Lst} (hl:lk L t=some q) (hq:∀b,q.own b→¬ T b) (hr:Kp T L r):Kp T L ((t,q)::r):=fun d p h=>by
 rw [zil] at h;split at h
 ·rename_i e;cases h;subst e;exact .inr ⟨hl,hq⟩
 ·exact hr d p h
theorem Kp.k {T:Nat→Prop}{L:Lst}(t:Nat){q:Pd}{r:Lst}(hr:Kp T L r)(hl:lk L t=some q:=by exact rfl)(hq:∀b,q.own b→¬T b:=by exact nE):Kp T L ((t,q)::r):=.cons hl hq hr
theorem Kp.a0 {T:Nat→Prop}:Kp T [] []:=.nil
theorem Kp.ak {T:Nat→Prop} {L L':Lst} {t:Nat} {q:Pd} (hq:∀b,q.own b→¬ T b) (h:Kp T L L'):Kp T ((t,q)::L) ((t,q)::L'):=fun d p e=>by
 rw [zil] at e ⊢;split at e
 ·rename_i e';cases e;exact .inr ⟨if_pos e',hq⟩
 ·rename_i e';rw [if_neg e'];exact h d p e
theorem Kp.ad {T:Nat→Prop} {L L':Lst} {t:Nat} {q:Pd} (h:Kp T L L'):Kp T ((t,q)::L) ((t,Pd.any)::L'):=fun d p e=>by
 rw [zil] at e ⊢;split at e
 ·cases e;exact .inl rfl
 ·rename_i e';rw [if_neg e'];exact h d p e
theorem Kp.p {T:Nat→Prop} {L L':Lst} (h:Kp T L L') {s s':St} {a:Act} (hL:∀t q,lk L t=some q→q.p s (a.eval (.tmp t))) (m:∀(q:Pd) v,(∀b,q.own b→¬ T b)→q.p s v→q.p s' v):∀t q,lk L' t=some q→q.p s' (a.eval (.tmp t)):=fun t q hl=>
 (h t q hl).elim (fun e=>by subst e;trivial) fun ⟨h1,h2⟩=>m q _ h2 (hL t q h1)
theorem Has.ef {M:Nat→Prop} {n:Nat} {s0:St} {a:Act} {s s':St} {L L':Lst} {T:Nat→Prop} (h:Has M n s0 a s L) (e:Ef T s s') (hT:∀b,T b→s0.w.heap.size≤b) (hk:Kp T L L'):Has M n s0 a s' L' where
 size:=h.size
 defers:=h.defers
 ent:=e.ex h.ent hT
 gl:=h.gl
 at_:=hk.p h.at_ fun q v h2=>q.mv e.mv fun b hb=>⟨h2 b hb,fun hx=>e.keep b hx (h2 b hb)⟩
theorem Ef.exm {M T:Nat→Prop} {s0 s s':St} (h:Fr M s0 s) (e:Ef T s s') (hT:∀b,T b→M b) (hk:∀b,s.X b→s'.X b):Fr M s0 s':=
 ⟨⟨h.mv.dr.trans e.mv.dr,e.mv.os.trans h.mv.os,e.mv.tape.trans h.mv.tape,e.mv.output.trans h.mv.output,Nat.le_trans h.mv.size e.mv.size,
  fun b hb hn=>(e.mv.blk b (Nat.lt_of_lt_of_le hb h.mv.size) (fun ht=>hn (hT b ht))).trans (h.mv.blk b hb hn),h.mv.tx,
  fun b hb=>(e.mv.xx b hb).elim (fun j=>h.mv.xx b j) (fun j=>.inr (Nat.le_trans h.mv.size j))⟩,fun b hb=>hk b (h.keep b hb)⟩
theorem Has.efm {M:Nat→Prop} {n:Nat} {s0:St} {a:Act} {s s':St} {L L':Lst} {T:Nat→Prop} (h:Has M n s0 a s L) (e:Ef T s s') (hT:∀b,T b→M b) (hX:∀b,s.X b→s'.X b) (hk:Kp T L L'):Has M n s0 a s' L' where
 size:=h.size
 defers:=h.defers
 ent:=e.exm h.ent hT hX
 gl:=h.gl
 at_:=hk.p h.at_ fun q v h2=>q.mv e.mv fun b hb=>⟨h2 b hb,fun hx=>e.keep b hx (h2 b hb)⟩
theorem Has.efw {M:Nat→Prop} {n:Nat} {s0:St} {a:Act} {s s':St} {L L':Lst} {T:Nat→Prop} (h:Has M n s0 a s L) (e:Ef T s s') (hT:(∀b,T b→s0.w.heap.size≤b)∨∀b,T b→M b) (hX:∀b,s.X b→s'.X b) (hk:Kp T L L'):Has M n s0 a s' L':=
 hT.elim (fun hT=>h.ef e hT hk) (fun hT=>h.efm e hT hX hk)
def Kw (T:Nat→Prop) (L:Lst) (q q':Pd) (L':Lst):Prop:=∀t r,lk L' t=some r→(r=Pd.any∨lk L t=some r∧∀b,r.own b→¬ T b)∨r=q'∧lk L t=some q
section
variable {T : Nat → Prop} {L : Lst} {q q' : Pd} {t : Nat} {r : Pd} {l : Lst}
theorem Kw.nil:Kw T L q q' []:=fun t q h=>by cases h
theorem Kw.cons (hl:lk L t=some r) (hq:∀b,r.own b→¬ T b) (hr:Kw T L q q' l):Kw T L q q' ((t,r)::l):=fun d p h=>by
 rw [zil] at h;split at h
 ·rename_i e;cases h;subst e;exact .inl (.inr ⟨hl,hq⟩)
 ·exact hr d p h
theorem Kw.k {T:Nat→Prop}{L:Lst}{q q':Pd}(t:Nat){r:Pd}{l:Lst}(hr:Kw T L q q' l)(hl:lk L t=some r:=by exact rfl)(hq:∀b,r.own b→¬T b:=by exact nE):Kw T L q q' ((t,r)::l):=.cons hl hq hr
theorem Kw.turn (hl:lk L t=some q) (hr:Kw T L q q' l):Kw T L q q' ((t,q')::l):=fun d p h=>by
 rw [zil] at h;split at h
 ·rename_i e;cases h;subst e;exact .inr ⟨rfl,hl⟩
 ·exact hr d p h
theorem Kw.a0:Kw T [] q q' []:=.nil
theorem Kw.ak (hq:∀b,r.own b→¬ T b) (h:Kw T L q q' l):Kw T ((t,r)::L) q q' ((t,r)::l):=fun d p e=>by
 rw [zil] at e ⊢;split at e
 ·rename_i e';cases e;exact .inl (.inr ⟨if_pos e',hq⟩)
 ·rename_i e';rw [if_neg e'];exact h d p e
theorem Kw.ad (h:Kw T L q q' l):Kw T ((t,r)::L) q q' ((t,Pd.any)::l):=fun d p e=>by
 rw [zil] at e ⊢;split at e
 ·cases e;exact .inl (.inl rfl)
 ·rename_i e';rw [if_neg e'];exact h d p e
theorem Kw.aw (h:Kw T L q q' l):Kw T ((t,q)::L) q q' ((t,q')::l):=fun d p e=>by
 rw [zil] at e ⊢;split at e
 ·rename_i e';cases e;exact .inr ⟨rfl,if_pos e'⟩
 ·rename_i e';rw [if_neg e'];exact h d p e
end
theorem Has.turn {M:Nat→Prop} {n:Nat} {s0:St} {a:Act} {s s':St} {L L':Lst} {T:Nat→Prop} {q q':Pd} (h:Has M n s0 a s L) (e:Ef T s s') (hT:(∀b,T b→s0.w.heap.size≤b)∨∀b,T b→M b) (hX:∀b,s.X b→s'.X b) (hk:Kw T L q q' L')
  (ht:∀v,q.p s v→q'.p s' v):Has M n s0 a s' L':=
 (h.efw e hT hX .nil).sub fun t r hl=>(hk t r hl).elim (fun h1=>h1.elim (fun e=>by subst e;trivial) fun ⟨h1,h2⟩=>r.mv e.mv (fun b hb=>⟨h2 b hb,fun hx=>e.keep b hx (h2 b hb)⟩) (h.at_ t r h1)) fun ⟨h1,h2⟩=>by subst h1;exact ht _ (h.at_ t q h2)
theorem Has.put' {M:Nat→Prop} {n:Nat} {s0:St} {a:Act} {s:St} {L:Lst} (h:Has M n s0 a s L) {d:Nat} (hd:Nat.blt d n=true) {v:Value} {q:Pd} (hq:q.p s v):Has M n s0 (a.put (some d) v) s ((d,q)::L):=h.put (Ex.refl s) hd hq
theorem Has.keep {M:Nat→Prop} {n:Nat} {s0:St} {a:Act} {s:St} {L L':Lst} (h:Has M n s0 a s L) (hk:Kp (fun _=>False) L L'):Has M n s0 a s L':=h.sub (hk.p h.at_ fun _ _ _ h=>h)
theorem Has.freeze {α:Type} {E:En α} {te:TypeId} {og:Option Nat} {xs:List α} {M:Nat→Prop} {n:Nat} {s0:St} {a:Act} {s:St} {L L':Lst} (h:Has M n s0 a s L) (t:Nat) (hl:lk L t=some (Pd.row E s0.w.heap.size te og xs))
  (hk:Kp (fun b=>og=some b) L L'):∃s',s'.w=s.w∧Has M n s0 a s' ((t,Pd.rep (En.slice E) xs)::L'):=by
 have ho:=h.get t hl;have hlt:∀b,og=some b→s0.w.heap.size≤b:=by
  intro b hb;obtain ⟨h1,h2,h3,css,h4,h5⟩:=ho;exact (h5.lt b (by rw [h1];exact hb)).1
 refine ⟨⟨s.w,fun b=>s.X b∧og≠some b,fun b hb=>s.lt b hb.1⟩,rfl, ?_⟩;have e:Ef (fun b=>og=some b) s ⟨s.w,fun b=>s.X b∧og≠some b,fun b hb=>s.lt b hb.1⟩:=
  ⟨⟨DR.eq rfl,rfl,rfl,rfl,Nat.le_refl _,fun _ _ _=>rfl,fun b hb=>ho.2.1 b hb,fun b hb=>.inl hb.1⟩,fun b hb hn=>⟨hb,hn⟩⟩
 exact (h.ef e hlt hk).cons t (zbx.2 (own_slV ho rfl fun b hb=>hb))
section
variable {P : Program} {ops : Array Oper} {o : Oper} {L : Lst}
def spl (cells:List Value) (off:Nat) (cs:List Value):List Value:=cells.take off++cs++cells.drop (off+cs.length)
theorem zra {cells cs:List Value} {off:Nat} (h:off+cs.length≤cells.length):(spl cells off cs).length=cells.length:=by simp [spl];omega
theorem fill_step {place:Nat→Option (Nat × Nat)} {cells cs:List Value} {v:Value} {i off size:Nat} {rest:List (Nat × Value)} (hp:place i=some (off,size)) (hv:v.cells=cs.toArray) (hs:cs.length=size)
  (hl:off+size≤cells.length):Instr.fill place cells.toArray ((i,v)::rest)=Instr.fill place (spl cells off cs).toArray rest:=by
 conv=>lhs;unfold Instr.fill
 simp only [hp,hv];rw [if_neg (by simp [hs];omega)]
 congr 1
 apply Array.ext_getElem?;intro j;rw [← Array.foldl_toList,Array.toList_zipIdx];have key:∀(l:List Value) (k:Nat) (acc:Array Value),off+k+l.length≤acc.size→(List.foldl (fun cs (x:Value × Nat)=>match x with | (c,j)=>cs.setIfInBounds (off+j) c) acc (l.zipIdx k))[j]?=if off+k≤j∧j<off+k+l.length then l[j-(off+k)]? else acc[j]?:=by
  intro l
  induction l with
  | nil=>intro k acc _;simp;omega
  | cons u r ih=>
   intro k acc hk;simp only [List.zipIdx_cons,List.foldl_cons];rw [ih (k+1) _ (by simp at hk ⊢;omega)]
   by_cases h1:off+(k+1)≤j∧j<off+(k+1)+r.length
   ·rw [if_pos h1,if_pos (by simp;omega),show j-(off+k)=(j-(off+(k+1)))+1 by omega];simp
   ·rw [if_neg h1]
    by_cases h2:j=off+k
    ·subst h2;rw [if_pos (by simp)];simp at hk;simp [show off+k<acc.size by omega]
    ·rw [if_neg (by simp;omega),Array.getElem?_setIfInBounds_ne (Ne.symm h2)]
 rw [key cs 0 cells.toArray (by simp;omega)];simp only [Nat.add_zero,spl,List.getElem?_toArray]
 by_cases h1:j<off
 ·rw [if_neg (by omega),List.append_assoc,List.getElem?_append_left (by simp;omega),List.getElem?_take,if_pos h1]
 ·by_cases h2:j<off+cs.length
  ·rw [if_pos (by omega),List.append_assoc,List.getElem?_append_right (by simp;omega),List.getElem?_append_left (by simp;omega)]
   congr 1;simp;omega
  ·rw [if_neg (by omega),List.getElem?_append_right (by simp;omega),List.getElem?_drop]
   congr 1;simp;omega
inductive OpL {α:Type} (E:En α) (L:Lst):List Operand→List α→Prop
 | nil:OpL E L [] []
 | cons {x:Operand} {e:α} {xs:List Operand} {es:List α}:Opn L x (Pd.rep E e)→OpL E L xs es→OpL E L (x::xs) (e::es)
theorem fill_row {α:Type} {E:En α} {M:Nat→Prop} {n:Nat} {s0:St} {ac:Act} {s:St} {L:Lst} (hL:Has M n s0 ac s L):∀{xs:List Operand} {es:List α},OpL E L xs es→∀(k:Nat) (pre:List Value) (cells:List Value),pre.length=k*E.sz→cells.length=(k+xs.length)*E.sz→cells.take (k*E.sz)=pre →
  ∃css,Els E s.w (zgh s) css es∧Instr.fill (fun i=>some (i*E.sz,E.sz)) cells.toArray ((xs.zipIdx k).map fun (x,i)=>(i,ac.eval x))=some (pre++css.flatten).toArray:=by
 intro xs es h
 induction h with
 | nil=>
  intro k pre cells hp hc ht;refine ⟨[],⟨rfl,by simp⟩, ?_⟩;simp only [List.zipIdx_nil,List.map_nil,Instr.fill,List.flatten_nil,List.append_nil];rw [← ht,List.take_of_length_le (by simp at hc;omega)]
 | cons hx _ ih=>
  rename_i x e xs es _
  intro k pre cells hp hc ht;obtain ⟨cs,hv,hR⟩:=hx M n s0 ac s hL;have hlen:=E.len hR;have hsz:k*E.sz+E.sz≤cells.length:=by rw [hc,← Nat.succ_mul];exact Nat.mul_le_mul_right _ (by simp)
  obtain ⟨css,hE,hf⟩:=ih (k+1) (pre++cs) (spl cells (k*E.sz) cs) (by simp [hp,hlen,Nat.succ_mul]) (by rw [zra (by omega),hc];congr 1;simp;omega) (by
   rw [spl,ht];rw [List.take_append_of_le_length (by simp [hp,hlen,Nat.succ_mul])];rw [List.take_of_length_le (by simp [hp,hlen,Nat.succ_mul])])
  refine ⟨cs::css,⟨by simp [hE.1], ?_⟩, ?_⟩
  ·intro i c y hi hy;cases i with
   | zero=>simp at hi hy;subst hi;subst hy;exact hR
   | succ i=>simp at hi hy;exact hE.2 i c y hi hy
  ·simp only [List.zipIdx_cons,List.map_cons];rw [fill_step (cs:=cs) (off:=k*E.sz) (size:=E.sz) rfl (by rw [hv];exact En.val_cells hR) hlen hsz,hf];simp
theorem run_lit {α:Type} {E:En α} {t te:TypeId} {xs:List Operand} {es:List α} (hx:OpL E L xs es) (ht:P.underlying t=some (.slice te)) (hE:Ty P te E) {k:Nat} {parts:Array (Nat × Operand)} (hk:k=xs.length) (hp:parts=(xs.zipIdx.map fun (x,i)=>(i,x)).toArray)
  (hs:k*E.sz≤16777216) (ho:o.op = .buildSlice t k parts) {M:Nat→Prop} {n:Nat} {s0:St} {ac:Act} {s:St} (hL:Has M n s0 ac s L):es.length=xs.length∧∃css,Els E s.w (zgh s) css es∧(execOp ac.eval o).run P s.w = .ok (.value (.slice (some ⟨s.w.heap.size,0,none⟩) es.length es.length)) (s.push (.cells css.flatten.toArray te)).w:=by
 obtain ⟨i,z,hi,he,hz,hzs,_⟩:=hE.info;have hlen:es.length=xs.length:=by clear hp hk hs ho;induction hx with | nil=>rfl | cons _ _ ih=>simp [ih]
 have hall:∀zero:Array Value,∃css,Els E s.w (zgh s) css es∧Instr.fill (fun i=>some (i*E.sz,E.sz)) ((Array.range (k*E.sz)).map (zero[· % zero.size]!)) (parts.map fun (i,x)=>(i,ac.eval x)).toList=some css.flatten.toArray:=by
  intro zero;obtain ⟨css,hEl,hf⟩:=fill_row hL hx 0 [] ((Array.range (k*E.sz)).map (zero[· % zero.size]!)).toList (by simp) (by simp [hk]) (by simp)
  refine ⟨css,hEl, ?_⟩;have e1:(parts.map fun (i,x)=>(i,ac.eval x)).toList=(xs.zipIdx 0).map fun (x,i)=>(i,ac.eval x):=by rw [hp];simp
  rw [e1];rw [Array.toArray_toList,List.nil_append] at hf;exact hf
 have hfin:∃css,Els E s.w (zgh s) css es∧(execOp ac.eval o).run P s.w = .ok (.value (.slice (some ⟨s.w.heap.size,0,none⟩) es.length es.length)) (s.push (.cells css.flatten.toArray te)).w:=by
  by_cases h:k*E.sz=0
  ·obtain ⟨css,hEl,hf⟩:=hall #[];refine ⟨css,hEl, ?_⟩;unfold execOp;rw [ho];simp only [Instr.buildSlice,Sem.run_bind,run_underlying ht,Result.andThen_ok,zbw hE];rw [if_neg (by omega),if_pos h];simp only [Sem.run_bind,Sem.run_pure,Result.andThen_ok];rw [hf];simp [newRow,St.push,hlen,hk]
  ·obtain ⟨css,hEl,hf⟩:=hall z.cells;refine ⟨css,hEl, ?_⟩;unfold execOp;rw [ho];simp only [Instr.buildSlice,Sem.run_bind,run_underlying ht,Result.andThen_ok,zbw hE];rw [if_neg (by omega),if_neg h];have hzr:(zeroValue te).run P s.w = .ok z s.w:=by simp [zeroValue,typeInfo,hi,hz]
   simp only [Sem.run_bind,hzr,Sem.run_pure,Result.andThen_ok];rw [hf];simp [newRow,St.push,hlen,hk]
 exact ⟨hlen,hfin⟩
theorem zn1 {α:Type} {E:En α} {t te:TypeId} {xs:List Operand} {es:List α} (hx:OpL E L xs es) (ht:P.underlying t=some (.slice te)) (hE:Ty P te E) {k:Nat} {parts:Array (Nat × Operand)} (hk:k=xs.length) (hp:parts=(xs.zipIdx.map fun (x,i)=>(i,x)).toArray)
  (hs:k*E.sz≤16777216) (ho:o.op = .buildSlice t k parts) (hg:o.guard=none):T P ops o L (Pd.rep (En.slice E) es):=
 T.mk hg fun M n s0 ac s hL=>by
  obtain ⟨hlen,css,hEl,hr⟩:=run_lit hx ht hE hk hp hs ho hL;refine ⟨_,_,hr,Ex.push s _,zbx.2 ⟨some ⟨s.w.heap.size,0,none⟩,es.length,rfl,Nat.le_refl _,(fun h=>by cases h), ?_,fun _=>⟨s.w.heap.size,0,css,rfl,⟨by simp [St.push],fun h=>by have:=s.lt _ h;omega⟩,⟨hEl.1,fun i cs x a b=>E.psh (hEl.2 i cs x a b)⟩,zpd s _ te⟩⟩⟩;rw [hlen,← hk];have:k≤k*E.sz:=Nat.le_mul_of_pos_right k E.pos;simp only [lim];omega
theorem ziw {α:Type} {E:En α} {N:Nat} {te:TypeId} {og:Option Nat} {xs:List α} {s:St} {v:Value} (h:(Pd.row E N te og xs).p s v):∀b,og=some b→N≤b∧b<s.w.heap.size:=by
 obtain ⟨h1,h2,h3,css,h4,h5⟩:=h;intro b hb;exact h5.lt b (by rw [h1];exact hb)
theorem Els.append {α:Type} {E:En α} {w S css dss} {xs ys:List α} (h:Els E w S css xs) (k:Els E w S dss ys):Els E w S (css++dss) (xs++ys):=by
 refine ⟨by simp [h.1,k.1],fun i cs x hi hx=>?_⟩
 by_cases hlt:i<css.length
 ·rw [List.getElem?_append_left hlt] at hi;rw [List.getElem?_append_left (by rw [← h.1];exact hlt)] at hx;exact h.2 i cs x hi hx
 ·rw [List.getElem?_append_right (by omega)] at hi;rw [List.getElem?_append_right (by rw [← h.1];omega),← h.1] at hx;exact k.2 _ cs x hi hx
theorem Els.go {α:Type} {E:En α} {T:Nat→Prop} {s s':St} {css:List (List Value)} {xs:List α} (h:Mv T s s') (hE:Els E s.w (zgh s) css xs):Els E s'.w (zgh s') css xs:=⟨hE.1,fun i cs x a b=>E.go h (hE.2 i cs x a b)⟩
end
end
section
variable {P : Program} {ops : Array Oper} {o : Oper} {L : Lst}
theorem run_appB {α:Type} {E:En α} {t te:TypeId} (ht:P.underlying t=some (.slice te)) (hE:Ty P te E) {N:Nat} {og:Option Nat} {xs ys:List α} {s:St} {v u:Value} (hv:(Pd.row E N te og xs).p s v) (hu:SlV E s.w (zgh s) u ys)
  (hN:N≤s.w.heap.size) (m:Nat) (hm:0<m) (hbm:∃i,P.info? te=some i∧i.bytes≤m) (hlen:(xs.length+ys.length)*m≤140737488355328) (ty:TypeId):∃v' s' og',(Builtin.append_ #[t,t] ty #[v,u]).run P s.w = .ok v' s'.w∧Ef (fun b=>og=some b) s s'∧(Pd.row E N te og' (xs++ys)).p s' v' ∧
   (∀b,og'=some b→og=some b∨s.w.heap.size≤b):=by
 obtain ⟨i,z,hi,hsz,hz,hzs,_⟩:=hE.info;have hby:i.bytes≤m:=by
  obtain ⟨i',h1,h2⟩:=hbm;rw [hi] at h1;cases h1;exact h2
 have hle:xs.length+ys.length≤140737488355328:=Nat.le_trans (Nat.le_mul_of_pos_right _ hm) hlen;have hby0:(xs.length+ys.length)*i.bytes≤140737488355328:=Nat.le_trans (Nat.mul_le_mul (Nat.le_refl _) hby) hlen;obtain ⟨h1,h2,h3,css,h4,h5⟩:=hv;obtain ⟨ad,cap,rfl,hc1,hc2,hc3,hc4⟩:=hu;clear hlen hm hbm
 by_cases hys:ys=[]
 ·-- nothing is appended
  subst hys
  by_cases had:ad=none
  ·subst had;have hcap:=hc2 rfl;subst hcap;refine ⟨v,s,og,run_append_owned_none (P:=P) (w:=s.w) N t ty te i E.sz ht hi v xs.length css.flatten h5,⟨Mv.refl _ s fun b hb=>h2 b hb,fun b hb _=>hb⟩, ?_,fun b hb=>.inl hb⟩;rw [List.append_nil];exact ⟨h1,h2,h3,css,h4,h5⟩
  ·obtain ⟨a,rfl⟩:∃a,ad=some a:=by cases ad with | none=>exact absurd rfl had | some a=>exact ⟨a,rfl⟩
   obtain ⟨v',w',hr,ho,hg,hnil⟩:=run_append_own (P:=P) s.w N t ty te i z E.sz i.bytes ht hi hz hsz rfl hzs E.pos v xs.length css.flatten h5 a 0 cap [] (by simp) (by simp) (by simp) (by simp [maxLen];omega) (by simpa using hby0) hN;have hvv:v'.ownBlock=v.ownBlock:=by
    rcases h5.2 with ⟨rfl,hn⟩ | ⟨g,cp,cur,rfl,_,hgb,hnc,hcm,hcs,htk⟩
    ·rw [hnil.2 ⟨rfl,rfl⟩]
    ·have hrr:=run_append_room (P:=P) s.w t ty te i ht hi g xs.length cp cur hgb a 0 cap [] (by simp) (by simp) (by simp) (by omega) (by rw [hcs,hsz];simp;exact Nat.mul_le_mul_right _ hnc);rw [hrr] at hr;cases hr;rfl
   have hog:v'.ownBlock=og:=hvv.trans h1;have hmv:Mv (fun b=>og=some b) s ⟨w',s.X,fun b hb=>Nat.lt_of_lt_of_le (s.lt b hb) hg.size⟩:=
    ⟨DR.kit,hg.os,hg.tape,hg.output,hg.size,fun b hb hn=>hg.block b hb (fun e=>hn (by rw [← h1];exact e.symm)),fun b hb=>h2 b hb,fun b hb=>.inl hb⟩
   refine ⟨v',⟨w',s.X,fun b hb=>Nat.lt_of_lt_of_le (s.lt b hb) hg.size⟩,og,hr,⟨hmv,fun b hb _=>hb⟩,⟨hog,h2,by simpa using h3,css,by rw [List.append_nil];exact h4.go hmv,by simpa using ho⟩,fun b hb=>.inl hb⟩
 ·obtain ⟨b,off,dss,rfl,hb,hD,hcell⟩:=hc4 hys;have hpos:0<ys.length:=List.length_pos_iff.2 hys;have hdl:dss.flatten.length=ys.length*E.sz:=by rw [zhc hD.lens,hD.1]
  have hone:∀u∈dss.flatten,u.oneCell'=true:=by
   intro u hu;rw [List.mem_flatten] at hu;obtain ⟨cs,hcs,hu⟩:=hu;obtain ⟨j,hj⟩:=List.getElem?_of_mem hcs;have hlt:j<dss.length:=(List.getElem?_eq_some_iff.1 hj).1;exact E.one (hD.2 j cs (ys[j]'(hD.1 ▸ hlt)) hj (by simp)) u hu
  have hby':=hby0;have hnews:∀j u,dss.flatten[j]?=some u→s.w.cell? ((⟨b,off,none⟩:Addr).add j)=some u:=fun j u hu=>by rw [zfr];exact hcell j u hu
  obtain ⟨v',w',hr,ho,hg,hnil⟩:=run_append_own (P:=P) s.w N t ty te i z E.sz i.bytes ht hi hz hsz rfl hzs E.pos v xs.length css.flatten h5 ⟨b,off,none⟩ ys.length cap dss.flatten hdl hnews hone (by simp [maxLen];omega) hby' hN;have hfresh:∀g,v'.ownBlock=some g→og=some g∨s.w.heap.size=g:=by
   intro g hgv;rcases h5.2 with ⟨rfl,hn⟩ | ⟨g',cp,cur,rfl,_,hgb,hnc,hcm,hcs,htk⟩
   ·have hrr:=run_append_nil (P:=P) s.w t ty te i z ht hi hz ⟨b,off,none⟩ ys.length cap dss.flatten (by rw [hsz];exact hdl) hnews hpos (by omega) (by
     have:ys.length*i.bytes≤(xs.length+ys.length)*i.bytes:=Nat.mul_le_mul_right _ (by omega);omega)
    rw [hrr] at hr;cases hr;simp [Value.ownBlock] at hgv;exact .inr hgv
   ·by_cases hroom:xs.length+ys.length≤cp
    ·have hrr:=run_append_room (P:=P) s.w t ty te i ht hi g' xs.length cp cur hgb ⟨b,off,none⟩ ys.length cap dss.flatten (by rw [hsz];exact hdl) hnews hone hroom (by rw [hcs,hsz,hdl,← Nat.add_mul];exact Nat.mul_le_mul_right _ hroom);rw [hrr] at hr;cases hr;left;rw [← h1];exact hgv
    ·have hrr:=run_append_grow (P:=P) s.w t ty te i z ht hi hz ⟨g',0,none⟩ xs.length cp css.flatten (by rw [hsz];exact h5.1) (h5.cells (g:=g') rfl) ⟨b,off,none⟩ ys.length cap dss.flatten (by rw [hsz];exact hdl) hnews (by omega) (by omega) (growslice_fits (by omega) hby');rw [hrr] at hr;cases hr;simp [Value.ownBlock] at hgv;exact .inr hgv
  have hlt:∀g,v'.ownBlock=some g→g<w'.heap.size:=fun g hgv=>(ho.lt g hgv).2;have hmv:Mv (fun b=>og=some b) s ⟨w',fun b=>(s.X b∧og≠some b)∨v'.ownBlock=some b,fun b hb=>hb.elim (fun h=>Nat.lt_of_lt_of_le (s.lt b h.1) hg.size) (hlt b)⟩:=
   ⟨DR.kit,hg.os,hg.tape,hg.output,hg.size,fun b hb hn=>hg.block b hb (fun e=>hn (by rw [← h1];exact e.symm)),fun b hb=>h2 b hb,
    fun b hb=>hb.elim (fun h=>.inl h.1) (fun h=>(hfresh b h).elim (fun h=>.inl (h2 b h)) (fun h=>.inr (Nat.le_of_eq h)))⟩
  refine ⟨v',_,v'.ownBlock,hr,⟨hmv,fun b hb hn=>.inl ⟨hb,hn⟩⟩,⟨rfl,fun g hg=>.inr hg, ?_,css++dss,(h4.go hmv).append (hD.go hmv), ?_⟩,fun g hg=>(hfresh g hg).imp id (fun h=>Nat.le_of_eq h)⟩
  ·simp only [List.length_append,lim];omega
  ·simpa using ho
theorem run_app {α:Type} {E:En α} {t te:TypeId} (ht:P.underlying t=some (.slice te)) (hE:Ty P te E) {N:Nat} {og:Option Nat} {xs ys:List α} {s:St} {v u:Value} (hv:(Pd.row E N te og xs).p s v) (hu:SlV E s.w (zgh s) u ys)
  (hN:N≤s.w.heap.size) (hlen:xs.length+ys.length≤2147483648) (ty:TypeId):∃v' s' og',(Builtin.append_ #[t,t] ty #[v,u]).run P s.w = .ok v' s'.w∧Ef (fun b=>og=some b) s s'∧(Pd.row E N te og' (xs++ys)).p s' v' ∧
   (∀b,og'=some b→og=some b∨s.w.heap.size≤b):=by
 obtain ⟨i,z,hi,hsz,hz,hzs,hby⟩:=hE.info;exact run_appB ht hE hv hu hN 65536 (by decide) ⟨i,hi,hby⟩ (by omega) ty
theorem zdx {Q:Exit→Act→World→Prop} {rest:List Oper} {M:Nat→Prop} {n:Nat} {s0:St} {a:Act} {s:St} {α:Type} {E:En α} {te t:TypeId} {og:Option Nat} {xs ys:List α} {x y:Operand} {L':Lst} (d:Nat)
  (hL:Has M n s0 a s L) (hx:Opn L x (Pd.row E s0.w.heap.size te og xs)) (hy:Opn L y (Pd.rep (En.slice E) ys)) (ht:P.underlying t=some (.slice te)) (hE:Ty P te E) (hlen:xs.length+ys.length≤2147483648)
  (ho:o.op = .call { callee:=.builtin .append,args:=#[x,y],argTypes:=#[t,t] }) (hg:o.guard=none) (hd:o.dst=some d) (hn:Nat.blt d n=true) (hk:Kp (fun b=>og=some b) L L')
  (k:∀a' s' og',(∀b,og'=some b→og=some b∨s.w.heap.size≤b)→Has M n s0 a' s' ((d,Pd.row E s0.w.heap.size te og' (xs++ys))::L')→wpList P ops Q rest a' s'.w):wpList P ops Q (o::rest) a s.w:=by
 have h1:=hx M n s0 a s hL;have h2:=zbx.1 (hy M n s0 a s hL);obtain ⟨v',s',og',hr,e,hq,hf⟩:=run_app ht hE h1 h2 hL.ent.mv.size hlen o.type;refine wpList_plain hg fun K hK=>?_;unfold Oper.wp execOp;simp only [ho,resolve,invoke,builtin,Sem.run_bind,Sem.run_pure,Result.andThen_ok,List.map_toArray,List.map_cons,List.map_nil,hr];refine hK _ _ ?_;simp only [hd];exact k _ s' og' hf ((hL.ef e (fun b hb=>(ziw h1 b hb).1) hk).put' hn hq)
theorem st_appB {Q:Exit→Act→World→Prop} {rest:List Oper} {M:Nat→Prop} {n:Nat} {s0:St} {a:Act} {s:St} {α:Type} {E:En α} {te t:TypeId} {og:Option Nat} {xs ys:List α} {x y:Operand} {L':Lst} (d m:Nat)
  (hL:Has M n s0 a s L) (hx:Opn L x (Pd.row E s0.w.heap.size te og xs)) (hy:Opn L y (Pd.rep (En.slice E) ys)) (ht:P.underlying t=some (.slice te)) (hE:Ty P te E) (hm:0<m) (hbm:∃i,P.info? te=some i∧i.bytes≤m) (hlen:(xs.length+ys.length)*m≤140737488355328)
  (ho:o.op = .call { callee:=.builtin .append,args:=#[x,y],argTypes:=#[t,t] }) (hg:o.guard=none) (hd:o.dst=some d) (hn:Nat.blt d n=true) (hk:Kp (fun b=>og=some b) L L')
  (k:∀a' s' og',(∀b,og'=some b→og=some b∨s.w.heap.size≤b)→Has M n s0 a' s' ((d,Pd.row E s0.w.heap.size te og' (xs++ys))::L')→wpList P ops Q rest a' s'.w):wpList P ops Q (o::rest) a s.w:=by
 have h1:=hx M n s0 a s hL;have h2:=zbx.1 (hy M n s0 a s hL);obtain ⟨v',s',og',hr,e,hq,hf⟩:=run_appB ht hE h1 h2 hL.ent.mv.size m hm hbm hlen o.type;refine wpList_plain hg fun K hK=>?_;unfold Oper.wp execOp;simp only [ho,resolve,invoke,builtin,Sem.run_bind,Sem.run_pure,Result.andThen_ok,List.map_toArray,List.map_cons,List.map_nil,hr];refine hK _ _ ?_;simp only [hd];exact k _ s' og' hf ((hL.ef e (fun b hb=>(ziw h1 b hb).1) hk).put' hn hq)
end
section
variable {u : Bool} [Dr u]
section
variable {P : Program} {ops : Array Oper} {o : Oper} {L : Lst}
theorem st_new {Q:Exit→Act→World→Prop} {rest:List Oper} {M:Nat→Prop} {n:Nat} {s0:St} {a:Act} {s:St} {α:Type} (E:En α) {te t:TypeId} (d:Nat)
  (hL:Has M n s0 a s L) (ht:P.underlying t=some (.slice te)) (hE:Ty P te E) (ho:o.op = .buildSlice t 0 #[]) (hg:o.guard=none) (hd:o.dst=some d) (hn:Nat.blt d n=true)
  (k:∀a' s' g,s.w.heap.size≤g→Has M n s0 a' s' ((d,Pd.row E s0.w.heap.size te (some g) [])::L)→wpList P ops Q rest a' s'.w):wpList P ops Q (o::rest) a s.w:=by
 have hr:(execOp a.eval o).run P s.w = .ok (.value (.slice (some ⟨s.w.heap.size,0,none⟩) 0 0)) (s.w.alloc (.cells ((Array.range (0*E.sz)).map ((#[]:Array Value)[· % 0]!)) te)):=by
  unfold execOp;rw [ho];simp only [Instr.buildSlice,Sem.run_bind,run_underlying ht,Result.andThen_ok,zbw hE];rw [if_neg (by omega),if_pos (by omega)];simp [Instr.fill,newRow]
 have hz:(Array.range (0*E.sz)).map ((#[]:Array Value)[· % 0]!) = #[]:=by rw [Nat.zero_mul];exact Array.eq_empty_of_size_eq_zero (by simp)
 rw [hz] at hr;refine wpList_plain hg fun K hK=>?_;unfold Oper.wp;rw [hr];refine hK _ _ ?_;simp only [hd];have e:Ex s ⟨s.w.alloc (.cells #[] te),fun b=>s.X b∨b=s.w.heap.size,fun b hb=>hb.elim (fun h=>Nat.lt_of_lt_of_le (s.lt b h) (by simp)) (fun h=>by subst h;simp)⟩:=
  ⟨⟨DR.eq rfl,rfl,rfl,rfl,by simp,fun b hb _=>Go.RowKit.Below.heap_alloc s.w _ b hb,fun _ h=>h.elim,fun b hb=>hb.imp id (fun h=>Nat.le_of_eq h.symm)⟩,fun b hb=>.inl hb⟩
 refine k _ _ s.w.heap.size (Nat.le_refl _) (hL.put e hn ⟨rfl,fun g hg=>?_,Nat.zero_le _,[],⟨rfl,by simp⟩,World.ownsRow_made s.w #[] 0 hL.ent.mv.size (Nat.zero_le _) (by simp)⟩);cases hg;exact .inr rfl
end
end
end Go.Proofs.YtjdaaiodniicoaaGreatDoor.V
namespace Go.Proofs.YtjdaaiodniicoaaGreatDoor.V
open Go
set_option linter.unusedVariables false
section
variable {u : Bool} [Dr u]
def Vals (s:St):List Pd→List Value→Prop
 | [],[]=>True
 | q::qs,v::vs=>q.p s v∧Vals s qs vs
 | _,_=>False
structure Fn (P:Program) (f:FuncId) (qs:List Pd) (R:St→St→Value→Prop):Prop where
 call:∀(args:Array Value) (w:World),(callFunc f args).run P w = .ok (.enter f args) w
 run:∀s vs,Gl s→Vals s qs vs→Calls P f vs.toArray s.w fun e w'=>∃v s',e = .returned v∧s'.w=w'∧Ex s s'∧R s s' v
def Rq (q:Pd):St→St→Value→Prop:=fun _ s' v=>q.p s' v
def Ro {α:Type} (E:En α) (te:TypeId) (xs:List α):St→St→Value→Prop:=fun s s' v=>∃og,(Pd.row E s.w.heap.size te og xs).p s' v
inductive zp5 (L:Lst):List Operand→List Pd→Prop
 | nil:zp5 L [] []
 | cons {x:Operand} {q:Pd} {xs:List Operand} {qs:List Pd}:Opn L x q→zp5 L xs qs→zp5 L (x::xs) (q::qs)
theorem zp5.vals {L:Lst} {xs:List Operand} {qs:List Pd} (h:zp5 L xs qs) {M:Nat→Prop} {n:Nat} {s0:St} {a:Act} {s:St} (hL:Has M n s0 a s L):Vals s qs (xs.map a.eval):=by
 induction h with
 | nil=>trivial
 | cons hx _ ih=>exact ⟨hx M n s0 a s hL,ih⟩
theorem zrf {α:Type} {E:En α} {N N':Nat} {te:TypeId} {og:Option Nat} {xs:List α} {s:St} {v:Value} (hN:N'≤N) (h:(Pd.row E N te og xs).p s v):(Pd.row E N' te og xs).p s v:=by
 obtain ⟨h1,h2,h3,css,h4,h5⟩:=h;refine ⟨h1,h2,h3,css,h4,h5.1,h5.2.imp id ?_⟩;rintro ⟨g,cap,cur,e,hg,r⟩;exact ⟨g,cap,cur,e,Nat.le_trans hN hg,r⟩
theorem Fn.frz {P:Program} {f:FuncId} {qs:List Pd} {α:Type} {E:En α} {te:TypeId} {xs:List α} (h:Fn P f qs (Ro E te xs)):Fn P f qs (Rq (Pd.rep (En.slice E) xs)):=
 ⟨h.call,fun s vs hg hv=>(h.run s vs hg hv).mono fun e w' ⟨v,s',he,hw,hx,og,ho⟩=>by
  have hlt:=ziw ho;refine ⟨v,⟨s'.w,fun b=>s'.X b∧og≠some b,fun b hb=>s'.lt b hb.1⟩,he,hw, ?_,zbx.2 (own_slV ho rfl fun b hb=>hb)⟩;exact ⟨⟨hx.mv.dr,hx.mv.os,hx.mv.tape,hx.mv.output,hx.mv.size,hx.mv.blk,fun _ h=>h.elim,fun b hb=>hx.mv.xx b hb.1⟩,fun b hb=>⟨hx.keep b hb,fun e=>by have:=(hlt b e).1;have:=s.lt b hb;omega⟩⟩⟩
section
variable {P : Program} {ops : Array Oper} {o : Oper} {L : Lst}
theorem zl4 {f:FuncId} {xs:List Operand} {ats:Array TypeId} {qs R} (hf:Fn P f qs R) (a:Act) (w:World) (ho:o.op = .call { callee:=.value (.func f),args:=xs.toArray,argTypes:=ats }):
  (execOp a.eval o).run P w = .ok (.enter f (xs.map a.eval).toArray) w:=by
 have h:=hf.call (xs.map a.eval).toArray w;have e:execOp a.eval o=callFunc f (#[]++(xs.toArray).map a.eval ++ #[]):=by unfold execOp;rw [ho];rfl
 rw [e];simpa using h
theorem zdl {f:FuncId} {xs:List Operand} {qs:List Pd} {q:Pd} {ats:Array TypeId} (hf:Fn P f qs (Rq q)) (hx:zp5 L xs qs) (ho:o.op = .call { callee:=.value (.func f),args:=xs.toArray,argTypes:=ats }) (hg:o.guard=none):
  T P ops o L q:=fun M n s0 a s hL Q k hk=>by
 simp only [Region.wanted,hg,if_true];unfold Oper.wp;rw [zl4 hf a s.w ho,Oper.upon_enter];refine (hf.run s _ hL.gls (hx.vals hL)).mono fun e w' ⟨v,s',he,hw,hx,hq⟩=>?_;subst he;subst hw;exact hk v s' ⟨hx,hq⟩
theorem zcs {Q:Exit→Act→World→Prop} {rest:List Oper} {M:Nat→Prop} {n:Nat} {s0:St} {a:Act} {s:St} {α:Type} {E:En α} {te:TypeId} {zs:List α} {f:FuncId} {xs:List Operand} {qs:List Pd} {ats:Array TypeId} (d:Nat)
  (hL:Has M n s0 a s L) (hf:Fn P f qs (Ro E te zs)) (hx:zp5 L xs qs) (ho:o.op = .call { callee:=.value (.func f),args:=xs.toArray,argTypes:=ats }) (hg:o.guard=none) (hd:o.dst=some d) (hn:Nat.blt d n=true)
  (k:∀a' s' og,(∀b,og=some b→s.w.heap.size≤b)→Has M n s0 a' s' ((d,Pd.row E s0.w.heap.size te og zs)::L)→wpList P ops Q rest a' s'.w):wpList P ops Q (o::rest) a s.w:=by
 refine wpList_plain hg fun K hK=>?_;unfold Oper.wp;rw [zl4 hf a s.w ho,Oper.upon_enter];refine (hf.run s _ hL.gls (hx.vals hL)).mono fun e w' ⟨v,s',he,hw,hx,og,hq⟩=>?_;subst he;subst hw;refine hK _ _ ?_;rw [hd];exact k _ s' og (fun b hb=>(ziw hq b hb).1) (hL.put hx hn (zrf hL.ent.mv.size hq))
end
@[reducible] def num:Nat→List Pd→Lst
 | _,[]=>[]
 | k,q::qs=>(k,q)::num (k+1) qs
def Pst (M:Nat→Prop) (R:St→St→Value→Prop) (s0:St):Ending→World→Prop:=fun e w'=>∃v s',e = .returned v∧s'.w=w'∧Fr M s0 s'∧R s0 s' v
theorem zru {s:St}:∀{qs:List Pd} {vs:List Value} (h:Vals s qs vs) (k t:Nat) (q:Pd),lk (num k qs) t=some q→∃v,k≤t∧vs[t-k]?=some v∧q.p s v
 | [],_,_,k,t,q,hl=>by cases hl
 | q'::qs,[],h,_,_,_,_=>h.elim
 | q'::qs,v::vs,h,k,t,q,hl=>by
  unfold num lk at hl
  by_cases ht:k=t
  ·subst ht;simp at hl;subst hl;exact ⟨v,Nat.le_refl _,by simp,h.1⟩
  ·rw [zhd ht] at hl;obtain ⟨u,h1,h2,h3⟩:=zru h.2 (k+1) t q hl;refine ⟨u,by omega, ?_,h3⟩;rw [show t-k=(t-(k+1))+1 by omega];simpa using h2
theorem zq1 {s:St}:∀{qs:List Pd} {vs:List Value},Vals s qs vs→vs.length=qs.length
 | [],[],_=>rfl
 | [],_::_,h=>h.elim
 | _::_,[],h=>h.elim
 | _::_,_::_,h=>by simp [zq1 h.2]
structure Fm (P:Program) (f:FuncId) (M:Nat→Prop) (qs:List Pd) (R:St→St→Value→Prop):Prop where
 call:∀(args:Array Value) (w:World),(callFunc f args).run P w = .ok (.enter f args) w
 run:∀s vs,Gl s→(∀b,M b→s.X b)→Vals s qs vs→Calls P f vs.toArray s.w fun e w'=>∃v s',e = .returned v∧s'.w=w'∧Fr M s s'∧R s s' v
theorem fm_of {P:Program} {f:FuncId} {fn:Func} {c:Code} {n:Nat} {M:Nat→Prop} {qs:List Pd} {R:St→St→Value→Prop} (hf:P.funcs[f]?=some fn) (hb:fn.body=some c) (hn:fn.ntmps=n) (hm:(fn.name == "runtime.NumGoroutine")=false) (hq:qs.length≤n)
  (h:∀s0 a,Has M n s0 a s0 (num 0 qs)→c.wp P (bodyPost P fn (Pst M R s0)) a s0.w):Fm P f M qs R where
 call:=fun args w=>by
  have hm':¬ fn.name = "runtime.NumGoroutine":=by simpa using hm
  simp [callFunc,hf,hm',hb]
 run:=fun s vs hg hM hv=>by
  refine calls_of_wp hf hb ?_;have hl:=zq1 hv;refine h s _ ⟨?_,rfl,Fr.refl hM,hg,fun t q ht=>?_⟩
  ·simp [hn,hl];omega
  ·obtain ⟨v,_,h2,h3⟩:=zru hv 0 t q ht;have:(({ tmps:=vs.toArray++Array.replicate (fn.ntmps-vs.toArray.size) undef,defers:=[] }:Act).eval (.tmp t))=v:=by
    simp only [Nat.sub_zero] at h2;have hlt:t<vs.length:=(List.getElem?_eq_some_iff.1 h2).1;simp only [Act.eval];rw [Array.getD_eq_getD_getElem?,Array.getElem?_append_left (by simpa using hlt)];simp [h2]
   rw [this];exact h3
theorem Fm.fn {P:Program} {f:FuncId} {qs:List Pd} {R:St→St→Value→Prop} (h:Fm P f N0 qs R):Fn P f qs R:=
 ⟨h.call,fun s vs hg hv=>(h.run s vs hg (fun _ h=>h.elim) hv).mono fun e w' ⟨v,s',he,hw,hx,hr⟩=>⟨v,s',he,hw,hx.ex,hr⟩⟩
theorem zbn {P:Program} {f:FuncId} {fn:Func} {c:Code} {n:Nat} {qs:List Pd} {R:St→St→Value→Prop} (hf:P.funcs[f]?=some fn) (hb:fn.body=some c) (hn:fn.ntmps=n) (hm:(fn.name == "runtime.NumGoroutine")=false) (hq:qs.length≤n)
  (h:∀s0 a,Has N0 n s0 a s0 (num 0 qs)→c.wp P (bodyPost P fn (Pst N0 R s0)) a s0.w):Fn P f qs R:=(fm_of hf hb hn hm hq h).fn
section
variable {P : Program} {fn : Func} {M : Nat → Prop} {n : Nat} {s0 : St} {a : Act} {s : St} {L : Lst} {R : St → St → Value → Prop}
theorem ret1 {t:Nat} (hr:fn.results = #[.tmp t]) (hL:Has M n s0 a s L) (hR:R s0 s (a.eval (.tmp t))):bodyPost P fn (Pst M R s0) .ret a s.w:=
 ⟨hL.defers,_,results_tmp hr a.tmps P s.w,_,s,rfl,rfl,hL.ent,hR⟩
theorem zdr {t:Nat} {q:Pd} (hr:fn.results = #[.tmp t]) (hL:Has M n s0 a s L) (hl:lk L t=some q):bodyPost P fn (Pst M (Rq q) s0) .ret a s.w:=ret1 hr hL (hL.get t hl)
theorem zf3 {α:Type} {E:En α} {te:TypeId} {og:Option Nat} {xs:List α} {t:Nat} (hr:fn.results = #[.tmp t]) (hL:Has M n s0 a s L) (hl:lk L t=some (Pd.row E s0.w.heap.size te og xs)):bodyPost P fn (Pst M (Ro E te xs) s0) .ret a s.w:=
 ret1 hr hL ⟨og,hL.get t hl⟩
def Rq2 (q r:Pd):St→St→Value→Prop:=fun _ s' v=>∃x y,v = .tuple #[x,y]∧q.p s' x∧r.p s' y
theorem ret2 {t u:Nat} {q r:Pd} (hr:fn.results = #[.tmp t,.tmp u]) (hL:Has M n s0 a s L) (hl:lk L t=some q) (hm:lk L u=some r):bodyPost P fn (Pst M (Rq2 q r) s0) .ret a s.w:=
 ⟨hL.defers,_,results_tmp2 hr a.tmps P s.w,_,s,rfl,rfl,hL.ent,_,_,rfl,hL.get t hl,hL.get u hm⟩
theorem results_cell {a0 t0:Nat} (hr:fn.results = #[.cell a0 t0]) {α:Type} {E:En α} {x:α} (hE:Ty P t0 E) {b o:Nat} {cs:List Value} {S:Nat→Prop} {w w':World} {tmps:Array Value} (hv:tmps.getD a0 undef = .pointer (some ⟨b,o,none⟩)) (hR:E.R w' S cs x) (hc:ze2 w b o cs):
  (results fn tmps).run P w = .ok (E.val cs) w:=by
 have:=zg5 hE hR hc;rw [Array.getD_eq_getD_getElem?] at hv;simp [results,hr,hv,asAddr,this]
theorem retb {a0 t0:Nat} {α:Type} {E:En α} {x:α} {N g:Nat} (hr:fn.results = #[.cell a0 t0]) (hE:Ty P t0 E) (hL:Has M n s0 a s L) (hl:lk L a0=some (Pd.box E N g x)):bodyPost P fn (Pst M (Rq (Pd.rep E x)) s0) .ret a s.w:=by
 obtain ⟨hv,_,_,cs,t',hc,hR⟩:=hL.get a0 hl;exact ⟨hL.defers,_,results_cell hr hE hv hR (zd8 hc),_,s,rfl,rfl,hL.ent,cs,rfl,hR⟩
end
section
variable {P : Program} {Q : Exit → Act → World → Prop} {M : Nat → Prop} {n : Nat} {s0 : St} {a : Act} {s : St} {L : Lst}
theorem cnd {t:Nat} {b:Bool} {x y:Code} (hL:Has M n s0 a s L) (hl:lk L t=some (Pd.rep En.bool b)) (h1:b=true→x.wp P Q a s.w) (h2:b=false→y.wp P Q a s.w):(Code.cond (.tmp t) x y).wp P Q a s.w:=
 wp_cond_split (zch.1 (hL.get t hl)) h1 h2
theorem lpg {c:Code} (I:Nat→Act→St→Prop) (k0:Nat) (h0:I k0 a s)
  (round:∀k a s,I k a s→∀K:Act→World→Prop,(∀k' a' s',k' < k→I k' a' s'→K a' s'.w)→c.wp P (Exit.then K Q) a s.w):(Code.loop c).wp P Q a s.w:=by
 refine wp_loop_ghost (fun k a w=>∃s,s.w=w∧I k a s) k0 ⟨s,rfl,h0⟩ ?_;rintro k a w ⟨s,rfl,hI⟩;exact round k a s hI _ fun k' a' s' hk hI'=>⟨k',hk,s',rfl,hI'⟩
end
end
end Go.Proofs.YtjdaaiodniicoaaGreatDoor.V
namespace Go.Proofs.YtjdaaiodniicoaaGreatDoor.V
set_option linter.unusedVariables false
abbrev Cl:=BitVec 256
def Cl.word (x:Cl) (i:Nat):Nat:=x.toNat / 2 ^ (64*i) % 2 ^ 64
def Cl.has (x:Cl) (c:Nat):Bool:=x.getLsbD c
def Cl.ofWords (a b c d:Nat):Cl:=BitVec.ofNat 256 (a+2 ^ 64*b+2 ^ 128*c+2 ^ 192*d)
def zep (f:Nat→Bool):Nat→Nat
 | 0=>0
 | n+1=>bif f n then 2 ^ n+zep f n else zep f n
def Cl.of (f:Nat→Bool):Cl:=BitVec.ofNat 256 (zep f 256)
theorem Cl.word_lt (x:Cl) (i:Nat):x.word i<2 ^ 64:=Nat.mod_lt _ (by decide)
theorem Cl.word_bit (x:Cl) (i j:Nat):(x.word i).testBit j=(decide (j<64)&&x.has (64*i+j)):=by
 unfold Cl.word Cl.has;rw [Nat.testBit_mod_two_pow,Nat.testBit_div_two_pow];rw [BitVec.getLsbD,Nat.add_comm]
theorem Cl.ext {x y:Cl} (h:∀c,c<256→x.has c=y.has c):x=y:=BitVec.eq_of_getLsbD_eq h
theorem Cl.ext_words {x y:Cl} (h:∀i,i<4→x.word i=y.word i):x=y:=by
 apply Cl.ext;intro c hc;have h1:=Cl.word_bit x (c / 64) (c % 64);have h2:=Cl.word_bit y (c / 64) (c % 64);rw [h (c / 64) (by omega)] at h1;rw [h1] at h2;simpa [Nat.mod_lt,Nat.div_add_mod] using h2
theorem zpf (f:Nat→Bool) (n:Nat):zep f n<2 ^ n:=by
 induction n with
 | zero=>simp [zep]
 | succ n ih=>
  unfold zep;rw [Nat.pow_succ];cases f n <;> simp <;> omega
theorem zqy (f:Nat→Bool) (n j:Nat):(zep f n).testBit j=(decide (j<n)&&f j):=by
 induction n with
 | zero=>simp [zep]
 | succ n ih=>
  have hlt:=zpf f n;unfold zep
  by_cases hj:j=n
  ·subst hj;cases hf:f j
   ·simp [Nat.testBit_lt_two_pow hlt]
   ·simp only [cond_true,Nat.testBit_two_pow_add_eq,Nat.testBit_lt_two_pow hlt];simp
  ·by_cases hlt':j<n
   ·cases hf:f n
    ·simp [ih,hlt',show j<n+1 by omega]
    ·simp only [cond_true,Nat.testBit_two_pow_add_gt hlt',ih];simp [hlt',show j<n+1 by omega]
   ·have h2:(bif f n then 2 ^ n+zep f n else zep f n)<2 ^ (n+1):=by rw [Nat.pow_succ];cases f n <;> simp <;> omega
    have h3:2 ^ (n+1)≤2 ^ j:=Nat.pow_le_pow_right (by omega) (by omega);rw [Nat.testBit_lt_two_pow (by omega)];simp [show ¬ j<n+1 by omega]
theorem Cl.of_has (f:Nat→Bool) {c:Nat} (hc:c<256):(Cl.of f).has c=f c:=by
 unfold Cl.of Cl.has;rw [BitVec.getLsbD_ofNat,zqy];simp [hc]
theorem Cl.ofWords_word {a b c d:Nat} (ha:a<2 ^ 64) (hb:b<2 ^ 64) (hc:c<2 ^ 64) (hd:d<2 ^ 64):
  (Cl.ofWords a b c d).word 0=a∧(Cl.ofWords a b c d).word 1=b∧(Cl.ofWords a b c d).word 2=c∧(Cl.ofWords a b c d).word 3=d:=by
 have h:(Cl.ofWords a b c d).toNat=a+2 ^ 64*b+2 ^ 128*c+2 ^ 192*d:=by
  unfold Cl.ofWords;rw [BitVec.toNat_ofNat];exact Nat.mod_eq_of_lt (by omega)
 unfold Cl.word;rw [h];simp only [Nat.mul_zero,Nat.mul_one,Nat.pow_zero,Nat.reduceMul];omega
open Go
def zbu (x:Cl):List Value:=[.int .u64 (x.word 0),.int .u64 (x.word 1),.int .u64 (x.word 2),.int .u64 (x.word 3)]
def En.cls:En Cl where
 sz:=4
 agg:=true
 R:=fun _ _ cs x=>cs=zbu x
 sc:=fun h=>by cases h
 pos:=by decide
 len:=by rintro _ _ _ _ rfl;rfl
 one:=by rintro _ _ _ _ rfl u hu;simp [zbu] at hu;rcases hu with rfl | rfl | rfl | rfl <;> rfl
 mono:=fun _ h=>h
 move:=fun _ h=>h
theorem rep_cls {x:Cl} {s:St} {v:Value}:(Pd.rep En.cls x).p s v↔v = .agg (zbu x).toArray:=
 ⟨fun ⟨_,hv,hc⟩=>by cases hc;exact hv,fun hv=>⟨zbu x,hv,rfl⟩⟩
section
variable {u : Bool} [Dr u]
structure TyZ {α:Type} (P:Program) (t:TypeId) (E:En α) (z:α):Prop where
 zero:∃i v cs,P.info? t=some i∧i.zero=some v∧v.cells=cs.toArray∧∀w S,E.R w S cs z
def Sub {α β:Type} (E:En α) (off:Nat) (E':En β) (x x':α) (y:β):Prop:=
 off+E'.sz≤E.sz∧∀w S cs cs',E.R w S cs x→E'.R w S cs' y→E.R w S (spl cs off cs') x'
theorem zo {α:Type} (E:En α) (x y:α):Sub E 0 E x y y:=
 ⟨by simp,fun w S cs cs' h h'=>by
  have:spl cs 0 cs'=cs':=by
   have h1:=E.len h;have h2:=E.len h';simp [spl,List.drop_of_length_le (show cs.length≤cs'.length by omega)]
  rw [this];exact h'⟩
def St.pushX (s:St) (ob:Obj):St:=⟨s.w.alloc ob,fun b=>s.X b∨b=s.w.heap.size,fun b hb=>hb.elim (fun h=>Nat.lt_of_lt_of_le (s.lt b h) (by simp)) (fun h=>by subst h;simp)⟩
theorem Ex.pushX (s:St) (ob:Obj):Ex s (s.pushX ob):=
 ⟨⟨DR.eq rfl,rfl,rfl,rfl,by simp [St.pushX],fun b hb _=>Go.RowKit.Below.heap_alloc s.w _ b hb,fun _ h=>h.elim,fun b hb=>hb.imp id (fun h=>Nat.le_of_eq h.symm)⟩,fun b hb=>.inl hb⟩
section
variable {P : Program} {ops : Array Oper} {o : Oper} {L L' : Lst} {Q : Exit → Act → World → Prop} {rest : List Oper} {M : Nat → Prop} {n : Nat} {s0 : St} {a : Act} {s : St}
theorem zf5 {α:Type} {E:En α} {te t:TypeId} {xs:List Operand} {es:List α} {k:Nat} {parts:Array (Nat × Operand)} (d:Nat)
  (hL:Has M n s0 a s L) (hx:OpL E L xs es) (ht:P.underlying t=some (.slice te)) (hE:Ty P te E) (hk:k=xs.length) (hp:parts=(xs.zipIdx.map fun (x,i)=>(i,x)).toArray) (hs:k*E.sz≤16777216) (ho:o.op = .buildSlice t k parts) (hg:o.guard=none) (hd:o.dst=some d) (hn:Nat.blt d n=true)
  (kk:∀a' s' g,s.w.heap.size≤g→Has M n s0 a' s' ((d,Pd.row E s0.w.heap.size te (some g) es)::L)→wpList P ops Q rest a' s'.w):wpList P ops Q (o::rest) a s.w:=by
 obtain ⟨hlen,css,hEl,hr⟩:=run_lit hx ht hE hk hp hs ho hL;have hk1:k≤k*E.sz:=Nat.le_mul_of_pos_right k E.pos;refine wpList_plain hg fun K hK=>?_;unfold Oper.wp;rw [hr];refine hK _ _ ?_;simp only [hd];have hfl:css.flatten.length=es.length*E.sz:=by rw [zhc hEl.lens,hEl.1]
 refine kk _ (s.pushX (.cells css.flatten.toArray te)) s.w.heap.size (Nat.le_refl _) (hL.put (Ex.pushX s _) hn ⟨rfl,fun g hg=>?_, ?_,css,⟨hEl.1,fun i cs x a b=>E.go (Ex.pushX s _).mv (hEl.2 i cs x a b)⟩, ?_⟩)
 ·cases hg;exact .inr rfl
 ·simp only [lim];omega
 ·refine ⟨hfl,.inr ⟨s.w.heap.size,es.length,css.flatten.toArray,rfl,hL.ent.mv.size,heap_alloc_new s.w _,Nat.le_refl _, ?_,by simpa using hfl, ?_⟩⟩
  ·simp only [maxLen];omega
  ·simp;rw [← hfl,List.take_length]
theorem zz {α:Type} (E:En α) {z:α} {t:TypeId} (d:Nat) (hL:Has M n s0 a s L) (hz:TyZ P t E z) (ho:o.op = .alloc t) (hg:o.guard=none) (hd:o.dst=some d) (hn:Nat.blt d n=true)
  (k:∀a' s' g,s.w.heap.size≤g→Has M n s0 a' s' ((d,Pd.box E s0.w.heap.size g z)::L)→wpList P ops Q rest a' s'.w):wpList P ops Q (o::rest) a s.w:=by
 obtain ⟨i,v,cs,h1,h2,h3,h4⟩:=hz.zero;have hr:(execOp a.eval o).run P s.w = .ok (.value (.pointer (some ⟨s.w.heap.size,0,none⟩))) (s.pushX (.cells cs.toArray t)).w:=by
  unfold execOp;rw [ho];simp [Instr.alloc,zeroValue,typeInfo,h1,h2,newVar,newRow,h3,St.pushX]
 refine wpList_plain hg fun K hK=>?_;unfold Oper.wp;rw [hr];refine hK _ _ ?_;simp only [hd];exact k _ _ s.w.heap.size (Nat.le_refl _) (hL.put (Ex.pushX s _) hn ⟨rfl,hL.ent.mv.size,.inr rfl,cs,t,heap_alloc_new s.w _,h4 _ _⟩)
theorem st_boxm {α:Type} {E:En α} {x:α} {y:Operand} {t:TypeId} (d:Nat) (hL:Has M n s0 a s L) (hy:Opn L y (Pd.rep E x)) (ho:o.op = .box t y) (hg:o.guard=none) (hd:o.dst=some d) (hn:Nat.blt d n=true)
  (k:∀a' s' g,s.w.heap.size≤g→Has M n s0 a' s' ((d,Pd.box E s0.w.heap.size g x)::L)→wpList P ops Q rest a' s'.w):wpList P ops Q (o::rest) a s.w:=by
 obtain ⟨cs,hv,hR⟩:=hy M n s0 a s hL;have hr:(execOp a.eval o).run P s.w = .ok (.value (.pointer (some ⟨s.w.heap.size,0,none⟩))) (s.pushX (.cells cs.toArray t)).w:=by
  unfold execOp;rw [ho];simp only [hv,Instr.box,newVar,newRow,En.val_cells hR,Sem.run_bind,run_newObj,Result.andThen_ok,Sem.run_pure];rfl
 refine wpList_plain hg fun K hK=>?_;unfold Oper.wp;rw [hr];refine hK _ _ ?_;simp only [hd];exact k _ _ s.w.heap.size (Nat.le_refl _) (hL.put (Ex.pushX s _) hn ⟨rfl,hL.ent.mv.size,.inr rfl,cs,t,heap_alloc_new s.w _,E.go (Ex.pushX s _).mv hR⟩)
theorem zl3 {α:Type} {E:En α} {x:α} {t:TypeId} (ht:Ty P t E) {w w':World} {S:Nat→Prop} {cs:List Value} (hR:E.R w' S cs x) {g off:Nat} {cur:List Value} {te:TypeId} (hg:w.heap[g]?=some (.cells cur.toArray te (0,0))) (hl:off+E.sz≤cur.length):
  (Instr.storeAt t (.pointer (some ⟨g,off,none⟩)) (E.val cs)).run P w = .ok () (w.setRow g (spl cur off cs).toArray):=by
 have hlen:=E.len hR;have:=run_storeCells_at P g off te cs 0 cur.toArray w hg (by simp;omega) (E.one hR);simp only [Instr.storeAt,Instr.sureAddr,Sem.run_bind,Sem.run_pure,Result.andThen_ok,storeVar,zbw ht,En.val_cells hR];rw [if_neg (by simp [hlen])];simpa [spl] using this
def St.set (s:St) (g:Nat) (cs:List Value):St:=⟨s.w.setRow g cs.toArray,s.X,fun b hb=>by simpa [World.setRow] using s.lt b hb⟩
theorem Ef.set (s:St) {g:Nat} (cs:List Value) {T:Nat→Prop} (hT:∀b,T b↔b=g) (hx:s.X g):Ef T s (s.set g cs):=
 ⟨⟨DR.eq rfl,rfl,rfl,rfl,by simp [St.set,World.setRow],fun b _ hn=>setRow_other s.w g b _ (fun e=>hn ((hT b).2 e)),fun b hb=>by rw [(hT b).1 hb];exact hx,fun b hb=>.inl hb⟩,fun b hb _=>hb⟩
theorem wp_store {t:TypeId} {x y:Operand} {w':World} (hr:(Instr.storeAt t (a.eval x) (a.eval y)).run P s.w = .ok () w') (ho:o.op = .store t x y) (hg:o.guard=none) (hd:o.dst=none) (k:wpList P ops Q rest a w'):wpList P ops Q (o::rest) a s.w:=by
 refine wpList_plain hg fun K hK=>?_;unfold Oper.wp execOp;simp only [ho,Sem.run_bind,hr,Result.andThen_ok,Sem.run_pure];refine hK _ _ ?_;simp only [hd];exact k
theorem zex {α β:Type} {E:En α} {E':En β} {x0 x1:α} {y0 y1:β} {g off:Nat} {x y:Operand} {t:TypeId} (c:Nat) (hL:Has M n s0 a s L) (hc:lk L c=some (Pd.box E s0.w.heap.size g x0)) (hx:Opn L x (Pd.optr E' s0.w.heap.size (some g) off y0)) (hy:Opn L y (Pd.rep E' y1))
  (hs:Sub E off E' x0 x1 y1) (ht:Ty P t E') (ho:o.op = .store t x y) (hg:o.guard=none) (hd:o.dst=none) (hk:Kp (fun b=>some g=some b) L L')
  (k:∀s',Has M n s0 a s' ((c,Pd.box E s0.w.heap.size g x1)::L')→wpList P ops Q rest a s'.w):wpList P ops Q (o::rest) a s.w:=by
 obtain ⟨hv,hN,hX,cur,te,hgb,hR⟩:=hL.get c hc;obtain ⟨g',hgg,hxv,_⟩:=hx M n s0 a s hL;cases hgg;obtain ⟨cs,hyv,hR'⟩:=hy M n s0 a s hL;have hlen:=E.len hR;have hr:=zl3 (P:=P) ht hR' (g:=g) (off:=off) hgb (by rw [hlen];exact hs.1);refine wp_store (s:=s) (by rw [hxv,hyv];exact hr) ho hg hd ?_;have e:Ef (fun b=>some g=some b) s (s.set g (spl cur off cs)):=Ef.set s _ (fun b=>by simp [eq_comm]) hX;refine k (s.set g (spl cur off cs)) ((hL.ef e (fun b hb=>by cases hb;exact hN) hk).cons c ⟨hv,hN,hX,_,te,setRow_heap s.w g _ _ te (0,0) hgb, ?_⟩);exact E.go e.mv (hs.2 _ _ _ _ hR hR')
theorem zgs {α:Type} {E:En α} {x0 x1:α} {g:Nat} {y:Operand} {t:TypeId} (c:Nat) (hL:Has M n s0 a s L) (hc:lk L c=some (Pd.box E s0.w.heap.size g x0)) (hy:Opn L y (Pd.rep E x1))
  (ht:Ty P t E) (ho:o.op = .store t (.tmp c) y) (hg:o.guard=none) (hd:o.dst=none) (hk:Kp (fun b=>some g=some b) L L')
  (k:∀s',Has M n s0 a s' ((c,Pd.box E s0.w.heap.size g x1)::L')→wpList P ops Q rest a s'.w):wpList P ops Q (o::rest) a s.w:=by
 refine zex (off:=0) (y0:=x0) (E':=E) c hL hc ?_ hy (zo E x0 x1) ht ho hg hd hk k;intro M' n' s0' a' s' hL';obtain ⟨hv,hN,hX,cur,te,hgb,hR⟩:=hL'.get c hc;exact ⟨g,rfl,hv,hN,(Array.getElem?_eq_some_iff.1 hgb).1,hX,cur,zd8 hgb,hR⟩
theorem spl_flat {css:List (List Value)} {m i off:Nat} {cs cs':List Value} (h:∀c∈css,c.length=m) (hi:css[i]?=some cs) (ho:off+cs'.length≤m):spl css.flatten (i*m+off) cs'=(css.set i (spl cs off cs')).flatten:=by
 induction css generalizing i with
 | nil=>simp at hi
 | cons c r ih=>
  have hc:c.length=m:=h c (by simp);cases i with
  | zero=>
   simp at hi;subst hi;simp only [List.set_cons_zero,List.flatten_cons,Nat.zero_mul,Nat.zero_add,spl];rw [List.take_append_of_le_length (by omega),List.drop_append_of_le_length (by omega)];simp
  | succ i=>
   simp at hi;simp only [List.set_cons_succ,List.flatten_cons];rw [← ih (fun x hx=>h x (by simp [hx])) hi];simp only [spl];have e1:(i+1)*m+off=c.length+(i*m+off):=by rw [hc,Nat.succ_mul];omega
   rw [e1,List.take_length_add_append,Nat.add_assoc,List.drop_length_add_append];simp
theorem at_some {α:Type} {xs:List α} {i:Int} {e:α} (h:at? xs i=some e):0≤i∧xs[i.toNat]?=some e:=by
 unfold at? at h;split at h
 ·exact ⟨by assumption,h⟩
 ·cases h
theorem row_uniq {α:Type} {E:En α} {N N':Nat} {te:TypeId} {og:Option Nat} {xs:List α} {u v:Value} (h:(Pd.row E N te og xs).p s u) (k:(Pd.row E N' te og xs).p s v):u=v:=by
 obtain ⟨h1,_,_,css,h4,h5⟩:=h;obtain ⟨k1,_,_,dss,k4,k5⟩:=k;rcases h5.2 with ⟨e,hn⟩ | ⟨g,cap,cur,e,hN,hg,hnc,hcm,hcz,ht⟩
 ·subst e;rcases k5.2 with ⟨e',_⟩ | ⟨g',cap',cur',e',hN',hg',_,_,hcz',_⟩
  ·exact e'.symm
  ·subst e';rw [← h1] at k1;cases k1
 ·subst e;rcases k5.2 with ⟨e',_⟩ | ⟨g',cap',cur',e',hN',hg',_,_,hcz',_⟩
  ·subst e';rw [← h1] at k1;cases k1
  ·subst e';have hgg:g'=g:=by rw [← h1] at k1;simpa [Value.ownBlock] using k1
   subst hgg;rw [hg] at hg';simp only [Option.some.injEq,Obj.cells.injEq] at hg';have:cap*E.sz=cap'*E.sz:=by rw [← hcz,← hcz',hg'.1]
   have:=Nat.eq_of_mul_eq_mul_right E.pos this;rw [this]
theorem st_storC {α β:Type} {E:En α} {E':En β} {xs:List α} {e0 e1:α} {y0 y1:β} {og:Option Nat} {off:Nat} {N:Nat} {i:Int} {x y:Operand} {t te:TypeId} {vc:Value} (hrow:(Pd.row E N te og xs).p s vc) (hi:at? xs i=some e0)
  (hx:(Pd.optr E' N og (i.toNat*E.sz+off) y0).p s (a.eval x)) (hy:(Pd.rep E' y1).p s (a.eval y)) (hs:Sub E off E' e0 e1 y1) (ht:Ty P t E') (ho:o.op = .store t x y) (hg:o.guard=none) (hd:o.dst=none)
  (k:∀s',Ef (fun b=>og=some b) s s'→(∀b,s.X b→s'.X b)→(Pd.row E N te og (xs.set i.toNat e1)).p s' vc→wpList P ops Q rest a s'.w):wpList P ops Q (o::rest) a s.w:=by
 obtain ⟨h1,h2,h3,css,h4,h5⟩:=hrow;obtain ⟨g,hog,hxv,hN,hgl,hX,_⟩:=hx;obtain ⟨cs',hyv,hR'⟩:=hy;obtain ⟨hi0,hie⟩:=at_some hi;have hlt:i.toNat<xs.length:=(List.getElem?_eq_some_iff.1 hie).1;obtain ⟨cs,hcs⟩:∃cs,css[i.toNat]?=some cs:=⟨css[i.toNat]'(by rw [h4.1];exact hlt),by simp⟩;have hR:=h4.2 _ _ _ hcs hie;rcases h5.2 with ⟨e',hn⟩ | ⟨g',cap,cur,ev,hN',hgb,hnc,hcm,hcz,htk⟩
 ·omega
 ·have hgg:g'=g:=by rw [← h1,ev] at hog;simpa [Value.ownBlock] using hog
  subst hgg;have hfl:css.flatten.length=xs.length*E.sz:=by rw [zhc h4.lens,h4.1]
  have hlen':=E'.len hR';have hin:i.toNat*E.sz+E.sz≤xs.length*E.sz:=by rw [← Nat.succ_mul];exact Nat.mul_le_mul_right _ hlt
  have hcap:xs.length*E.sz≤cur.size:=by rw [hcz];exact Nat.mul_le_mul_right _ hnc
  have hb:i.toNat*E.sz+off+E'.sz≤cur.toList.length:=by have:=hs.1;simp;omega
  have hr:=zl3 (P:=P) ht hR' (g:=g') (off:=i.toNat*E.sz+off) (cur:=cur.toList) (te:=te) (by simpa using hgb) hb;refine wp_store (s:=s) (by rw [hxv,hyv];exact hr) ho hg hd ?_;have hT:∀b,og=some b↔b=g':=fun b=>by rw [hog];simp [eq_comm]
  have e:Ef (fun b=>og=some b) s (s.set g' (spl cur.toList (i.toNat*E.sz+off) cs')):=Ef.set s _ hT hX;refine k (s.set g' (spl cur.toList (i.toNat*E.sz+off) cs')) e (fun b h=>h) ⟨h1,h2,by simpa using h3,css.set i.toNat (spl cs off cs'), ?_, ?_,.inr ⟨g',cap,(spl cur.toList (i.toNat*E.sz+off) cs').toArray,by simpa using ev,hN',setRow_heap s.w g' cur _ te (0,0) hgb,by simpa using hnc,hcm, ?_, ?_⟩⟩
  ·refine ⟨by simp [h4.1],fun j c' x' hj hx'=>E.go e.mv ?_⟩
   by_cases hji:j=i.toNat
   ·subst hji;rw [List.getElem?_set_self (by rw [h4.1];exact hlt)] at hj;rw [List.getElem?_set_self hlt] at hx';cases hj;cases hx';exact hs.2 _ _ _ _ hR hR'
   ·rw [List.getElem?_set_ne (Ne.symm hji)] at hj hx';exact h4.2 j c' x' hj hx'
  ·rw [zhc (n:=E.sz),List.length_set,List.length_set,h4.1];intro c' hc';rcases List.mem_or_eq_of_mem_set hc' with h | h
   ·exact h4.lens c' h
   ·subst h;rw [zra (by rw [E.len hR,hlen'];exact hs.1)];exact E.len hR
  ·have:(spl cur.toList (i.toNat*E.sz+off) cs').length=cur.toList.length:=zra (by rw [hlen'];exact hb);simp [this,hcz]
  ·rw [← spl_flat h4.lens hcs (by rw [hlen'];exact hs.1)];simp only [List.length_set];have h6:cur.toList=css.flatten++cur.toList.drop (xs.length*E.sz):=by rw [← htk];exact (List.take_append_drop _ _).symm
   have h7:spl cur.toList (i.toNat*E.sz+off) cs'=spl css.flatten (i.toNat*E.sz+off) cs'++cur.toList.drop (xs.length*E.sz):=by
    have hsz:=hs.1
    conv=>lhs;rw [h6]
    simp only [spl];rw [List.take_append_of_le_length (by rw [hfl];omega),List.drop_append_of_le_length (by rw [hfl,hlen'];omega)];simp
   have h8:(spl css.flatten (i.toNat*E.sz+off) cs').length=xs.length*E.sz:=by
    rw [zra (by rw [hfl,hlen'];have:=hs.1;omega),hfl]
   rw [h7,List.take_append_of_le_length (Nat.le_of_eq h8.symm),List.take_of_length_le (Nat.le_of_eq h8)]
theorem st_storN {α β:Type} {E:En α} {E':En β} {xs:List α} {e0 e1:α} {y0 y1:β} {og:Option Nat} {off:Nat} {N:Nat} {i:Int} {x y:Operand} {t te:TypeId} (c:Nat) (hw:(∀b,og=some b→s0.w.heap.size≤b)∨∀b,og=some b→M b) (hL:Has M n s0 a s L) (hc:lk L c=some (Pd.row E N te og xs)) (hi:at? xs i=some e0)
  (hx:Opn L x (Pd.optr E' N og (i.toNat*E.sz+off) y0)) (hy:Opn L y (Pd.rep E' y1)) (hs:Sub E off E' e0 e1 y1) (ht:Ty P t E') (ho:o.op = .store t x y) (hg:o.guard=none) (hd:o.dst=none) (hk:Kw (fun b=>og=some b) L (Pd.row E N te og xs) (Pd.row E N te og (xs.set i.toNat e1)) L')
  (k:∀s',Has M n s0 a s' L'→wpList P ops Q rest a s'.w):wpList P ops Q (o::rest) a s.w:=by
 exact st_storC (hL.get c hc) hi (hx M n s0 a s hL) (hy M n s0 a s hL) hs ht ho hg hd fun s' e hX hr=>k s' (hL.turn e hw hX hk fun v hv=>by rw [row_uniq hv (hL.get c hc)];exact hr)
theorem zgr {α β:Type} {E:En α} {E':En β} {xs:List α} {e0 e1:α} {y0 y1:β} {og:Option Nat} {off:Nat} {i:Int} {x y:Operand} {t te:TypeId} (c:Nat) (hL:Has M n s0 a s L) (hc:lk L c=some (Pd.row E s0.w.heap.size te og xs)) (hi:at? xs i=some e0)
  (hx:Opn L x (Pd.optr E' s0.w.heap.size og (i.toNat*E.sz+off) y0)) (hy:Opn L y (Pd.rep E' y1)) (hs:Sub E off E' e0 e1 y1) (ht:Ty P t E') (ho:o.op = .store t x y) (hg:o.guard=none) (hd:o.dst=none) (hk:Kw (fun b=>og=some b) L (Pd.row E s0.w.heap.size te og xs) (Pd.row E s0.w.heap.size te og (xs.set i.toNat e1)) L')
  (k:∀s',Has M n s0 a s' L'→wpList P ops Q rest a s'.w):wpList P ops Q (o::rest) a s.w:=by
 refine st_storN c (.inl fun b hb=>?_) hL hc hi hx hy hs ht ho hg hd hk k;exact (ziw (hL.get c hc) b hb).1
theorem made_flat {z:Value} {cs:List Value} (hz:z.cells=cs.toArray) (n:Nat) (hpos:0<cs.length):(madeCells z.cells (n*cs.length)).toList=(List.replicate n cs).flatten:=by
 induction n with
 | zero=>simp [madeCells]
 | succ n ih=>
  have h1:(madeCells z.cells ((n+1)*cs.length)).toList=(madeCells z.cells (n*cs.length)).toList++cs:=by
   simp only [madeCells,Nat.succ_mul];simp only [Array.toList_map,Array.toList_range];rw [List.range_add,List.map_append,List.map_map]
   congr 1
   apply List.ext_getElem?;intro j
   by_cases hj:j<cs.length
   ·simp only [List.getElem?_map,List.getElem?_range hj,Option.map_some,Function.comp,hz,List.size_toArray];rw [Nat.mul_comm,Nat.mul_add_mod,Nat.mod_eq_of_lt hj];simp [hj]
   ·rw [List.getElem?_eq_none (by simp;omega),List.getElem?_eq_none (by omega)]
  rw [h1,ih,List.replicate_succ',List.flatten_append];simp
end
end
section
variable {P : Program} {ops : Array Oper} {o : Oper} {L L' : Lst} {Q : Exit → Act → World → Prop} {rest : List Oper} {M : Nat → Prop} {n : Nat} {s0 : St} {a : Act} {s : St}
theorem st_make {α:Type} (E:En α) {z:α} {t te:TypeId} {l c:Operand} {kl kc:IntKind} {m:Nat} (d:Nat) (hL:Has M n s0 a s L) (hl:Opn L l (Pd.rep (En.int kl) m)) (hc:Opn L c (Pd.rep (En.int kc) m)) (hm:m≤2147483648)
  (ht:P.underlying t=some (.slice te)) (hE:Ty P te E) (hz:TyZ P te E z) (ho:o.op = .makeSlice t l c) (hg:o.guard=none) (hd:o.dst=some d) (hn:Nat.blt d n=true)
  (k:∀a' s' g,s.w.heap.size≤g→Has M n s0 a' s' ((d,Pd.row E s0.w.heap.size te (some g) (List.replicate m z))::L)→wpList P ops Q rest a' s'.w):wpList P ops Q (o::rest) a s.w:=by
 obtain ⟨i,zv,hi,hsz,hzv,hzs,hby⟩:=hE.info;obtain ⟨i',v,cs,h1,h2,h3,h4⟩:=hz.zero;rw [hi] at h1;cases h1;rw [hzv] at h2;cases h2;have e1:=(zbf.1 (hl M n s0 a s hL)).1;have e2:=(zbf.1 (hc M n s0 a s hL)).1;have hcl:cs.length=E.sz:=E.len (h4 s.w (zgh s));obtain ⟨w',hr,ho',hgr⟩:=run_make_full (P:=P) s.w s0.w.heap.size t te i zv E.sz ht hi hzv hsz kl kc m (by
  have:=Nat.mul_le_mul hby hm;omega) (by simp [maxLen];omega) hL.ent.mv.size
 refine wpList_plain hg fun K hK=>?_;unfold Oper.wp execOp;simp only [ho,e1,e2,Sem.run_bind,hr,Result.andThen_ok,Sem.run_pure];refine hK _ _ ?_;simp only [hd];have hlt:=(ho'.lt s.w.heap.size rfl).2;have e:Ex s ⟨w',fun b=>s.X b∨b=s.w.heap.size,fun b hb=>hb.elim (fun h=>Nat.lt_of_lt_of_le (s.lt b h) hgr.size) (fun h=>by subst h;exact hlt)⟩:=
  ⟨⟨DR.kit,hgr.os,hgr.tape,hgr.output,hgr.size,fun b hb _=>hgr.block b hb (by simp),fun _ h=>h.elim,fun b hb=>hb.imp id (fun h=>Nat.le_of_eq h.symm)⟩,fun b hb=>.inl hb⟩
 refine k _ _ s.w.heap.size (Nat.le_refl _) (hL.put e hn ⟨rfl,fun g hg=>?_,by simp [lim];omega,List.replicate m cs,⟨by simp,fun j c x hj hx=>?_⟩, ?_⟩)
 ·cases hg;exact .inr rfl
 ·have hj':=List.mem_of_getElem? hj;have hx':=List.mem_of_getElem? hx;rw [List.mem_replicate] at hj' hx';rw [hj'.2,hx'.2];exact h4 _ _
 ·have hmf:=made_flat h3 m (by rw [hcl];exact E.pos);rw [hcl] at hmf;rw [← hmf];simpa using ho'
end
section
variable {u : Bool} [Dr u]
section
variable {P : Program} {ops : Array Oper} {o : Oper} {L L' : Lst} {Q : Exit → Act → World → Prop} {rest : List Oper} {M : Nat → Prop} {n : Nat} {s0 : St} {a : Act} {s : St}
end
def Dis (a b:Option Nat):Prop:=∀k,a=some k→b=some k→False
theorem Dis.symm {a b:Option Nat} (h:Dis a b):Dis b a:=fun k h1 h2=>h k h2 h1
theorem Dis.none {b:Option Nat}:Dis none b:=fun _ h _=>by cases h
theorem Dis.ow {a b:Option Nat} (h:Dis a b):∀k,a=some k→¬ b=some k:=fun k h1 h2=>h k h1 h2
theorem Dis.bx {g:Nat} {b:Option Nat} (h:Dis (some g) b):∀k,k=g→¬ b=some k:=fun k h1 h2=>h k (by rw [h1]) h2
theorem Dis.new {a b:Option Nat} {N:Nat} (h:∀k,a=some k→N≤k) (hb:∀k,b=some k→k<N):Dis a b:=fun k h1 h2=>by have:=h k h1;have:=hb k h2;omega
theorem Dis.newg {g:Nat} {b:Option Nat} {N:Nat} (h:N≤g) (hb:∀k,b=some k→k<N):Dis (some g) b:=fun k h1 h2=>by cases h1;have:=hb g h2;omega
theorem Dis.app {a a' b:Option Nat} {N:Nat} (h:∀k,a'=some k→a=some k∨N≤k) (hd:Dis a b) (hb:∀k,b=some k→k<N):Dis a' b:=fun k h1 h2=>(h k h1).elim (fun h=>hd k h h2) (fun h=>by have:=hb k h2;omega)
theorem Has.rlt {α:Type} {E:En α} {N:Nat} {te:TypeId} {og:Option Nat} {xs:List α} {M:Nat→Prop} {n:Nat} {s0:St} {a:Act} {s:St} {L:Lst} (h:Has M n s0 a s L) (t:Nat) (hl:lk L t=some (Pd.row E N te og xs)):∀k,og=some k→k<s.w.heap.size:=fun k hk=>(ziw (h.get t hl) k hk).2
theorem Has.blt {α:Type} {E:En α} {N g:Nat} {x:α} {M:Nat→Prop} {n:Nat} {s0:St} {a:Act} {s:St} {L:Lst} (h:Has M n s0 a s L) (t:Nat) (hl:lk L t=some (Pd.box E N g x)):∀k,some g=some k→k<s.w.heap.size:=fun k hk=>by
 cases hk;obtain ⟨_,_,_,_,_,hc,_⟩:=h.get t hl;exact (Array.getElem?_eq_some_iff.1 hc).1
theorem rdl {P:Program} {id:Nat} {l:List Oper} {Q:Exit→Act→World→Prop} {M:Nat→Prop} {n:Nat} {s0:St} {a:Act} {s:St} {L:Lst} (hf:P.follows .mixedOrders=true) (m:Nat) (qs:List Pd)
  (hL:Has M n s0 a s L) (hok:zd0 l.toArray m n (L.map (·.1)) []=true) (hq:qs.length=m) (hm:m≤l.length)
  (hT:∀i o q,i<m→l[i]?=some o→qs[i]?=some q→T P l.toArray o (zh3 l.toArray qs o.after.toList L) q)
  (hB:∀a' s',Ex s s'→Has M n s0 a' s' (zmp l.toArray qs m L)→wpList P l.toArray Q (l.drop m) a' s'.w):(Code.region id l.toArray true).wp P Q a s.w:=by
 refine rd hf m qs hL hok hq (by simpa using hm) (fun i o q hi ho=>hT i o q hi (by simpa using ho)) fun a' s' e h=>?_;have:=hB a' s' e h;rw [← wpOps_eq_wpList (l.drop m) m (fun j=>by simp)] at this;simpa using this
def zbe (P:Program) (ops:Array Oper) (qs0:List Pd) (L:Lst):List Oper→List Pd→Prop
 | _,[]=>True
 | [],_::_=>False
 | o::l,q::qs=>T P ops o (zh3 ops qs0 o.after.toList L) q∧zbe P ops qs0 L l qs
theorem zbe.at {P:Program} {ops:Array Oper} {qs0:List Pd} {L:Lst}:∀(l:List Oper) (qs:List Pd),zbe P ops qs0 L l qs→∀(i:Nat) (o:Oper) (q:Pd),l[i]?=some o→qs[i]?=some q→T P ops o (zh3 ops qs0 o.after.toList L) q
 | _,[],_,i,o,q,_,hq=>by simp at hq
 | [],_::_,h,_,_,_,_,_=>h.elim
 | o'::l,q'::qs,h,i,o,q,ho,hq=>by
  cases i with
  | zero=>simp only [List.getElem?_cons_zero,Option.some.injEq] at ho hq;subst ho;subst hq;exact h.1
  | succ i=>simp only [List.getElem?_cons_succ] at ho hq;exact zbe.at l qs h.2 i o q ho hq
theorem zbe.cons {P:Program} {ops:Array Oper} {qs0:List Pd} {L:Lst} {o:Oper} {l:List Oper} {q:Pd} {qs:List Pd} (h:T P ops o (zh3 ops qs0 o.after.toList L) q) (h2:zbe P ops qs0 L l qs):zbe P ops qs0 L (o::l) (q::qs):=⟨h,h2⟩
theorem zbe.nil {P:Program} {ops:Array Oper} {qs0:List Pd} {L:Lst} {l:List Oper}:zbe P ops qs0 L l []:=by cases l <;> trivial
theorem rda {P:Program} {id:Nat} {l:List Oper} {Q:Exit→Act→World→Prop} {M:Nat→Prop} {n:Nat} {s0:St} {a:Act} {s:St} {L:Lst} (hf:P.follows .mixedOrders=true) (m:Nat) (qs:List Pd)
  (hL:Has M n s0 a s L) (hok:zd0 l.toArray m n (L.map (·.1)) []=true) (hq:Nat.beq qs.length m=true) (hm:Nat.ble m l.length=true)
  (hT:zbe P l.toArray qs L l qs)
  (hB:∀a' s',Ex s s'→Has M n s0 a' s' (zmp l.toArray qs m L)→wpList P l.toArray Q (l.drop m) a' s'.w):(Code.region id l.toArray true).wp P Q a s.w:=
 rdl hf m qs hL hok (Nat.eq_of_beq_eq_true hq) (Nat.le_of_ble_eq_true hm) (fun i o q _ ho hq=>zbe.at l qs hT i o q ho hq) hB
def zb9 (P:Program) (ops:Array Oper) (qs0:List Pd) (L:Lst) (F:List Nat):Nat→List Oper→List Pd→Prop
 | _,_,[]=>True
 | _,[],_::_=>False
 | i,o::l,q::qs=>(F.contains i=false→T P ops o (zh3 ops qs0 o.after.toList L) q)∧zb9 P ops qs0 L F (i+1) l qs
theorem zb9.at {P:Program} {ops:Array Oper} {qs0:List Pd} {L:Lst} {F:List Nat}:∀(k:Nat) (l:List Oper) (qs:List Pd),zb9 P ops qs0 L F k l qs→∀(i:Nat) (o:Oper) (q:Pd),l[i]?=some o→qs[i]?=some q→F.contains (k+i)=false→T P ops o (zh3 ops qs0 o.after.toList L) q
 | _,_,[],_,i,o,q,_,hq,_=>by simp at hq
 | _,[],_::_,h,_,_,_,_,_,_=>h.elim
 | k,o'::l,q'::qs,h,i,o,q,ho,hq,hF=>by
  cases i with
  | zero=>simp only [List.getElem?_cons_zero,Option.some.injEq] at ho hq;subst ho;subst hq;exact h.1 hF
  | succ i=>simp only [List.getElem?_cons_succ] at ho hq;exact zb9.at (k+1) l qs h.2 i o q ho hq (by rw [← hF];congr 1;omega)
theorem zb9.cons {P:Program} {ops:Array Oper} {qs0:List Pd} {L:Lst} {F:List Nat} {i:Nat} {o:Oper} {l:List Oper} {q:Pd} {qs:List Pd} (h:T P ops o (zh3 ops qs0 o.after.toList L) q) (h2:zb9 P ops qs0 L F (i+1) l qs):zb9 P ops qs0 L F i (o::l) (q::qs):=⟨fun _=>h,h2⟩
theorem zb9.skip {P:Program} {ops:Array Oper} {qs0:List Pd} {L:Lst} {F:List Nat} {i:Nat} {o:Oper} {l:List Oper} {q:Pd} {qs:List Pd} (h:F.contains i=true) (h2:zb9 P ops qs0 L F (i+1) l qs):zb9 P ops qs0 L F i (o::l) (q::qs):=⟨fun h'=>(by rw [h] at h';cases h'),h2⟩
theorem zb9.nil {P:Program} {ops:Array Oper} {qs0:List Pd} {L:Lst} {F:List Nat} {i:Nat} {l:List Oper}:zb9 P ops qs0 L F i l []:=by cases l <;> trivial
theorem fl_go {P:Program} {l:List Oper} {Q:Exit→Act→World→Prop} {M:Nat→Prop} {n:Nat} {s0:St} {a:Act} {s:St} {L:Lst} {f:Nat} {listed:Array Bool} (m:Nat) (qs:List Pd) (F:List Nat) (hL:Has M n s0 a s L)
  (hok:zd0 l.toArray m n (L.map (·.1)) F=true) (hst:zl6 l.toArray listed m F=true) (hc:((List.range l.toArray.size).filter (fun i=>!listed.getD i true)).length=f) (hfl:FlOk l.toArray qs L F) (hq:Nat.beq qs.length m=true) (hm:Nat.ble m l.length=true)
  (hT:zb9 P l.toArray qs L F 0 l qs)
  (hB:∀a' s',Ex s s'→Has M n s0 a' s' (zmp l.toArray qs m L)→wpList P l.toArray Q (l.drop m) a' s'.w):wpAny P .any l.toArray Q f listed a s.w:=by
 refine fl_end m qs F hL hok hst hc hfl (Nat.eq_of_beq_eq_true hq) (by simpa using Nat.le_of_ble_eq_true hm) (fun i o q _ ho hq hF=>zb9.at 0 l qs hT i o q (by simpa using ho) hq (by simpa using hF)) fun a' s' e h=>?_;have:=hB a' s' e h;rw [← wpOps_eq_wpList (l.drop m) m (fun j=>by simp)] at this;simpa using this
theorem ziu {P:Program} {o:Oper} {L:Lst} {x:Operand} {q:Pd} (h:Opn L x q) (ho:o.op = .move x) (hg:o.guard=none):TY P o L q:=
 ⟨hg,fun M n s0 a s hL=>⟨a.eval x,fun w=>by unfold execOp;rw [ho];rfl,h M n s0 a s hL⟩⟩
theorem y_arith {P:Program} {o:Oper} {L:Lst} {k:IntKind} {x y:Operand} {a b:Int} (op:BinOp) (f:Int→Int→Int) (hf:∀a b,(Op.intArith op k a b:Sem Value)=Pure.pure (.int k (k.wrap (f a b)))) (hop:op = .add∨op = .sub∨op = .mul)
  (hx:Opn L x (Pd.rep (En.int k) a)) (hy:Opn L y (Pd.rep (En.int k) b)) (hr:InR k (f a b)) {t u:TypeId} (ho:o.op = .binOp op t x y u) (hg:o.guard=none):TY P o L (Pd.rep (En.int k) (f a b)):=
 ⟨hg,fun M n s0 ac s hL=>by
  have h1:=(zbf.1 (hx M n s0 ac s hL)).1;have h2:=(zbf.1 (hy M n s0 ac s hL)).1;refine ⟨.int k (f a b),fun w=>?_,zbf.2 ⟨rfl,hr⟩⟩;unfold execOp;rw [ho];simp only [h1,h2];rcases hop with rfl | rfl | rfl <;> simp [eqGuard,binOp,hf,zi4 hr]⟩
theorem y_add {P:Program} {o:Oper} {L:Lst} {k:IntKind} {x y:Operand} {a b:Int} (hx:Opn L x (Pd.rep (En.int k) a)) (hy:Opn L y (Pd.rep (En.int k) b)) (hr:InR k (a+b)) {t u:TypeId} (ho:o.op = .binOp .add t x y u) (hg:o.guard=none):
  TY P o L (Pd.rep (En.int k) (a+b)):=y_arith .add (· + ·) (fun _ _=>rfl) (.inl rfl) hx hy hr ho hg
theorem y_sub {P:Program} {o:Oper} {L:Lst} {k:IntKind} {x y:Operand} {a b:Int} (hx:Opn L x (Pd.rep (En.int k) a)) (hy:Opn L y (Pd.rep (En.int k) b)) (hr:InR k (a-b)) {t u:TypeId} (ho:o.op = .binOp .sub t x y u) (hg:o.guard=none):
  TY P o L (Pd.rep (En.int k) (a-b)):=y_arith .sub (· - ·) (fun _ _=>rfl) (.inr (.inl rfl)) hx hy hr ho hg
theorem o_nil {α:Type} {E:En α} {N:Nat} {te:TypeId} {L:Lst}:Opn L (.const (.slice none 0 0)) (Pd.row E N te none ([]:List α)):=o_c fun s=>own_nil E N te s
theorem o_nilr {α:Type} {E:En α} {L:Lst}:Opn L (.const (.slice none 0 0)) (Pd.rep (En.slice E) ([]:List α)):=o_c fun s=>zbx.2 (zcx E _ _)
def Pd.tup2 (q r:Pd):Pd:=⟨fun s v=>∃x y,v = .tuple #[x,y]∧q.p s x∧r.p s y,fun b=>q.own b∨r.own b,fun h hb ⟨x,y,hv,h1,h2⟩=>⟨x,y,hv,q.mv h (fun b hq=>hb b (.inl hq)) h1,r.mv h (fun b hr=>hb b (.inr hr)) h2⟩⟩
theorem Fn.tup {P:Program} {f:FuncId} {qs:List Pd} {q r:Pd} (h:Fn P f qs (Rq2 q r)):Fn P f qs (Rq (Pd.tup2 q r)):=h
section
variable {P : Program} {ops : Array Oper} {o : Oper} {L : Lst}
theorem zqd {q r:Pd} {x:Operand} (hx:Opn L x (Pd.tup2 q r)) (ho:o.op = .extract x 0) (hg:o.guard=none):T P ops o L q:=
 T.pure hg fun M n s0 a s hL=>by
  obtain ⟨u,v,hv,h1,h2⟩:=hx M n s0 a s hL;refine ⟨u, ?_,h1⟩;unfold execOp;rw [ho];simp [hv,Instr.extract]
theorem zn2 {q r:Pd} {x:Operand} (hx:Opn L x (Pd.tup2 q r)) (ho:o.op = .extract x 1) (hg:o.guard=none):T P ops o L r:=
 T.pure hg fun M n s0 a s hL=>by
  obtain ⟨u,v,hv,h1,h2⟩:=hx M n s0 a s hL;refine ⟨v, ?_,h2⟩;unfold execOp;rw [ho];simp [hv,Instr.extract]
end
end
end Go.Proofs.YtjdaaiodniicoaaGreatDoor.V
namespace Go.Proofs.YtjdaaiodniicoaaGreatDoor.V
open Go
set_option linter.unusedVariables false
section
variable {u : Bool} [Dr u]
structure Eqv {α:Type} [BEq α] (P:Program) (t:TypeId) (E:En α):Prop where
 eql:∀(w:World) (S:Nat→Prop) (cs ds:List Value) (x y:α) (a b:Operand),E.R w S cs x→E.R w S ds y →
  (do eqGuard .eql t a b (E.val cs) (E.val ds);binOp .eql t (E.val cs) (E.val ds):Sem Value).run P w = .ok (.bool (x==y)) w
 neq:∀(w:World) (S:Nat→Prop) (cs ds:List Value) (x y:α) (a b:Operand),E.R w S cs x→E.R w S ds y →
  (do eqGuard .neq t a b (E.val cs) (E.val ds);binOp .neq t (E.val cs) (E.val ds):Sem Value).run P w = .ok (.bool (x != y)) w
section
variable {P : Program} {ops : Array Oper} {o : Oper} {L : Lst}
theorem t_eqv {α:Type} [BEq α] {E:En α} {t u:TypeId} (he:Eqv P t E) {x y:Operand} {a b:α} (hx:Opn L x (Pd.rep E a)) (hy:Opn L y (Pd.rep E b)) (ho:o.op = .binOp .eql t x y u) (hg:o.guard=none):T P ops o L (Pd.rep En.bool (a==b)):=
 T.pure hg fun M n s0 ac s hL=>by
  obtain ⟨cs,h1,hR⟩:=hx M n s0 ac s hL;obtain ⟨ds,h2,hS⟩:=hy M n s0 ac s hL;refine ⟨.bool (a==b), ?_,zch.2 rfl⟩;have:=he.eql s.w _ cs ds a b x y hR hS;unfold execOp;rw [ho];simp only [h1,h2,Sem.run_bind] at this ⊢;rw [this];rfl
theorem t_nev {α:Type} [BEq α] {E:En α} {t u:TypeId} (he:Eqv P t E) {x y:Operand} {a b:α} (hx:Opn L x (Pd.rep E a)) (hy:Opn L y (Pd.rep E b)) (ho:o.op = .binOp .neq t x y u) (hg:o.guard=none):T P ops o L (Pd.rep En.bool (a != b)):=
 T.pure hg fun M n s0 ac s hL=>by
  obtain ⟨cs,h1,hR⟩:=hx M n s0 ac s hL;obtain ⟨ds,h2,hS⟩:=hy M n s0 ac s hL;refine ⟨.bool (a != b), ?_,zch.2 rfl⟩;have:=he.neq s.w _ cs ds a b x y hR hS;unfold execOp;rw [ho];simp only [h1,h2,Sem.run_bind] at this ⊢;rw [this];rfl
end
theorem equalIn_int1 {P:Program} (d:Nat) (e:TypeId) (k:IntKind) (he:P.underlying e=some (.int k)) (a b:Int) (w:World):(Op.equalIn (d+1) e (.int k a) (.int k b)).run P w = .ok (a==b) w:=by
 unfold Op.equalIn;simp [run_underlying he]
theorem equalIn_row {P:Program} (d:Nat) (t e:TypeId) (ht:P.underlying t=some (.array 4 e)) (he:P.underlying e=some (.int .u64)) (hi:(P.info? e).map (·.size)=some 1) (a0 a1 a2 a3 b0 b1 b2 b3:Int) (w:World):
  (Op.equalIn (d+2) t (.agg #[.int .u64 a0,.int .u64 a1,.int .u64 a2,.int .u64 a3]) (.agg #[.int .u64 b0,.int .u64 b1,.int .u64 b2,.int .u64 b3])).run P w = .ok (a0==b0&&(a1==b1&&(a2==b2&&a3==b3))) w:=by
 obtain ⟨i,h1,h2⟩:∃i,P.info? e=some i∧i.size=1:=by
  cases h:P.info? e with
  | none=>rw [h] at hi;cases hi
  | some i=>rw [h] at hi;exact ⟨i,rfl,by simpa using hi⟩
 have hsz:∀w:World,(sizeOf e).run P w = .ok 1 w:=fun w=>by simp [sizeOf,typeInfo,h1,h2]
 have hagg:∀w:World,(isAgg e).run P w = .ok false w:=fun w=>by simp [isAgg,run_underlying he]
 unfold Op.equalIn;simp only [Sem.run_bind,run_underlying ht,Result.andThen_ok,hsz];simp only [Std.Legacy.Range.forIn_eq_forIn_range',Std.Legacy.Range.size,Nat.sub_zero,Nat.div_one,List.range',List.forIn_cons,List.forIn_nil,Sem.run_bind,part,hagg,Result.andThen_ok,Bool.false_eq_true,if_false,Nat.mul_one,Nat.reduceAdd];have h0:=hagg w;have he1:=fun x y=>equalIn_int1 (P:=P) d e .u64 he x y w
 by_cases e0:a0=b0
 ·by_cases e1:a1=b1
  ·by_cases e2:a2=b2
   ·by_cases e3:a3=b3 <;> simp [e0,e1,e2,e3,he1,h0]
   ·simp [e0,e1,e2,he1,h0]
  ·simp [e0,e1,he1,h0]
 ·simp [e0,he1]
section
variable {P : Program} {ops : Array Oper} {o : Oper} {L : Lst}
theorem t_bcls {x:Cl} {t e:TypeId} {parts:Array (Nat × Operand)} (ht:P.underlying t=some (.array 4 e)) (hi:(P.info? e).map (·.size)=some 1) (hz:TyZ P t En.cls 0#256)
  (hp:∀a:Act,Instr.fill (fun i=>some (i*1,1)) (zbu 0#256).toArray (parts.map fun (i,x)=>(i,a.eval x)).toList=some (zbu x).toArray) (ho:o.op = .build t parts) (hg:o.guard=none):T P ops o L (Pd.rep En.cls x):=
 T.pure hg fun M n s0 a s hL=>by
  obtain ⟨i,h1,h2⟩:∃i,P.info? e=some i∧i.size=1:=by
   cases h:P.info? e with
   | none=>rw [h] at hi;cases hi
   | some i=>rw [h] at hi;exact ⟨i,rfl,by simpa using hi⟩
  obtain ⟨i',v,cs,h3,h4,h5,h6⟩:=hz.zero;have hc:cs=zbu 0#256:=h6 s.w (zgh s);subst hc;refine ⟨.agg (zbu x).toArray, ?_,rep_cls.2 rfl⟩;have hsz:(sizeOf e).run P s.w = .ok 1 s.w:=by simp [sizeOf,typeInfo,h1,h2]
  have hzv:(zeroValue t).run P s.w = .ok v s.w:=by simp [zeroValue,typeInfo,h3,h4]
  unfold execOp;rw [ho];simp only [Instr.build,Sem.run_bind,hzv,Result.andThen_ok,run_underlying ht,hsz,h5,hp a];rfl
end
end
end Go.Proofs.YtjdaaiodniicoaaGreatDoor.V
namespace Go.Proofs.YtjdaaiodniicoaaGreatDoor.V
open Go
set_option linter.unusedVariables false
section
variable {u : Bool} [Dr u]
def zqk (x c:Int):Int:=x / 2 ^ min c.toNat 64
def shlI (x c:Int):Int:=(x*2 ^ min c.toNat 64) % 18446744073709551616
def andI (x y:Int):Int:=((x.toNat &&& y.toNat:Nat):Int)
def orI (x y:Int):Int:=((x.toNat ||| y.toNat:Nat):Int)
def xorI (x y:Int):Int:=((x.toNat ^^^ y.toNat:Nat):Int)
def Cl.w (c:Cl) (i:Int):Int:=(c.word i.toNat:Int)
def Cl.setw (c:Cl) (i v:Int):Cl:=Cl.ofWords (if i=0 then v.toNat else c.word 0) (if i=1 then v.toNat else c.word 1) (if i=2 then v.toNat else c.word 2) (if i=3 then v.toNat else c.word 3)
theorem zin {x:Int}:InR .u64 x↔0≤x∧x≤18446744073709551615:=by simp [InR,IntKind.min,IntKind.max,IntKind.signed,IntKind.bits]
theorem zfm {x:Int}:InR .u8 x↔0≤x∧x≤255:=by simp [InR,IntKind.min,IntKind.max,IntKind.signed,IntKind.bits]
theorem zjo {x:Int}:InR .i64 x↔-9223372036854775808≤x∧x≤9223372036854775807:=by simp [InR,IntKind.min,IntKind.max,IntKind.signed,IntKind.bits]
theorem zm9 (x:Int):IntKind.u64.wrap x=x % 18446744073709551616:=by simp [IntKind.wrap,IntKind.signed,IntKind.bits]
theorem zqx {x:Int} (h:InR .u64 x):(BitVec.ofInt 64 x).toNat=x.toNat:=by
 rw [zin] at h;rw [BitVec.toNat_ofInt]
 congr 1
 exact Int.emod_eq_of_lt h.1 (by simp;omega)
theorem bits_lt {a b:Nat} (ha:a<2 ^ 64) (hb:b<2 ^ 64):(a &&& b)<2 ^ 64∧(a ||| b)<2 ^ 64∧(a ^^^ b)<2 ^ 64:=⟨Nat.and_lt_two_pow a hb,Nat.or_lt_two_pow ha hb,Nat.xor_lt_two_pow ha hb⟩
theorem zgn {x:Int} (h:InR .u64 x):x.toNat<2 ^ 64:=by rw [zin] at h;omega
section
variable {P : Program} {ops : Array Oper} {o : Oper} {L : Lst}
theorem t_shr {yk:IntKind} {x y:Operand} {a c:Int} (hx:Opn L x (Pd.rep (En.int .u64) a)) (hy:Opn L y (Pd.rep (En.int yk) c)) (hk:0≤yk.min) {t u:TypeId} (ho:o.op = .binOp .shr t x y u) (hg:o.guard=none):T P ops o L (Pd.rep (En.int .u64) (zqk a c)):=
 T.pure hg fun M n s0 ac s hL=>by
  obtain ⟨h1,r1⟩:=zbf.1 (hx M n s0 ac s hL);obtain ⟨h2,r2⟩:=zbf.1 (hy M n s0 ac s hL);have hc:0≤c:=Int.le_trans hk r2.1;refine ⟨.int .u64 (zqk a c), ?_,zbf.2 ⟨rfl, ?_⟩⟩
  ·unfold execOp;rw [ho];simp [h1,h2,eqGuard,binOp,shift_shr_any _ _ _ _ hc,zqk,IntKind.bits]
  ·rw [zin] at r1 ⊢;unfold zqk;have hp:(0:Int)<2 ^ min c.toNat 64:=Int.pow_pos (by decide);refine ⟨Int.ediv_nonneg r1.1 (Int.le_of_lt hp),Int.le_trans (Int.ediv_le_self _ r1.1) r1.2⟩
theorem t_shl {yk:IntKind} {x y:Operand} {a c:Int} (hx:Opn L x (Pd.rep (En.int .u64) a)) (hy:Opn L y (Pd.rep (En.int yk) c)) (hk:0≤yk.min) {t u:TypeId} (ho:o.op = .binOp .shl t x y u) (hg:o.guard=none):T P ops o L (Pd.rep (En.int .u64) (shlI a c)):=
 T.pure hg fun M n s0 ac s hL=>by
  obtain ⟨h1,r1⟩:=zbf.1 (hx M n s0 ac s hL);obtain ⟨h2,r2⟩:=zbf.1 (hy M n s0 ac s hL);have hc:0≤c:=Int.le_trans hk r2.1;refine ⟨.int .u64 (shlI a c), ?_,zbf.2 ⟨rfl, ?_⟩⟩
  ·unfold execOp;rw [ho];simp only [h1,h2,eqGuard,binOp,shift_shl_any _ _ _ _ hc];simp [shlI,zm9,IntKind.bits]
  ·rw [zin];unfold shlI;omega
theorem t_bits {x y:Operand} {a b:Int} (op:BinOp) (f:Int→Int→Int) (hf:∀a b:Int,InR .u64 a→InR .u64 b→(Op.intBits op .u64 a b:Sem Value)=Pure.pure (.int .u64 (f a b))∧InR .u64 (f a b)) (hop:op = .and∨op = .or∨op = .xor)
  (hx:Opn L x (Pd.rep (En.int .u64) a)) (hy:Opn L y (Pd.rep (En.int .u64) b)) {t u:TypeId} (ho:o.op = .binOp op t x y u) (hg:o.guard=none):T P ops o L (Pd.rep (En.int .u64) (f a b)):=
 T.pure hg fun M n s0 ac s hL=>by
  obtain ⟨h1,r1⟩:=zbf.1 (hx M n s0 ac s hL);obtain ⟨h2,r2⟩:=zbf.1 (hy M n s0 ac s hL);obtain ⟨e,r⟩:=hf a b r1 r2;refine ⟨.int .u64 (f a b), ?_,zbf.2 ⟨rfl,r⟩⟩;unfold execOp;rw [ho];simp only [h1,h2];rcases hop with rfl | rfl | rfl <;> simp [eqGuard,binOp,e]
theorem and_ok {a b:Int} (ha:InR .u64 a) (hb:InR .u64 b):(Op.intBits .and .u64 a b:Sem Value)=Pure.pure (.int .u64 (andI a b))∧InR .u64 (andI a b):=by
 have hl:=(bits_lt (zgn ha) (zgn hb)).1;have hr:InR .u64 (andI a b):=by rw [zin];unfold andI;omega
 refine ⟨?_,hr⟩;have e:((BitVec.ofInt 64 a &&& BitVec.ofInt 64 b).toNat:Int)=andI a b:=by rw [BitVec.toNat_and,zqx ha,zqx hb];rfl
 show (Pure.pure (.int .u64 (IntKind.u64.wrap ((BitVec.ofInt 64 a &&& BitVec.ofInt 64 b).toNat:Int))):Sem Value)=_;rw [e,zi4 hr]
theorem or_ok {a b:Int} (ha:InR .u64 a) (hb:InR .u64 b):(Op.intBits .or .u64 a b:Sem Value)=Pure.pure (.int .u64 (orI a b))∧InR .u64 (orI a b):=by
 have hl:=(bits_lt (zgn ha) (zgn hb)).2.1;have hr:InR .u64 (orI a b):=by rw [zin];unfold orI;omega
 refine ⟨?_,hr⟩;have e:((BitVec.ofInt 64 a ||| BitVec.ofInt 64 b).toNat:Int)=orI a b:=by rw [BitVec.toNat_or,zqx ha,zqx hb];rfl
 show (Pure.pure (.int .u64 (IntKind.u64.wrap ((BitVec.ofInt 64 a ||| BitVec.ofInt 64 b).toNat:Int))):Sem Value)=_;rw [e,zi4 hr]
theorem xor_ok {a b:Int} (ha:InR .u64 a) (hb:InR .u64 b):(Op.intBits .xor .u64 a b:Sem Value)=Pure.pure (.int .u64 (xorI a b))∧InR .u64 (xorI a b):=by
 have hl:=(bits_lt (zgn ha) (zgn hb)).2.2;have hr:InR .u64 (xorI a b):=by rw [zin];unfold xorI;omega
 refine ⟨?_,hr⟩;have e:((BitVec.ofInt 64 a ^^^ BitVec.ofInt 64 b).toNat:Int)=xorI a b:=by rw [BitVec.toNat_xor,zqx ha,zqx hb];rfl
 show (Pure.pure (.int .u64 (IntKind.u64.wrap ((BitVec.ofInt 64 a ^^^ BitVec.ofInt 64 b).toNat:Int))):Sem Value)=_;rw [e,zi4 hr]
theorem t_andb {x y:Operand} {a b:Int} (hx:Opn L x (Pd.rep (En.int .u64) a)) (hy:Opn L y (Pd.rep (En.int .u64) b)) {t u:TypeId} (ho:o.op = .binOp .and t x y u) (hg:o.guard=none):T P ops o L (Pd.rep (En.int .u64) (andI a b)):=
 t_bits .and andI (fun _ _=>and_ok) (.inl rfl) hx hy ho hg
theorem t_orb {x y:Operand} {a b:Int} (hx:Opn L x (Pd.rep (En.int .u64) a)) (hy:Opn L y (Pd.rep (En.int .u64) b)) {t u:TypeId} (ho:o.op = .binOp .or t x y u) (hg:o.guard=none):T P ops o L (Pd.rep (En.int .u64) (orI a b)):=
 t_bits .or orI (fun _ _=>or_ok) (.inr (.inl rfl)) hx hy ho hg
theorem t_com {x:Operand} {a:Int} (hx:Opn L x (Pd.rep (En.int .u64) a)) {t:TypeId} (ho:o.op = .unOp .xor t x) (hg:o.guard=none):T P ops o L (Pd.rep (En.int .u64) (xorI 18446744073709551615 a)):=
 T.pure hg fun M n s0 ac s hL=>by
  obtain ⟨h1,r1⟩:=zbf.1 (hx M n s0 ac s hL);obtain ⟨e,r⟩:=xor_ok (a:=18446744073709551615) (by decide) r1;refine ⟨.int .u64 (xorI 18446744073709551615 a), ?_,zbf.2 ⟨rfl,r⟩⟩;unfold execOp;rw [ho];have hm:IntKind.u64.max=18446744073709551615:=by decide
  have hs:IntKind.u64.signed=false:=rfl;simp [h1,Op.unary,hm,hs,e]
theorem t_wr {k:IntKind} {x y:Operand} {a b:Int} (op:BinOp) (f:Int→Int→Int) (hf:∀a b,(Op.intArith op k a b:Sem Value)=Pure.pure (.int k (k.wrap (f a b)))) (hop:op = .add∨op = .sub∨op = .mul)
  (hx:Opn L x (Pd.rep (En.int k) a)) (hy:Opn L y (Pd.rep (En.int k) b)) {t u:TypeId} (ho:o.op = .binOp op t x y u) (hg:o.guard=none):T P ops o L (Pd.rep (En.int k) (k.wrap (f a b))):=
 T.pure hg fun M n s0 ac s hL=>by
  have h1:=(zbf.1 (hx M n s0 ac s hL)).1;have h2:=(zbf.1 (hy M n s0 ac s hL)).1;refine ⟨.int k (k.wrap (f a b)), ?_,zbf.2 ⟨rfl,wrap_inR k _⟩⟩;unfold execOp;rw [ho];simp only [h1,h2];rcases hop with rfl | rfl | rfl <;> simp [eqGuard,binOp,hf]
theorem t_addw {k:IntKind} {x y:Operand} {a b:Int} (hx:Opn L x (Pd.rep (En.int k) a)) (hy:Opn L y (Pd.rep (En.int k) b)) {t u:TypeId} (ho:o.op = .binOp .add t x y u) (hg:o.guard=none):T P ops o L (Pd.rep (En.int k) (IntKind.wrap k (a+b))):=t_wr .add (· + ·) (fun _ _=>rfl) (.inl rfl) hx hy ho hg
theorem t_subw {k:IntKind} {x y:Operand} {a b:Int} (hx:Opn L x (Pd.rep (En.int k) a)) (hy:Opn L y (Pd.rep (En.int k) b)) {t u:TypeId} (ho:o.op = .binOp .sub t x y u) (hg:o.guard=none):T P ops o L (Pd.rep (En.int k) (IntKind.wrap k (a-b))):=t_wr .sub (· - ·) (fun _ _=>rfl) (.inr (.inl rfl)) hx hy ho hg
theorem t_mulw {k:IntKind} {x y:Operand} {a b:Int} (hx:Opn L x (Pd.rep (En.int k) a)) (hy:Opn L y (Pd.rep (En.int k) b)) {t u:TypeId} (ho:o.op = .binOp .mul t x y u) (hg:o.guard=none):T P ops o L (Pd.rep (En.int k) (IntKind.wrap k (a*b))):=t_wr .mul (· * ·) (fun _ _=>rfl) (.inr (.inr rfl)) hx hy ho hg
theorem div_in {k:IntKind} {a b:Int} (h0:0≤a) (hb:0<b) (hr:InR k a) (hk:k.min≤0):InR k (a / b)∧InR k (a % b):=by
 have h1:0≤a / b:=Int.ediv_nonneg h0 (Int.le_of_lt hb);have h2:a / b≤a:=Int.ediv_le_self _ h0;have h3:0≤a % b:=Int.emod_nonneg _ (by omega);have h4:a % b≤a:=by
  have:=Int.mul_ediv_add_emod a b;have:0≤b*(a / b):=Int.mul_nonneg (Int.le_of_lt hb) h1;omega
 exact ⟨⟨Int.le_trans hk h1,Int.le_trans h2 hr.2⟩,⟨Int.le_trans hk h3,Int.le_trans h4 hr.2⟩⟩
theorem t_quo {k:IntKind} {x y:Operand} {a b:Int} (hx:Opn L x (Pd.rep (En.int k) a)) (hy:Opn L y (Pd.rep (En.int k) b)) (h0:0≤a) (hb:0<b) {t u:TypeId} (ho:o.op = .binOp .quo t x y u) (hg:o.guard=none):T P ops o L (Pd.rep (En.int k) (a / b)):=
 T.pure hg fun M n s0 ac s hL=>by
  obtain ⟨h1,r1⟩:=zbf.1 (hx M n s0 ac s hL);obtain ⟨h2,r2⟩:=zbf.1 (hy M n s0 ac s hL);have hr:=(div_in (k:=k) h0 hb r1 (by cases k <;> decide)).1;refine ⟨.int k (a / b), ?_,zbf.2 ⟨rfl,hr⟩⟩;unfold execOp;rw [ho];simp [h1,h2,eqGuard,binOp,Op.intDiv,show b≠0 by omega,Int.tdiv_eq_ediv_of_nonneg h0,zi4 hr]
theorem t_rem {k:IntKind} {x y:Operand} {a b:Int} (hx:Opn L x (Pd.rep (En.int k) a)) (hy:Opn L y (Pd.rep (En.int k) b)) (h0:0≤a) (hb:0<b) {t u:TypeId} (ho:o.op = .binOp .rem t x y u) (hg:o.guard=none):T P ops o L (Pd.rep (En.int k) (a % b)):=
 T.pure hg fun M n s0 ac s hL=>by
  obtain ⟨h1,r1⟩:=zbf.1 (hx M n s0 ac s hL);obtain ⟨h2,r2⟩:=zbf.1 (hy M n s0 ac s hL);have hr:=(div_in (k:=k) h0 hb r1 (by cases k <;> decide)).2;refine ⟨.int k (a % b), ?_,zbf.2 ⟨rfl,hr⟩⟩;unfold execOp;rw [ho];simp [h1,h2,eqGuard,binOp,Op.intDiv,show b≠0 by omega,Int.tmod_eq_emod_of_nonneg h0]
theorem t_quou {k:IntKind} {x y:Operand} {a b:Int} (hx:Opn L x (Pd.rep (En.int k) a)) (hy:Opn L y (Pd.rep (En.int k) b)) (hk:0≤k.min) (hb:0<b) {t u:TypeId} (ho:o.op = .binOp .quo t x y u) (hg:o.guard=none):T P ops o L (Pd.rep (En.int k) (a / b)):=
 fun M n s0 ac s hL=>t_quo hx hy (Int.le_trans hk (zbf.1 (hx M n s0 ac s hL)).2.1) hb ho hg M n s0 ac s hL
theorem t_remu {k:IntKind} {x y:Operand} {a b:Int} (hx:Opn L x (Pd.rep (En.int k) a)) (hy:Opn L y (Pd.rep (En.int k) b)) (hk:0≤k.min) (hb:0<b) {t u:TypeId} (ho:o.op = .binOp .rem t x y u) (hg:o.guard=none):T P ops o L (Pd.rep (En.int k) (a % b)):=
 fun M n s0 ac s hL=>t_rem hx hy (Int.le_trans hk (zbf.1 (hx M n s0 ac s hL)).2.1) hb ho hg M n s0 ac s hL
theorem word_in (c:Cl) (i:Int):InR .u64 (c.w i):=by
 have:=c.word_lt i.toNat;rw [zin];unfold Cl.w;omega
theorem cls_cell {c:Cl} {i:Int} (h0:0≤i) (h4:i<4):(zbu c)[i.toNat]?=some (.int .u64 (c.w i)):=by
 have:i=0∨i=1∨i=2∨i=3:=by omega
 rcases this with rfl | rfl | rfl | rfl <;> rfl
theorem run_idxc {t te:TypeId} {k:IntKind} {i:Int} {b off:Nat} (h:0≤i∧i<4) (ht:P.underlying t=some (.array 4 te)) (hi:(P.info? te).map (·.size)=some 1) (w:World):
  (Instr.indexAt t (.pointer (some ⟨b,off,none⟩)) (.int k i)).run P w = .ok (.pointer (some ⟨b,off+i.toNat,none⟩)) w:=by
 obtain ⟨inf,h1,h2⟩:∃i,P.info? te=some i∧i.size=1:=by
  cases h:P.info? te with
  | none=>rw [h] at hi;cases hi
  | some i=>rw [h] at hi;exact ⟨i,rfl,by simpa using hi⟩
 have hsz:∀w:World,(sizeOf te).run P w = .ok 1 w:=fun w=>by simp [sizeOf,typeInfo,h1,h2]
 simp only [Instr.indexAt,asIntOf,Sem.run_bind,Sem.run_pure,Result.andThen_ok,run_underlying ht,Instr.sureAddr];rw [if_pos (by omega)];simp [hsz,zfr]
theorem t_idxc {c:Cl} {k:IntKind} {i:Int} {x y:Operand} {t te:TypeId} (hx:Opn L x (Pd.ptr En.cls c)) (hy:Opn L y (Pd.rep (En.int k) i)) (h:0≤i∧i<4)
  (ht:P.underlying t=some (.array 4 te)) (hi:(P.info? te).map (·.size)=some 1) (ho:o.op = .indexAddr t x y) (hg:o.guard=none):T P ops o L (Pd.ptr (En.int .u64) (c.w i)):=
 T.pure hg fun M n s0 ac s hL=>by
  obtain ⟨b,off,cs,hv,hb,hc,hR⟩:=hx M n s0 ac s hL;cases hR;have hi':=(zbf.1 (hy M n s0 ac s hL)).1;refine ⟨.pointer (some ⟨b,off+i.toNat,none⟩), ?_,b,off+i.toNat,[.int .u64 (c.w i)],rfl,hb, ?_,rfl,word_in c i⟩
  ·unfold execOp;rw [ho];have:=run_idxc (P:=P) (b:=b) (off:=off) (k:=k) h ht hi s.w;simp [hv,hi',this]
  ·intro j u hj;cases j with
   | zero=>simp at hj;subst hj;exact hc _ _ (cls_cell h.1 h.2)
   | succ j=>simp at hj
theorem t_idxcb {c:Cl} {k:IntKind} {i:Int} {N g:Nat} {x y:Operand} {t te:TypeId} (hx:Opn L x (Pd.box En.cls N g c)) (hy:Opn L y (Pd.rep (En.int k) i)) (h:0≤i∧i<4)
  (ht:P.underlying t=some (.array 4 te)) (hi:(P.info? te).map (·.size)=some 1) (ho:o.op = .indexAddr t x y) (hg:o.guard=none):T P ops o L (Pd.optr (En.int .u64) N (some g) i.toNat (c.w i)):=
 T.pure hg fun M n s0 ac s hL=>by
  obtain ⟨hv,hN,hX,cs,t',hc,hR⟩:=hx M n s0 ac s hL;cases hR;have hi':=(zbf.1 (hy M n s0 ac s hL)).1;refine ⟨.pointer (some ⟨g,0+i.toNat,none⟩), ?_,g,rfl,by rw [Nat.zero_add],hN,(Array.getElem?_eq_some_iff.1 hc).1,hX,[.int .u64 (c.w i)], ?_,rfl,word_in c i⟩
  ·unfold execOp;rw [ho];have:=run_idxc (P:=P) (b:=g) (off:=0) (k:=k) h ht hi s.w;simp only [hv,hi',Sem.run_bind,this,Result.andThen_ok,Sem.run_pure]
  ·intro j u hj;cases j with
   | zero=>
    simp at hj;subst hj;have:=zd8 hc i.toNat _ (cls_cell h.1 h.2);simpa using this
   | succ j=>simp at hj
theorem zq6 {c:Cl} {i v:Int} (h:0≤i∧i<4):Sub En.cls i.toNat (En.int .u64) c (c.setw i v) v:=by
 refine ⟨by show i.toNat+1≤4;omega, ?_⟩;rintro w S cs cs' hR ⟨hc,hr⟩;cases hR;subst hc;show spl (zbu c) i.toNat [.int .u64 v]=zbu (c.setw i v);have hv:((v.toNat:Nat):Int)=v:=by rw [zin] at hr;omega
 have hl:=zgn hr;have h0:=c.word_lt 0;have h1:=c.word_lt 1;have h2:=c.word_lt 2;have h3:=c.word_lt 3;have:i=0∨i=1∨i=2∨i=3:=by omega
 rcases this with rfl | rfl | rfl | rfl
 ·obtain ⟨e0,e1,e2,e3⟩:=Cl.ofWords_word hl h1 h2 h3;simp [zbu,spl,Cl.setw,e0,e1,e2,e3,hv]
 ·obtain ⟨e0,e1,e2,e3⟩:=Cl.ofWords_word h0 hl h2 h3;simp [zbu,spl,Cl.setw,e0,e1,e2,e3,hv]
 ·obtain ⟨e0,e1,e2,e3⟩:=Cl.ofWords_word h0 h1 hl h3;simp [zbu,spl,Cl.setw,e0,e1,e2,e3,hv]
 ·obtain ⟨e0,e1,e2,e3⟩:=Cl.ofWords_word h0 h1 h2 hl;simp [zbu,spl,Cl.setw,e0,e1,e2,e3,hv]
end
end
end Go.Proofs.YtjdaaiodniicoaaGreatDoor.V
namespace Go.Proofs.YtjdaaiodniicoaaGreatDoor.V
open Go
theorem zck:Tryz.prog.follows .mixedOrders=true:=by kernel_rfl
theorem laid:laidOutB Tryz.prog=true:=by kernel_rfl
theorem own:ownKnob Tryz.prog.godebug=none:=by kernel_rfl
set_option linter.unusedVariables false
section
variable {u : Bool} [Dr u]
def Pd.prow {α:Type} (E:En α) (te:TypeId) (v0:Value) (xs:List α):Pd:=
 ⟨fun s v=>v=v0∧(Pd.row E 0 te v0.ownBlock xs).p s v,fun b=>v0.ownBlock=some b,fun h hb hp=>⟨hp.1,(Pd.row E 0 te v0.ownBlock xs).mv h hb hp.2⟩⟩
section
variable {P : Program} {ops : Array Oper} {o : Oper} {L L' : Lst} {Q : Exit → Act → World → Prop} {rest : List Oper} {M : Nat → Prop} {n : Nat} {s0 : St} {a : Act} {s : St}
theorem o_p {α:Type} {E:En α} {te:TypeId} {v0:Value} {xs:List α} {x:Operand} (h:Opn L x (Pd.prow E te v0 xs)):Opn L x (Pd.row E 0 te v0.ownBlock xs):=fun M n s0 a s hL=>(h M n s0 a s hL).2
theorem zfs {α β:Type} {E:En α} {E':En β} {xs:List α} {e0 e1:α} {y0 y1:β} {v0:Value} {off:Nat} {i:Int} {x y:Operand} {t te:TypeId} (c:Nat) (hw:∀b,v0.ownBlock=some b→M b) (hL:Has M n s0 a s L) (hc:lk L c=some (Pd.prow E te v0 xs)) (hi:at? xs i=some e0)
  (hx:Opn L x (Pd.optr E' 0 v0.ownBlock (i.toNat*E.sz+off) y0)) (hy:Opn L y (Pd.rep E' y1)) (hs:Sub E off E' e0 e1 y1) (ht:Ty P t E') (ho:o.op = .store t x y) (hg:o.guard=none) (hd:o.dst=none) (hk:Kw (fun b=>v0.ownBlock=some b) L (Pd.prow E te v0 xs) (Pd.prow E te v0 (xs.set i.toNat e1)) L')
  (k:∀s',Has M n s0 a s' L'→wpList P ops Q rest a s'.w):wpList P ops Q (o::rest) a s.w:=by
 have hrow:=hL.get c hc;exact st_storC hrow.2 hi (hx M n s0 a s hL) (hy M n s0 a s hL) hs ht ho hg hd fun s' e hX hr=>k s' (hL.turn e (.inr hw) hX hk fun v hv=>⟨hv.1,by have h1:=hrow.1;rw [h1] at hr;rw [hv.1];exact hr⟩)
theorem ze9 {α:Type} {E:En α} {te:TypeId} {xs ys:List α} {v0:Value} {f:FuncId} {x0:Operand} {zs:List Operand} {qs:List Pd} {ats:Array TypeId} (d:Nat)
  (hf:∀v0:Value,Fm P f (fun b=>v0.ownBlock=some b) (Pd.prow E te v0 xs::qs) (fun _ s' _=>(Pd.prow E te v0 ys).p s' v0))
  (hL:Has M n s0 a s L) (hw:∀b,v0.ownBlock=some b→M b) (hx0:Opn L x0 (Pd.prow E te v0 xs)) (hx:zp5 L zs qs)
  (ho:o.op = .call { callee:=.value (.func f),args:=(x0::zs).toArray,argTypes:=ats }) (hg:o.guard=none) (hd:o.dst=some d) (hn:Nat.blt d n=true) (hk:Kw (fun b=>v0.ownBlock=some b) L (Pd.prow E te v0 xs) (Pd.prow E te v0 ys) L')
  (k:∀a' s',Has M n s0 a' s' ((d,Pd.any)::L')→wpList P ops Q rest a' s'.w):wpList P ops Q (o::rest) a s.w:=by
 refine wpList_plain hg fun K hK=>?_;have hv:=hx0 M n s0 a s hL;have hcall:=(hf v0).call ((x0::zs).map a.eval).toArray s.w;have e:execOp a.eval o=callFunc f (#[]++((x0::zs).toArray).map a.eval ++ #[]):=by unfold execOp;rw [ho];rfl
 have hrun:(execOp a.eval o).run P s.w = .ok (.enter f ((x0::zs).map a.eval).toArray) s.w:=by rw [e];simpa using hcall
 unfold Oper.wp;rw [hrun,Oper.upon_enter];have hX:∀b,v0.ownBlock=some b→s.X b:=fun b hb=>hv.2.2.1 b hb;have hvals:Vals s (Pd.prow E te v0 xs::qs) ((x0::zs).map a.eval):=⟨hv,hx.vals hL⟩;refine ((hf v0).run s _ hL.gls hX hvals).mono fun en w' ⟨v,s',he,hw',hfr,hp⟩=>?_;subst he;subst hw';refine hK _ _ ?_;have hef:Ef (fun b=>v0.ownBlock=some b) s s':=⟨hfr.mv,fun b hb _=>hfr.keep b hb⟩;have hL2:=hL.turn hef (.inr hw) hfr.keep hk fun u hu=>by rw [hu.1];exact hp
 rw [hd];exact k _ s' (hL2.put' hn trivial)
theorem zjw {α:Type} {E:En α} {te:TypeId} {xs ys:List α} {og:Option Nat} {f:FuncId} {x0:Operand} {zs:List Operand} {qs:List Pd} {ats:Array TypeId} (d:Nat)
  (hf:∀v0:Value,Fm P f (fun b=>v0.ownBlock=some b) (Pd.prow E te v0 xs::qs) (fun _ s' _=>(Pd.prow E te v0 ys).p s' v0))
  (hL:Has M n s0 a s L) (hx0:Opn L x0 (Pd.row E s0.w.heap.size te og xs)) (hx:zp5 L zs qs)
  (ho:o.op = .call { callee:=.value (.func f),args:=(x0::zs).toArray,argTypes:=ats }) (hg:o.guard=none) (hd:o.dst=some d) (hn:Nat.blt d n=true) (hk:Kw (fun b=>og=some b) L (Pd.row E s0.w.heap.size te og xs) (Pd.row E s0.w.heap.size te og ys) L')
  (k:∀a' s',Has M n s0 a' s' ((d,Pd.any)::L')→wpList P ops Q rest a' s'.w):wpList P ops Q (o::rest) a s.w:=by
 refine wpList_plain hg fun K hK=>?_;have hv:=hx0 M n s0 a s hL;obtain ⟨v0,hv0⟩:∃v0,a.eval x0=v0:=⟨_,rfl⟩;rw [hv0] at hv;have hog:v0.ownBlock=og:=hv.1;have hcall:=(hf v0).call ((x0::zs).map a.eval).toArray s.w;have e:execOp a.eval o=callFunc f (#[]++((x0::zs).toArray).map a.eval ++ #[]):=by unfold execOp;rw [ho];rfl
 have hrun:(execOp a.eval o).run P s.w = .ok (.enter f ((x0::zs).map a.eval).toArray) s.w:=by rw [e];simpa using hcall
 unfold Oper.wp;rw [hrun,Oper.upon_enter];have hX:∀b,v0.ownBlock=some b→s.X b:=fun b hb=>hv.2.1 b (by rw [← hog];exact hb);have hvals:Vals s (Pd.prow E te v0 xs::qs) ((x0::zs).map a.eval):=⟨⟨hv0,by rw [hv0,hog];exact zrf (Nat.zero_le _) hv⟩,hx.vals hL⟩;refine ((hf v0).run s _ hL.gls hX hvals).mono fun en w' ⟨v,s',he,hw',hfr,hp⟩=>?_;subst he;subst hw';refine hK _ _ ?_;have hef:Ef (fun b=>og=some b) s s':=by
  have:=hfr.mv;simp only [hog] at this;exact ⟨this,fun b hb _=>hfr.keep b hb⟩
 have hlt:=ziw hv;have hrow:(Pd.row E s0.w.heap.size te og ys).p s' v0:=by
  obtain ⟨_,h1,h2,h3,css,h4,h5⟩:=hp;rw [hog] at h1 h2;refine ⟨hog,h2,h3,css,h4,h5.1,h5.2.imp id ?_⟩;rintro ⟨g,cap,cur,e,_,r⟩;exact ⟨g,cap,cur,e,(hlt g (by rw [← hog,e];rfl)).1,r⟩
 have hL2:=hL.turn hef (.inl fun b hb=>(hlt b hb).1) hfr.keep hk fun u hu=>by rw [row_uniq hu hv];exact hrow
 rw [hd];exact k _ s' (hL2.put' hn trivial)
theorem retm {α:Type} {E:En α} {te:TypeId} {v0:Value} {ys:List α} {fn:Func} {c:Nat} (hr:fn.results = #[]) (hL:Has M n s0 a s L) (hc:lk L c=some (Pd.prow E te v0 ys)):
  bodyPost P fn (Pst M (fun _ s' _=>(Pd.prow E te v0 ys).p s' v0) s0) .ret a s.w:=by
 have h:=hL.get c hc;refine ⟨hL.defers,.tuple #[], ?_,.tuple #[],s,rfl,rfl,hL.ent, ?_⟩
 ·simp [results,hr]
 ·have e:=h.1;rw [e] at h;exact h
end
theorem t_cvt {P:Program} {ops:Array Oper} {o:Oper} {L:Lst} {k k':IntKind} {x:Int} {y:Operand} {t u:TypeId} (hy:Opn L y (Pd.rep (En.int k) x)) (ht:P.underlying t=some (.int k)) (hu:P.underlying u=some (.int k')) (ho:o.op = .convert t u y) (hg:o.guard=none):
  T P ops o L (Pd.rep (En.int k') (IntKind.wrap k' x)):=
 T.pure hg fun M n s0 ac s hL=>by
  obtain ⟨h1,h2⟩:=zbf.1 (hy M n s0 ac s hL);refine ⟨.int k' (k'.wrap x), ?_,zbf.2 ⟨rfl,by simpa [Lit.wf,InR] using wf_wrap k' x⟩⟩;unfold execOp;rw [ho];have:=zrd (k:=k) (k':=k') (x:=x) ht hu s.w;simp only [h1,Sem.run_bind,this,Result.andThen_ok,Sem.run_pure]
theorem t_min {P:Program} {ops:Array Oper} {o:Oper} {L:Lst} {k:IntKind} {x y:Int} {u v:Operand} {ats:Array TypeId} (hx:Opn L u (Pd.rep (En.int k) x)) (hy:Opn L v (Pd.rep (En.int k) y)) (ho:o.op = .call { callee:=.builtin .min,args:=#[u,v],argTypes:=ats }) (hg:o.guard=none):
  T P ops o L (Pd.rep (En.int k) (min x y)):=
 T.pure hg fun M n s0 ac s hL=>by
  obtain ⟨h1,h2⟩:=zbf.1 (hx M n s0 ac s hL);obtain ⟨h3,h4⟩:=zbf.1 (hy M n s0 ac s hL);refine ⟨.int k (min x y), ?_,zbf.2 ⟨rfl,by unfold InR at *;omega⟩⟩;unfold execOp;rw [ho];simp only [resolve,invoke,builtin,Builtin.min_,Sem.run_bind,Sem.run_pure,Result.andThen_ok];simp [h1,h3,Builtin.min2]
  by_cases h:x≤y
  ·simp [Int.min_eq_left h,Int.not_lt.2 h]
  ·have h':y≤x:=by omega
   simp [Int.min_eq_right h',Int.not_le.1 h]
theorem t_max {P:Program} {ops:Array Oper} {o:Oper} {L:Lst} {k:IntKind} {x y:Int} {u v:Operand} {ats:Array TypeId} (hx:Opn L u (Pd.rep (En.int k) x)) (hy:Opn L v (Pd.rep (En.int k) y)) (ho:o.op = .call { callee:=.builtin .max,args:=#[u,v],argTypes:=ats }) (hg:o.guard=none):
  T P ops o L (Pd.rep (En.int k) (max x y)):=
 T.pure hg fun M n s0 ac s hL=>by
  obtain ⟨h1,h2⟩:=zbf.1 (hx M n s0 ac s hL);obtain ⟨h3,h4⟩:=zbf.1 (hy M n s0 ac s hL);refine ⟨.int k (max x y), ?_,zbf.2 ⟨rfl,by unfold InR at *;omega⟩⟩;unfold execOp;rw [ho];simp only [resolve,invoke,builtin,Builtin.max_,Sem.run_bind,Sem.run_pure,Result.andThen_ok];simp [h1,h3,Builtin.max2]
  by_cases h:x≤y
  ·simp [Int.max_eq_right h];omega
  ·have h':y≤x:=by omega
   simp [Int.max_eq_left h'];omega
def En.fun (P:Program) {β:Type} (qs:β→List Pd) (R:β→St→St→Value→Prop):En (β→Prop) where
 sz:=1
 agg:=false
 R:=fun w S cs F=>(cs=[.nilFunc]∧∀q,¬ F q)∨∃(f:FuncId) (first cap:Array Value),cs=[.func (.func f) first cap]∧(∀(args:Array Value) (w:World),(callFunc f args).run P w = .ok (.enter f args) w) ∧
  ∀s:St,Gl s→(∀b,S b→zgh s b)→Same S w s.w→∀q,F q→∀vs,Vals s (qs q) vs→Calls P f (first++vs.toArray++cap) s.w fun e w'=>∃(v:Value) (s':St),e = .returned v∧s'.w=w'∧Ex s s'∧R q s s' v
 sc:=fun _=>rfl
 pos:=Nat.one_pos
 len:=by rintro _ _ _ _ (⟨rfl,_⟩ | ⟨_,_,_,rfl,_⟩) <;> rfl
 one:=by rintro _ _ _ _ (⟨rfl,_⟩ | ⟨_,_,_,rfl,_⟩) u hu <;> (simp at hu;subst hu;rfl)
 mono:=by
  rintro w S S' cs F h (h0 | ⟨f,first,cap,hc,h1,h2⟩)
  ·exact .inl h0
  ·exact .inr ⟨f,first,cap,hc,h1,fun s hg ha hb=>h2 s hg (fun b hS=>ha b (h b hS)) fun b hS=>hb b (h b hS)⟩
 move:=by
  rintro w w' S cs F h (h0 | ⟨f,first,cap,hc,h1,h2⟩)
  ·exact .inl h0
  ·exact .inr ⟨f,first,cap,hc,h1,fun s hg ha hb=>h2 s hg ha fun b hS=>(hb b hS).trans (h b hS)⟩
def Pd.Enc (q:Pd):Prop:=∀s s' v,(∀b,zgh s b→zgh s' b)→Same (zgh s) s.w s'.w→q.p s v→q.p s' v
theorem enc_rep {α:Type} {E:En α} {x:α}:(Pd.rep E x).Enc:=fun s s' v hf hs ⟨cs,hv,hR⟩=>⟨cs,hv,E.mono hf (E.move hs hR)⟩
theorem zjq {α:Type} {E:En α} {x:α}:(Pd.ptr E x).Enc:=fun s s' v hf hs ⟨b,o,cs,hv,hb,hc,hR⟩=>⟨b,o,cs,hv,hf b hb,hc.same (hs b hb),E.mono hf (E.move hs hR)⟩
theorem zna {s s':St} (hf:∀b,zgh s b→zgh s' b) (hs:Same (zgh s) s.w s'.w):∀{qs:List Pd} {vs:List Value},(∀q∈qs,q.Enc)→Vals s qs vs→Vals s' qs vs
 | [],[],_,h=>h
 | [],_::_,_,h=>h.elim
 | _::_,[],_,h=>h.elim
 | q::qs,v::vs,ho,h=>⟨ho q (by simp) s s' v hf hs h.1,zna hf hs (fun q' hq'=>ho q' (by simp [hq'])) h.2⟩
theorem zk1 {s:St}:∀{qs qs':List Pd} {vs vs':List Value},Vals s qs vs→Vals s qs' vs'→Vals s (qs++qs') (vs++vs')
 | [],_,[],_,_,h=>h
 | [],_,_::_,_,h,_=>h.elim
 | _::_,_,[],_,h,_=>h.elim
 | _::_,_,_::_,_,h,k=>⟨h.1,zk1 h.2 k⟩
section
variable {P : Program} {ops : Array Oper} {o : Oper} {L : Lst} {β : Type} {qs : β → List Pd} {R : β → St → St → Value → Prop} {F : β → Prop}
theorem o_fun {f:FuncId} (hc:∀(args:Array Value) (w:World),(callFunc f args).run P w = .ok (.enter f args) w) (h:∀q,F q→Fn P f (qs q) (R q)):Opn L (.func f) (Pd.rep (En.fun P qs R) F):=
 fun M n s0 a s hL=>⟨[.func (.func f) #[] #[]],rfl,.inr ⟨f,#[],#[],rfl,hc,fun s1 hgl _ _ q hq vs hv=>by simpa using (h q hq).run s1 vs hgl hv⟩⟩
theorem t_mkfun {f:FuncId} {cs:List Operand} {qc:List Pd} (hx:zp5 L cs qc) (hc:∀(args:Array Value) (w:World),(callFunc f args).run P w = .ok (.enter f args) w)
  (henc:∀q∈qc,q.Enc) (h:∀q,F q→Fn P f (qs q++qc) (R q)) (ho:o.op = .makeFunc (.func f) #[] cs.toArray) (hg:o.guard=none):T P ops o L (Pd.rep (En.fun P qs R) F):=
 T.pure hg fun M n s0 a s hL=>by
  refine ⟨.func (.func f) #[] (cs.map a.eval).toArray, ?_,[.func (.func f) #[] (cs.map a.eval).toArray],rfl,.inr ⟨f,#[],(cs.map a.eval).toArray,rfl,hc,fun s1 hgl hf hs q hq vs hv=>?_⟩⟩
  ·unfold execOp;rw [ho];simp [Instr.makeFunc]
  ·have:=(h q hq).run s1 (vs++cs.map a.eval) hgl (zk1 hv (zna hf hs henc (hx.vals hL)));simpa using this
theorem zgq {t:Nat} {xs:List Operand} {q:β} {q':Pd} {ats:Array TypeId} (hf:Opn L (.tmp t) (Pd.rep (En.fun P qs R) F)) (hq:F q) (hx:zp5 L xs (qs q)) (hR:∀s s' v,R q s s' v→q'.p s' v)
  (ho:o.op = .call { callee:=.value (.tmp t),args:=xs.toArray,argTypes:=ats }) (hg:o.guard=none):T P ops o L q':=fun M n s0 a s hL Q k hk=>by
 simp only [Region.wanted,hg,if_true];obtain ⟨cs,hv,h⟩:=hf M n s0 a s hL;rcases h with ⟨_,h0⟩ | ⟨f,first,cap,hcs,hc,hr⟩
 ·exact (h0 q hq).elim
 subst hcs;have hv:a.eval (.tmp t) = .func (.func f) first cap:=hv
 have e:(execOp a.eval o).run P s.w = .ok (.enter f (first++(xs.map a.eval).toArray++cap)) s.w:=by
  have e1:execOp a.eval o=(do let d ← Deferred.ofValue (a.eval (.tmp t)) (xs.toArray.map a.eval);invoke d.target d.args):=by
   unfold execOp;rw [ho];rfl
  rw [e1,hv];have:=hc (first++(xs.map a.eval).toArray++cap) s.w;simpa [Deferred.ofValue,invoke] using this
 unfold Oper.wp;rw [e,Oper.upon_enter];refine (hr s hL.gls (fun _ h=>h) (fun _ _=>rfl) q hq _ (hx.vals hL)).mono fun e w' ⟨v,s',he,hw,hx,hq⟩=>?_;subst he;subst hw;exact hk v s' ⟨hx,hR _ _ _ hq⟩
end
theorem zf9:∀q∈([]:List Pd),q.Enc:=fun q h=>by cases h
theorem zfw {q:Pd} {qs:List Pd} (h:q.Enc) (k:∀q∈qs,q.Enc):∀q'∈q::qs,q'.Enc:=fun q' hq=>(List.mem_cons.1 hq).elim (fun e=>e ▸ h) (k q')
theorem ze1 {P:Program} {f:FuncId} {fn:Func} {c:Code} (hf:P.funcs[f]?=some fn) (hb:fn.body=some c) (hm:(fn.name == "runtime.NumGoroutine")=false):∀(args:Array Value) (w:World),(callFunc f args).run P w = .ok (.enter f args) w:=fun args w=>by
 have hm':¬ fn.name = "runtime.NumGoroutine":=by simpa using hm
 simp [callFunc,hf,hm',hb]
theorem o_q {L:Lst} {x:Operand} (q:Pd) (h:Opn L x q):Opn L x q:=h
theorem t_q {P:Program} {ops:Array Oper} {o:Oper} {L:Lst} (q:Pd) (h:T P ops o L q):T P ops o L q:=h
theorem Has.freezeb {α:Type} {E:En α} {g:Nat} {x:α} {M:Nat→Prop} {n:Nat} {s0:St} {a:Act} {s:St} {L L':Lst} (h:Has M n s0 a s L) (t:Nat) (hl:lk L t=some (Pd.box E s0.w.heap.size g x))
  (hk:Kp (fun b=>some g=some b) L L'):∃s',s'.w=s.w∧Has M n s0 a s' ((t,Pd.ptr E x)::L'):=by
 obtain ⟨hv,hN,hX,cs,te,hg,hR⟩:=h.get t hl;refine ⟨⟨s.w,fun b=>s.X b∧¬ some g=some b,fun b hb=>s.lt b hb.1⟩,rfl, ?_⟩;have e:Ef (fun b=>some g=some b) s ⟨s.w,fun b=>s.X b∧¬ some g=some b,fun b hb=>s.lt b hb.1⟩:=
  ⟨⟨DR.eq rfl,rfl,rfl,rfl,Nat.le_refl _,fun _ _ _=>rfl,fun b hb=>by cases hb;exact hX,fun b hb=>.inl hb.1⟩,fun b hb hn=>⟨hb,hn⟩⟩
 refine (h.ef e (fun b hb=>by cases hb;exact hN) hk).cons t ⟨g,0,cs,hv,⟨(Array.getElem?_eq_some_iff.1 hg).1,fun hx=>hx.2 rfl⟩,zd8 hg, ?_⟩;exact E.mono (fun b hb=>⟨hb.1,fun hx=>hb.2 hx.1⟩) hR
end
end Go.Proofs.YtjdaaiodniicoaaGreatDoor.V
namespace Go.Proofs.YtjdaaiodniicoaaGreatDoor.V
open Go
set_option linter.unusedVariables false
section
variable {u : Bool} [Dr u]
theorem no_own {α:Type} {E:En α} {N:Nat} {te:TypeId} {xs:List α} {T:Nat→Prop}:∀b,(Pd.row E N te none xs).own b→¬ T b:=fun b h=>absurd (show none=some b from h) (by simp)
def Pd.ge (K:Nat):Pd:=⟨fun s _=>K≤s.w.heap.size,fun _=>False,fun h _ hp=>Nat.le_trans hp h.size⟩
def Pd.ebox {α:Type} (E:En α) (N K:Nat) (x:α):Pd:=
 ⟨fun s v=>∃g,K≤g∧(Pd.box E N g x).p s v,fun b=>K≤b,fun h hb ⟨g,hg,hp⟩=>⟨g,hg,(Pd.box E N g x).mv h (fun b hbg=>by cases hbg;exact hb _ hg) hp⟩⟩
def Pd.erow {α:Type} (E:En α) (N K:Nat) (te:TypeId) (xs:List α):Pd:=
 ⟨fun s v=>∃og,(∀b,og=some b→K≤b)∧(Pd.row E N te og xs).p s v,fun b=>K≤b,fun h hb ⟨og,hg,hp⟩=>⟨og,hg,(Pd.row E N te og xs).mv h (fun b hbg=>hb _ (hg b hbg)) hp⟩⟩
section
variable {M : Nat → Prop} {n : Nat} {s0 : St} {a : Act} {s : St} {L : Lst}
theorem Has.mark (h:Has M n s0 a s L) (t:Nat):∃K,K=s.w.heap.size∧s0.w.heap.size≤K∧Has M n s0 a s ((t,Pd.ge K)::L):=⟨_,rfl,h.ent.mv.size,h.cons t (Nat.le_refl _)⟩
theorem Has.openb {α:Type} {E:En α} {N K:Nat} {x:α} (h:Has M n s0 a s L) (t:Nat) (hl:lk L t=some (Pd.ebox E N K x)):∃g,K≤g∧Has M n s0 a s ((t,Pd.box E N g x)::L):=by
 obtain ⟨g,hg,hp⟩:=h.get t hl;exact ⟨g,hg,h.cons t hp⟩
theorem Has.openr {α:Type} {E:En α} {N K:Nat} {te:TypeId} {xs:List α} (h:Has M n s0 a s L) (t:Nat) (hl:lk L t=some (Pd.erow E N K te xs)):∃og,(∀b,og=some b→K≤b)∧Has M n s0 a s ((t,Pd.row E N te og xs)::L):=by
 obtain ⟨og,hg,hp⟩:=h.get t hl;exact ⟨og,hg,h.cons t hp⟩
end
section
variable {P : Program} {ops : Array Oper} {o : Oper} {L : Lst}
theorem t_allocx {α:Type} (E:En α) {z:α} {t:TypeId} {N K m:Nat} (hk:lk L m=some (Pd.ge K)) (hN:N≤K) (hz:TyZ P t E z) (ho:o.op = .alloc t) (hg:o.guard=none):T P ops o L (Pd.ebox E N K z):=
 T.mk hg fun M n s0 a s hL=>by
  obtain ⟨i,v,cs,h1,h2,h3,h4⟩:=hz.zero;have hK:K≤s.w.heap.size:=hL.get m hk;refine ⟨.pointer (some ⟨s.w.heap.size,0,none⟩),s.pushX (.cells cs.toArray t), ?_,Ex.pushX s _,s.w.heap.size,hK,rfl,Nat.le_trans hN hK,.inr rfl,cs,t,heap_alloc_new s.w _,h4 _ _⟩;unfold execOp;rw [ho];simp [Instr.alloc,zeroValue,typeInfo,h1,h2,newVar,newRow,h3,St.pushX]
theorem t_litx {α:Type} {E:En α} {t te:TypeId} {xs:List Operand} {es:List α} {N K m:Nat} (hk:lk L m=some (Pd.ge K)) (hN:N≤K) (hx:OpL E L xs es) (ht:P.underlying t=some (.slice te)) (hE:Ty P te E) {k:Nat} {parts:Array (Nat × Operand)} (hkk:k=xs.length)
  (hp:parts=(xs.zipIdx.map fun (x,i)=>(i,x)).toArray) (hs:k*E.sz≤16777216) (ho:o.op = .buildSlice t k parts) (hg:o.guard=none):T P ops o L (Pd.erow E N K te es):=
 T.mk hg fun M n s0 a s hL=>by
  have hK:K≤s.w.heap.size:=hL.get m hk;obtain ⟨hlen,css,hEl,hr⟩:=run_lit hx ht hE hkk hp hs ho hL;have hk1:k≤k*E.sz:=Nat.le_mul_of_pos_right k E.pos;have hfl:css.flatten.length=es.length*E.sz:=by rw [zhc hEl.lens,hEl.1]
  refine ⟨_,s.pushX (.cells css.flatten.toArray te),hr,Ex.pushX s _,some s.w.heap.size,fun b hb=>by cases hb;exact hK,rfl,fun g hg=>?_, ?_,css,⟨hEl.1,fun i cs x a b=>E.go (Ex.pushX s _).mv (hEl.2 i cs x a b)⟩, ?_⟩
  ·cases hg;exact .inr rfl
  ·simp only [lim];omega
  ·refine ⟨hfl,.inr ⟨s.w.heap.size,es.length,css.flatten.toArray,rfl,Nat.le_trans hN hK,heap_alloc_new s.w _,Nat.le_refl _, ?_,by simpa using hfl, ?_⟩⟩
   ·simp only [maxLen];omega
   ·simp;rw [← hfl,List.take_length]
theorem t_callox {α:Type} {E:En α} {te:TypeId} {zs:List α} {f:FuncId} {xs:List Operand} {qs:List Pd} {ats:Array TypeId} {N K m:Nat} (hk:lk L m=some (Pd.ge K)) (hN:N≤K) (hf:Fn P f qs (Ro E te zs)) (hx:zp5 L xs qs)
  (ho:o.op = .call { callee:=.value (.func f),args:=xs.toArray,argTypes:=ats }) (hg:o.guard=none):T P ops o L (Pd.erow E N K te zs):=fun M n s0 a s hL Q k hkk=>by
 have hK:K≤s.w.heap.size:=hL.get m hk;simp only [Region.wanted,hg,if_true];unfold Oper.wp;rw [zl4 hf a s.w ho,Oper.upon_enter];refine (hf.run s _ hL.gls (hx.vals hL)).mono fun e w' ⟨v,s',he,hw,hx,og,hq⟩=>?_;subst he;subst hw;exact hkk v s' ⟨hx,og,fun b hb=>Nat.le_trans hK (ziw hq b hb).1,zrf (Nat.le_trans hN hK) hq⟩
end
end
end Go.Proofs.YtjdaaiodniicoaaGreatDoor.V
namespace Go.Proofs.YtjdaaiodniicoaaGreatDoor.V
open Go
set_option linter.unusedVariables false
section
variable {u : Bool} [Dr u]
def En.cat {α β:Type} (E:En α) (F:En β):En (α × β) where
 sz:=E.sz+F.sz
 agg:=true
 R:=fun w S cs x=>∃a b,cs=a++b∧E.R w S a x.1∧F.R w S b x.2
 sc:=fun h=>by cases h
 pos:=Nat.add_pos_left E.pos _
 len:=by rintro _ _ _ _ ⟨a,b,rfl,h1,h2⟩;rw [List.length_append,E.len h1,F.len h2]
 one:=by
  rintro _ _ _ _ ⟨a,b,rfl,h1,h2⟩ u hu
  rcases List.mem_append.1 hu with h | h
  ·exact E.one h1 u h
  ·exact F.one h2 u h
 mono:=by rintro w S S' cs x h ⟨a,b,rfl,h1,h2⟩;exact ⟨a,b,rfl,E.mono h h1,F.mono h h2⟩
 move:=by rintro w w' S cs x h ⟨a,b,rfl,h1,h2⟩;exact ⟨a,b,rfl,E.move h h1,F.move h h2⟩
def En.solo {α:Type} (E:En α):En α:=⟨E.sz,true,E.R,fun h=>(by cases h),E.pos,E.len,E.one,E.mono,E.move⟩
structure Prt {α β:Type} (E:En α) (off:Nat) (E':En β) (x:α) (y:β):Prop where
 le:off+E'.sz≤E.sz
 get:∀w S cs,E.R w S cs x→E'.R w S ((cs.drop off).take E'.sz) y
section
variable {α β γ : Type} {E : En α} {E' : En β} {F : En γ} {off off' : Nat} {y : β}
theorem zn (E:En α) (x:α):Prt E 0 E x x:=⟨by simp,fun w S cs h=>by rw [List.drop_zero,List.take_of_length_le (by rw [E.len h];exact Nat.le_refl _)];exact h⟩
theorem zfv {x:α} (h:Prt E off E' x y):Prt E.solo off E' x y:=⟨h.le,h.get⟩
theorem zx {x:α × γ} (h:Prt E off E' x.1 y):Prt (E.cat F) off E' x y:=
 ⟨Nat.le_trans h.le (Nat.le_add_right _ _),fun w S cs ⟨a,b,e,h1,h2⟩=>by
  subst e;have hl:=E.len h1;have:=h.le;have e:((a++b).drop off).take E'.sz=(a.drop off).take E'.sz:=by
   rw [List.drop_append_of_le_length (by omega),List.take_append_of_le_length (by simp;omega)]
  rw [e];exact h.get w S a h1⟩
theorem ze {x:γ × α} (h:Prt E off E' x.2 y) (ho:off'=F.sz+off):Prt (F.cat E) off' E' x y:=
 ⟨by rw [ho,Nat.add_assoc];exact Nat.add_le_add_left h.le _,fun w S cs ⟨a,b,e,h1,h2⟩=>by
  subst e;rw [ho,← F.len h1,List.drop_length_add_append];exact h.get w S b h2⟩
theorem zju {x x':α} (h:Sub E off E' x x' y):Sub E.solo off E' x x' y:=⟨h.1,h.2⟩
theorem z7 {x:α × γ} {a:α} (h:Sub E off E' x.1 a y):Sub (E.cat F) off E' x (a,x.2) y:=
 ⟨Nat.le_trans h.1 (Nat.le_add_right _ _),fun w S cs cs' ⟨a',b,e,h1,h2⟩ h3=>by
  subst e;have hl:=E.len h1;have hl':=E'.len h3;have:=h.1;refine ⟨spl a' off cs',b, ?_,h.2 w S a' cs' h1 h3,h2⟩;simp only [spl];rw [List.take_append_of_le_length (by omega),List.drop_append_of_le_length (by omega)];simp⟩
theorem zk {x:γ × α} {b:α} (h:Sub E off E' x.2 b y) (ho:off'=F.sz+off):Sub (F.cat E) off' E' x (x.1,b) y:=
 ⟨by rw [ho,Nat.add_assoc];exact Nat.add_le_add_left h.1 _,fun w S cs cs' ⟨a',b',e,h1,h2⟩ h3=>by
  subst e;refine ⟨a',spl b' off cs', ?_,h1,h.2 w S b' cs' h2 h3⟩;simp only [spl];rw [ho,← F.len h1,List.take_length_add_append,Nat.add_assoc,List.drop_length_add_append];simp⟩
end
theorem ze2.sub {w:World} {b o:Nat} {cs:List Value} (h:ze2 w b o cs) (off n:Nat):ze2 w b (o+off) ((cs.drop off).take n):=fun j u hu=>by
 rw [Nat.add_assoc];refine h (off+j) u ?_;rw [List.getElem?_take] at hu;split at hu
 ·rwa [List.getElem?_drop] at hu
 ·cases hu
section
variable {P : Program} {ops : Array Oper} {o : Oper} {L : Lst}
theorem zkq {β:Type} {E':En β} {t:TypeId} {fs:Array Field} {f:Nat} {fd:Field} (ht:P.underlying t=some (.struct fs)) (hf:fs[f]?=some fd) (hE:Ty P fd.type E') (b o:Nat) (w:World):
  (Instr.fieldAt t (.pointer (some ⟨b,o,none⟩)) f).run P w = .ok (.pointer (some ⟨b,o+fd.offset,none⟩)) w:=by
 unfold Instr.fieldAt;simp only [Sem.run_bind,run_underlying ht,Result.andThen_ok,hf,Instr.sureAddr,Sem.run_pure,fieldPlace,zbw hE];rw [if_neg (by have:=E'.pos;omega)];simp [zfr]
theorem zdb {α β:Type} {E:En α} {E':En β} {a:α} {y:β} {x:Operand} {t:TypeId} {fs:Array Field} {f off:Nat} {fd:Field} (hx:Opn L x (Pd.ptr E a)) (ht:P.underlying t=some (.struct fs)) (hf:fs[f]?=some fd) (hp:Prt E off E' a y) (hq:fd.offset=off) (hE:Ty P fd.type E')
  (ho:o.op = .fieldAddr t x f) (hg:o.guard=none):T P ops o L (Pd.ptr E' y):=
 T.pure hg fun M n s0 ac s hL=>by
  obtain ⟨b,o',cs,hv,hb,hc,hR⟩:=hx M n s0 ac s hL;refine ⟨.pointer (some ⟨b,o'+fd.offset,none⟩), ?_,b,o'+fd.offset,_,rfl,hb,hq ▸ hc.sub off E'.sz,hp.get _ _ _ hR⟩;unfold execOp;rw [ho];simp only [hv,Sem.run_bind,zkq ht hf hE,Result.andThen_ok,Sem.run_pure]
theorem t_fao {α β:Type} {E:En α} {E':En β} {a:α} {y:β} {x:Operand} {t:TypeId} {fs:Array Field} {f off N o':Nat} {og:Option Nat} {fd:Field} (hx:Opn L x (Pd.optr E N og o' a)) (ht:P.underlying t=some (.struct fs)) (hf:fs[f]?=some fd) (hp:Prt E off E' a y) (hq:fd.offset=off) (hE:Ty P fd.type E')
  (ho:o.op = .fieldAddr t x f) (hg:o.guard=none):T P ops o L (Pd.optr E' N og (o'+off) y):=
 T.pure hg fun M n s0 ac s hL=>by
  obtain ⟨g,h1,hv,h2,h3,h4,cs,hc,hR⟩:=hx M n s0 ac s hL;refine ⟨.pointer (some ⟨g,o'+fd.offset,none⟩), ?_,g,h1,by rw [hq],h2,h3,h4,_,hc.sub off E'.sz,hp.get _ _ _ hR⟩;unfold execOp;rw [ho];simp only [hv,Sem.run_bind,zkq ht hf hE,Result.andThen_ok,Sem.run_pure]
theorem zq5 {α β:Type} {E:En α} {E':En β} {a:α} {y:β} {x:Operand} {t:TypeId} {fs:Array Field} {f off N g:Nat} {fd:Field} (hx:Opn L x (Pd.box E N g a)) (ht:P.underlying t=some (.struct fs)) (hf:fs[f]?=some fd) (hp:Prt E off E' a y) (hq:fd.offset=off) (hE:Ty P fd.type E')
  (ho:o.op = .fieldAddr t x f) (hg:o.guard=none):T P ops o L (Pd.optr E' N (some g) off y):=
 T.pure hg fun M n s0 ac s hL=>by
  obtain ⟨hv,h2,h4,cs,t',hc,hR⟩:=hx M n s0 ac s hL;have hcs:ze2 s.w g (0+off) ((cs.drop off).take E'.sz):=(zd8 hc).sub off E'.sz;refine ⟨.pointer (some ⟨g,0+fd.offset,none⟩), ?_,g,rfl,by rw [hq,Nat.zero_add],h2,(Array.getElem?_eq_some_iff.1 hc).1,h4,_,by rw [Nat.zero_add] at hcs;exact hcs,hp.get _ _ _ hR⟩;unfold execOp;rw [ho];simp only [hv,Sem.run_bind,zkq ht hf hE,Result.andThen_ok,Sem.run_pure]
theorem run_partE {α β:Type} {E:En α} {E':En β} {x:α} {y:β} {off:Nat} {ft:TypeId} (hE:Ty P ft E') (hp:Prt E off E' x y) {w w':World} {S:Nat→Prop} {cs:List Value} (hR:E.R w' S cs x):
  (part ft cs.toArray off).run P w = .ok (E'.val ((cs.drop off).take E'.sz)) w:=by
 have hl:=E.len hR;have hle:=hp.le;have hpos:=E'.pos;unfold part;simp only [Sem.run_bind,zk7 hE,Result.andThen_ok];unfold En.val;cases ha:E'.agg
 ·have h1:=E'.sc ha;simp only [Bool.false_eq_true,if_false,cond_false];have hlt:off<cs.length:=by omega
  have e1:cs.toArray[off]?=some cs[off]:=by simp [hlt]
  rw [e1,h1];have e2:(cs.drop off).take 1=[cs[off]]:=by
   rw [List.drop_eq_getElem_cons hlt];rfl
  rw [e2];simp
 ·simp only [if_true,Sem.run_bind,zbw hE,Result.andThen_ok,Sem.run_pure,cond_true]
  congr 2
  apply Array.ext';simp
theorem t_fv {α β:Type} {E:En α} {E':En β} {a:α} {y:β} {x:Operand} {t:TypeId} {fs:Array Field} {f off:Nat} {fd:Field} (hx:Opn L x (Pd.rep E a)) (ha:E.agg=true) (ht:P.underlying t=some (.struct fs)) (hf:fs[f]?=some fd) (hp:Prt E off E' a y) (hq:fd.offset=off) (hE:Ty P fd.type E')
  (ho:o.op = .field t x f) (hg:o.guard=none):T P ops o L (Pd.rep E' y):=
 T.pure hg fun M n s0 ac s hL=>by
  obtain ⟨cs,hv,hR⟩:=hx M n s0 ac s hL;refine ⟨E'.val ((cs.drop off).take E'.sz), ?_,_,rfl,hp.get _ _ _ hR⟩;unfold execOp;rw [ho];have hv2:ac.eval x = .agg cs.toArray:=by rw [hv];unfold En.val;rw [ha];rfl
  simp only [hv2,Instr.field,Sem.run_bind,run_underlying ht,Result.andThen_ok,hf,asAgg,Sem.run_pure,hq,run_partE hE hp hR]
inductive Bld {α:Type} (E:En α) (pl:List (Nat × Nat)) (L:Lst):List (Nat × Operand)→α→α→Prop
 | nil {x:α}:Bld E pl L [] x x
 | cons {β:Type} {E':En β} {i off:Nat} {v:Operand} {y:β} {x0 x1 x2:α} {r:List (Nat × Operand)} (hv:Opn L v (Pd.rep E' y)) (hp:pl[i]?=some (off,E'.sz)) (hs:Sub E off E' x0 x1 y) (h:Bld E pl L r x1 x2):Bld E pl L ((i,v)::r) x0 x2
theorem Bld.fill {α:Type} {E:En α} {pl:List (Nat × Nat)} {ps:List (Nat × Operand)} {x0 x2:α} (h:Bld E pl L ps x0 x2) {M:Nat→Prop} {n:Nat} {s0:St} {a:Act} {s:St} (hL:Has M n s0 a s L):
  ∀cs,E.R s.w (zgh s) cs x0→∃cs',Instr.fill (fun i=>pl.toArray[i]?) cs.toArray (ps.map fun (i,x)=>(i,a.eval x))=some cs'.toArray∧E.R s.w (zgh s) cs' x2:=by
 induction h with
 | nil=>intro cs hR;exact ⟨cs,rfl,hR⟩
 | cons hv hp hs _ ih=>
  intro cs hR;obtain ⟨cs1,hv1,hR1⟩:=hv M n s0 a s hL;have hl:=E.len hR;obtain ⟨cs2,h1,h2⟩:=ih (spl cs _ cs1) (hs.2 _ _ _ _ hR hR1);refine ⟨cs2, ?_,h2⟩;simp only [List.map_cons];rw [fill_step (by simpa using hp) (by rw [hv1];exact En.val_cells hR1) (En.len _ hR1) (by rw [hl];exact hs.1)];exact h1
def Stt (P:Program) (t:TypeId) (pl:List (Nat × Nat)):Prop:=∃fs,P.underlying t=some (.struct fs)∧fs.toList.mapM (fun f=>(P.info? f.type).map fun i=>(f.offset,i.size))=some pl
theorem zbj {α:Type} {E:En α} {z x:α} {t:TypeId} {pl:List (Nat × Nat)} {ps:List (Nat × Operand)} (hz:TyZ P t E z) (ha:E.agg=true) (ht:Stt P t pl) (hb:Bld E pl L ps z x) (ho:o.op = .build t ps.toArray) (hg:o.guard=none):T P ops o L (Pd.rep E x):=
 T.pure hg fun M n s0 a s hL=>by
  obtain ⟨i,v,cs,h1,h2,h3,h4⟩:=hz.zero;obtain ⟨fs,h5,h6⟩:=ht;obtain ⟨cs',h7,h8⟩:=hb.fill hL cs (h4 _ _);refine ⟨.agg cs'.toArray, ?_,cs',by unfold En.val;rw [ha];rfl,h8⟩;unfold execOp;rw [ho];have:=run_build (P:=P) s.w t (ps.toArray.map fun (i,x)=>(i,a.eval x)) cs'.toArray (by
   unfold Program.built;simp only [h1,h5,h2,h6,h3];simpa using h7)
  simp only [Sem.run_bind,this,Result.andThen_ok,Sem.run_pure]
structure EqI {α:Type} [BEq α] (P:Program) (k:Nat) (t:TypeId) (E:En α):Prop where
 eq:∀(d:Nat) (w:World) (S:Nat→Prop) (cs ds:List Value) (x y:α),k≤d→E.R w S cs x→E.R w S ds y→(Op.equalIn d t (E.val cs) (E.val ds)).run P w = .ok (x==y) w
theorem EqI.up {α:Type} [BEq α] {k k':Nat} {t:TypeId} {E:En α} (h:EqI P k t E) (hk:k≤k'):EqI P k' t E:=⟨fun d w S cs ds x y hd=>h.eq d w S cs ds x y (Nat.le_trans hk hd)⟩
theorem zo6 {k:IntKind} {t:TypeId} (ht:P.underlying t=some (.int k)):EqI P 1 t (En.int k):=⟨by
 rintro d w S cs ds x y hd ⟨rfl,_⟩ ⟨rfl,_⟩;obtain ⟨d,rfl⟩:∃e,d=e+1:=⟨d-1,by omega⟩;exact run_equalIn_int w d t k k x y ht⟩
theorem zmk (x:Str):(⟨x.toArray⟩:ByteArray).toList=x:=by rw [ByteArray.toList_eq]
theorem eqi_str {t:TypeId} (ht:P.underlying t=some .string):EqI P 1 t En.str:=⟨by
 rintro d w S cs ds x y hd ⟨rfl,_⟩ ⟨rfl,_⟩;obtain ⟨d,rfl⟩:∃e,d=e+1:=⟨d-1,by omega⟩;have:=run_equalIn_string w d t ⟨x.toArray⟩ ⟨y.toArray⟩ ht;rw [zmk,zmk] at this;exact this⟩
theorem eqi_cls {t e:TypeId} (ht:P.underlying t=some (.array 4 e)) (he:P.underlying e=some (.int .u64)) (hi:(P.info? e).map (·.size)=some 1):EqI P 2 t En.cls:=⟨by
 rintro d w S cs ds x y hd rfl rfl;obtain ⟨d,rfl⟩:∃e,d=e+2:=⟨d-2,by omega⟩;have hq:=equalIn_row (P:=P) d t e ht he hi (x.word 0) (x.word 1) (x.word 2) (x.word 3) (y.word 0) (y.word 1) (y.word 2) (y.word 3) w;have key:(((x.word 0:Int)==(y.word 0:Int))&&(((x.word 1:Int)==(y.word 1:Int))&&(((x.word 2:Int)==(y.word 2:Int))&&((x.word 3:Int)==(y.word 3:Int)))))=(x==y):=by
  rw [Bool.eq_iff_iff];simp only [Bool.and_eq_true,beq_iff_eq,Int.ofNat_inj];constructor
  ·rintro ⟨h0,h1,h2,h3⟩;apply Cl.ext_words;intro i hi
   match i,hi with
   | 0,_=>exact h0
   | 1,_=>exact h1
   | 2,_=>exact h2
   | 3,_=>exact h3
  ·rintro rfl;simp
 rw [key] at hq;exact hq⟩
def EqFs {α:Type} [BEq α] (P:Program) (k:Nat) (fs:List Field) (E:En α) (o:Nat):Prop:=∀(d:Nat) (w:World) (S:Nat→Prop) (xs ys:List Value) (x y:α),k≤d→E.R w S ((xs.drop o).take E.sz) x→E.R w S ((ys.drop o).take E.sz) y→(Op.eqFields d xs.toArray ys.toArray fs).run P w = .ok (x==y) w
theorem zk6 {α:Type} {E:En α} {x:α} {o:Nat} {ft:TypeId} (hE:Ty P ft E) {w:World} {S:Nat→Prop} {xs:List Value} (h:E.R w S ((xs.drop o).take E.sz) x):(part ft xs.toArray o).run P w = .ok (E.val ((xs.drop o).take E.sz)) w:=by
 have hl:=E.len h;have hpos:=E.pos;unfold part;simp only [Sem.run_bind,zk7 hE,Result.andThen_ok];unfold En.val;cases ha:E.agg
 ·have h1:=E.sc ha;simp only [Bool.false_eq_true,if_false,cond_false];have hlt:o<xs.length:=by simp at hl;omega
  have e1:xs.toArray[o]?=some xs[o]:=by simp [hlt]
  rw [e1,h1];have e2:(xs.drop o).take 1=[xs[o]]:=by rw [List.drop_eq_getElem_cons hlt];rfl
  rw [e2];simp
 ·simp only [if_true,Sem.run_bind,zbw hE,Result.andThen_ok,Sem.run_pure,cond_true]
  congr 2
  apply Array.ext';simp
theorem eqfs_last {α:Type} [BEq α] {k o:Nat} {f:Field} {E:En α} (h:EqI P k f.type E) (hE:Ty P f.type E) (hn:(f.name != "_")=true) (ho:f.offset=o):EqFs P k [f] E o:=by
 intro d w S xs ys x y hd h1 h2;have hn':f.name≠"_":=by simpa using hn
 unfold Op.eqFields;simp only [if_pos hn',ho,Sem.run_bind,zk6 hE h1,zk6 hE h2,Result.andThen_ok,h.eq d w S _ _ x y hd h1 h2,Op.eqFields];cases x==y <;> simp
theorem zqa {xs:List Value} {o m n:Nat} {a b:List Value} (h:(xs.drop o).take (m+n)=a++b) (ha:a.length=m):(xs.drop o).take m=a∧(xs.drop (o+m)).take n=b:=by
 have h1:(xs.drop o).take m=a:=by
  have:=congrArg (List.take m) h;rw [List.take_take,Nat.min_eq_left (Nat.le_add_right _ _),List.take_append_of_le_length (by omega),List.take_of_length_le (l:=a) (by omega)] at this;exact this
 refine ⟨h1, ?_⟩;have:=congrArg (List.drop m) h;rw [List.drop_take,List.drop_append_of_le_length (by omega),List.drop_of_length_le (l:=a) (by omega),List.nil_append,List.drop_drop,Nat.add_sub_cancel_left] at this;exact this
theorem zh1 {α β:Type} [BEq α] [BEq β] {k o:Nat} {f:Field} {fs:List Field} {E:En α} {F:En β} (h:EqI P k f.type E) (hE:Ty P f.type E) (hn:(f.name != "_")=true) (ho:f.offset=o) (hr:EqFs P k fs F (o+E.sz)):EqFs P k (f::fs) (E.cat F) o:=by
 rintro d w S xs ys x y hd ⟨a,b,e1,h1,h2⟩ ⟨a',b',e1',h1',h2'⟩;have hn':f.name≠"_":=by simpa using hn
 obtain ⟨rfl,rfl⟩:=zqa e1 (E.len h1);obtain ⟨rfl,rfl⟩:=zqa e1' (E.len h1');have hrest:=hr d w S xs ys x.2 y.2 hd h2 h2';unfold Op.eqFields;simp only [if_pos hn',ho,Sem.run_bind,zk6 hE h1,zk6 hE h1',Result.andThen_ok,h.eq d w S _ _ x.1 y.1 hd h1 h1'];have hxy:(x==y)=(x.1==y.1&&x.2==y.2):=rfl;rw [hxy];cases x.1==y.1
 ·simp
 ·simp [hrest]
theorem eqi_struct {α:Type} [BEq α] {k:Nat} {t:TypeId} {E:En α} (ha:E.agg=true) (ht:P.underlying t=some (.struct (P.fieldsOf t))) (hp:P.stoodInHeld t=false) {fs:List Field} (hfs:(P.fieldsOf t).toList=fs) (h:EqFs P k fs E 0):EqI P (k+1) t E:=⟨by
 intro d w S cs ds x y hd h1 h2;obtain ⟨d,rfl⟩:∃e,d=e+1:=⟨d-1,by omega⟩;have e1:(cs.drop 0).take E.sz=cs:=by rw [List.drop_zero,List.take_of_length_le (by rw [E.len h1];exact Nat.le_refl _)]
 have e2:(ds.drop 0).take E.sz=ds:=by rw [List.drop_zero,List.take_of_length_le (by rw [E.len h2];exact Nat.le_refl _)]
 have:=h d w S cs ds x y (by omega) (by rw [e1];exact h1) (by rw [e2];exact h2);unfold En.val;rw [ha];simp only [cond_true];rw [run_equalIn_struct w d t _ _ ht hp,hfs];exact this⟩
theorem eqv_struct {α:Type} [BEq α] {k:Nat} {t:TypeId} {E:En α} (h:EqI P k t E) (hk:k≤10000) (ha:E.agg=true) (hg:P.eqGuardType P.depth t=false):Eqv P t E:=by
 constructor
 ·intro w S cs ds x y a b h1 h2;have:=h.eq 10000 w S cs ds x y hk h1 h2;unfold En.val at this ⊢;rw [ha] at this ⊢;simp only [cond_true] at this ⊢;simp only [Sem.run_bind,run_eqGuard_agg w .eql t a b _ _ hg,Result.andThen_ok,run_eql_struct,this]
 ·intro w S cs ds x y a b h1 h2;have:=h.eq 10000 w S cs ds x y hk h1 h2;unfold En.val at this ⊢;rw [ha] at this ⊢;simp only [cond_true] at this ⊢;simp only [Sem.run_bind,run_eqGuard_agg w .neq t a b _ _ hg,Result.andThen_ok,run_neq_struct,this];rfl
theorem eqv_str {t:TypeId}:Eqv P t En.str:=by
 constructor
 ·rintro w S cs ds x y a b ⟨rfl,_⟩ ⟨rfl,_⟩;simp [En.val,En.str,eqGuard,binOp,Op.stringOp]
 ·rintro w S cs ds x y a b ⟨rfl,_⟩ ⟨rfl,_⟩;simp [En.val,En.str,eqGuard,binOp,Op.stringOp,bne]
theorem t_slen {x:Str} {y:Operand} {t:TypeId} (hy:Opn L y (Pd.rep En.str x)) (ht:P.underlying t=some .string) (ho:o.op = .call { callee:=.builtin .len,args:=#[y],argTypes:=#[t] }) (hg:o.guard=none):
  T P ops o L (Pd.rep (En.int .i64) x.length):=
 T.pure hg fun M n s0 ac s hL=>by
  obtain ⟨hv,hl⟩:=zif.1 (hy M n s0 ac s hL);refine ⟨.int .i64 x.length, ?_,zbf.2 ⟨rfl, ?_⟩⟩
  ·unfold execOp;rw [ho];have:(⟨x.toArray⟩:ByteArray).size=x.length:=by simp [ByteArray.size]
   simp [resolve,invoke,builtin,hv,Builtin.len_,run_underlying ht,goInt,this]
  ·simp [InR,IntKind.min,IntKind.max,IntKind.signed,IntKind.bits];omega
def zd9 (x:Str) (i:Int):Option Int:=(at? x i).map fun b=>(b.toNat:Int)
theorem t_sidx {x:Str} {k:IntKind} {i e:Int} {y z:Operand} {t:TypeId} (hy:Opn L y (Pd.rep En.str x)) (hz:Opn L z (Pd.rep (En.int k) i)) (he:zd9 x i=some e) (ht:P.underlying t=some .string) (ho:o.op = .index t y z) (hg:o.guard=none):T P ops o L (Pd.rep (En.int .u8) e):=
 T.pure hg fun M n s0 ac s hL=>by
  obtain ⟨hv,hl⟩:=zif.1 (hy M n s0 ac s hL);have hi:=(zbf.1 (hz M n s0 ac s hL)).1;unfold zd9 at he;cases ha:at? x i with
  | none=>rw [ha] at he;cases he
  | some b=>
   rw [ha] at he;simp only [Option.map_some,Option.some.injEq] at he;subst he;obtain ⟨h0,h1⟩:=at_some ha;refine ⟨.int .u8 (b.toNat:Int), ?_,zbf.2 ⟨rfl, ?_⟩⟩
   ·unfold execOp;rw [ho];have:(⟨x.toArray⟩:ByteArray)[i.toNat]?=some b:=by
     have hlt:i.toNat<x.length:=(List.getElem?_eq_some_iff.1 h1).1;have hsz:(⟨x.toArray⟩:ByteArray).size=x.length:=by simp [ByteArray.size]
     rw [getElem?_pos _ _ (by rw [hsz];exact hlt)];have h2:=(List.getElem?_eq_some_iff.1 h1).2;rw [← h2];rfl
    simp only [hv,hi,Instr.index,asIntOf,Sem.run_bind,Sem.run_pure,Result.andThen_ok,run_underlying ht,if_pos h0,this]
   ·have:=b.toNat_lt;simp [InR,IntKind.min,IntKind.max,IntKind.signed,IntKind.bits];omega
theorem zse {α:Type} {E:En α} {w:World} {S:Nat→Prop} {css:List (List Value)} {xs:List α} (h:Els E w S css xs) (k:Nat):Els E w S (css.drop k) (xs.drop k):=by
 refine ⟨by rw [List.length_drop,List.length_drop,h.1],fun i cs x hi hx=>?_⟩;rw [List.getElem?_drop] at hi hx;exact h.2 _ cs x hi hx
theorem zo5 {css:List (List Value)} {n:Nat} (h:∀cs∈css,cs.length=n) (k:Nat) (hk:k≤css.length):(css.drop k).flatten=css.flatten.drop (k*n):=by
 induction css generalizing k with
 | nil=>simp
 | cons c r ih=>
  cases k with
  | zero=>simp
  | succ k=>
   rw [List.drop_succ_cons,List.flatten_cons,ih (fun x hx=>h x (by simp [hx])) k (by simpa using hk)];rw [show (k+1)*n=c.length+k*n by rw [h c (by simp),Nat.succ_mul];omega,List.drop_length_add_append]
theorem t_from {α:Type} {E:En α} {xs:List α} {k:IntKind} {i:Int} {y z:Operand} {t te:TypeId} (hy:Opn L y (Pd.rep (En.slice E) xs)) (hz:Opn L z (Pd.rep (En.int k) i)) (hi:0≤i∧i≤(xs.length:Int)) (ht:P.underlying t=some (.slice te)) (hE:Ty P te E)
  (ho:o.op = .slice t y (some z) none none) (hg:o.guard=none):T P ops o L (Pd.rep (En.slice E) (xs.drop i.toNat)):=
 T.pure hg fun M n s0 ac s hL=>by
  obtain ⟨ad,cap,hv,h1,h2,h3,h4⟩:=zbx.1 (hy M n s0 ac s hL);have hiv:=(zbf.1 (hz M n s0 ac s hL)).1;refine ⟨.slice (if cap=i.toNat then ad else ad.map (·.add (i.toNat*E.sz))) (xs.length-i.toNat) (cap-i.toNat), ?_,zbx.2 ⟨_,_,by rw [List.length_drop],by rw [List.length_drop];omega,fun hn=>?_,by rw [List.length_drop];omega,fun hne=>?_⟩⟩
  ·unfold execOp;rw [ho];simp only [hv,hiv,Option.map_some,Option.map_none,Instr.sliceAt,Sem.run_bind,run_underlying ht,Result.andThen_ok,Instr.slice,Instr.sliceBounds,Instr.sliceBound,asIntOf,Sem.run_pure];rw [if_pos (by omega)];simp [zbw hE]
  ·split at hn
   ·omega
   ·cases ad with
    | none=>have:=h2 rfl;omega
    | some a=>cases hn
  ·have hlt:i.toNat<xs.length:=by
    rcases Nat.lt_or_ge i.toNat xs.length with h | h
    ·exact h
    ·exact absurd (List.drop_of_length_le h) hne
   obtain ⟨b,off,css,e1,hb,hEl,hc⟩:=h4 (by intro h;rw [h] at hlt;simp at hlt);refine ⟨b,off+i.toNat*E.sz,css.drop i.toNat, ?_,hb,zse hEl _, ?_⟩
   ·rw [if_neg (by omega),e1];simp [zfr]
   ·intro j u hu;rw [zo5 hEl.lens _ (by rw [hEl.1];omega),List.getElem?_drop] at hu;rw [Nat.add_assoc];exact hc _ u hu
def Pd.nilq {α:Type} (xs:List α):Pd:=⟨fun s v=>∃b:Bool,v = .bool b∧(b=true→xs=[]),fun _=>False,fun _ _ h=>h⟩
theorem t_isnil {α:Type} {E:En α} {xs:List α} {y:Operand} {t u te:TypeId} (hy:Opn L y (Pd.rep (En.slice E) xs)) (ht:P.underlying t=some (.slice te)) (ho:o.op = .binOp .eql t y (.const (.slice none 0 0)) u) (hg:o.guard=none):T P ops o L (Pd.nilq xs):=
 T.pure hg fun M n s0 ac s hL=>by
  obtain ⟨ad,cap,hv,h1,h2,h3,h4⟩:=zbx.1 (hy M n s0 ac s hL);refine ⟨.bool ad.isNone, ?_,_,rfl,fun hn=>?_⟩
  ·unfold execOp;rw [ho];have hc:ac.eval (.const (.slice none 0 0)) = .slice none 0 0:=rfl;have he:(Op.equalIn 10000 t (.slice ad xs.length cap) (.slice none 0 0)).run P s.w = .ok ad.isNone s.w:=by
    rw [show (10000:Nat)=9999+1 from rfl];unfold Op.equalIn;cases ad <;> simp [run_underlying ht]
   simp only [hv,hc,eqGuard,binOp,Sem.run_bind,Op.equal,Op.maxDepth];simp [he]
  ·cases ad with
   | none=>have:=h2 rfl;exact List.eq_nil_of_length_eq_zero (by omega)
   | some a=>cases hn
theorem Has.nilq {α:Type} {xs:List α} {M:Nat→Prop} {n:Nat} {s0:St} {a:Act} {s:St} (t:Nat) (hL:Has M n s0 a s L) (hl:lk L t=some (Pd.nilq xs)):∃b:Bool,(b=true→xs=[])∧Has M n s0 a s ((t,Pd.rep En.bool b)::L):=by
 obtain ⟨b,hv,hb⟩:=hL.get t hl;exact ⟨b,hb,hL.cons t (zch.2 hv)⟩
end
def Ro2 {α:Type} (E:En α) (te:TypeId) (xs:List α) (q:Pd):St→St→Value→Prop:=fun s s' v=>∃og x y,v = .tuple #[x,y]∧(Pd.row E s.w.heap.size te og xs).p s' x∧q.p s' y
theorem Fn.frz2 {P:Program} {f:FuncId} {qs:List Pd} {α:Type} {E:En α} {te:TypeId} {xs:List α} {q:Pd} (hq:q.Stable) (h:Fn P f qs (Ro2 E te xs q)):Fn P f qs (Rq2 (Pd.rep (En.slice E) xs) q):=
 ⟨h.call,fun s vs hg hv=>(h.run s vs hg hv).mono fun e w' ⟨v,s',he,hw,hx,og,x,y,hvv,ho,hy⟩=>by
  have hlt:=ziw ho;have hmv:Mv (fun b=>og=some b) s' ⟨s'.w,fun b=>s'.X b∧og≠some b,fun b hb=>s'.lt b hb.1⟩:=⟨DR.eq rfl,rfl,rfl,rfl,Nat.le_refl _,fun _ _ _=>rfl,fun b hb=>ho.2.1 b hb,fun b hb=>.inl hb.1⟩;refine ⟨v,⟨s'.w,fun b=>s'.X b∧og≠some b,fun b hb=>s'.lt b hb.1⟩,he,hw, ?_,x,y,hvv,zbx.2 (own_slV ho rfl fun b hb=>hb),hq.mv hmv hy⟩;exact ⟨⟨hx.mv.dr,hx.mv.os,hx.mv.tape,hx.mv.output,hx.mv.size,hx.mv.blk,fun _ h=>h.elim,fun b hb=>hx.mv.xx b hb.1⟩,fun b hb=>⟨hx.keep b hb,fun e=>by have:=(hlt b e).1;have:=s.lt b hb;omega⟩⟩⟩
section
variable {P : Program} {ops : Array Oper} {o : Oper} {L : Lst}
theorem zm2 {fn:Func} {M:Nat→Prop} {n:Nat} {s0:St} {a:Act} {s:St} {α:Type} {E:En α} {te:TypeId} {og:Option Nat} {xs:List α} {q:Pd} {t u:Nat} (hr:fn.results = #[.tmp t,.tmp u]) (hL:Has M n s0 a s L) (hl:lk L t=some (Pd.row E s0.w.heap.size te og xs)) (hm:lk L u=some q):bodyPost P fn (Pst M (Ro2 E te xs q) s0) .ret a s.w:=
 ⟨hL.defers,_,results_tmp2 hr a.tmps P s.w,_,s,rfl,rfl,hL.ent,og,_,_,rfl,hL.get t hl,hL.get u hm⟩
end
end
end Go.Proofs.YtjdaaiodniicoaaGreatDoor.V
namespace Go.Proofs.YtjdaaiodniicoaaGreatDoor.V
open Go Go.MapKept
set_option linter.unusedVariables false
section
variable {u : Bool} [Dr u]
structure KeyT {κ:Type} (P:Program) (kt:TypeId) (K:En κ) (kv:κ→Value):Prop where
 val:∀{w S cs x},K.R w S cs x→K.val cs=kv x
 inj:∀{x y},kv x=kv y→x=y
 check:∀(w:World) (em:Bool) (x:κ),(Instr.checkKey em 10000 kt (kv x)).run P w = .ok () w
 find:∀(w:World) (x:κ) (es:List MapEntry),(∀e∈es,∃y,e.key=kv y) →
  ((Instr.findKey kt (kv x) es).run P w = .ok none w∧∀e∈es,e.key≠kv x)∨∃j e,(Instr.findKey kt (kv x) es).run P w = .ok (some (j,e.val)) w∧es[j]?=some e∧e.key=kv x
 stays:∀(w:World) (x:κ),(Instr.keyThatStays (kv x) (kv x)).run P w = .ok (kv x) w
theorem key_plain {κ:Type} {P:Program} {kt:TypeId} {K:En κ} {kv:κ→Value} {d:TypeDesc} (hd:P.underlying kt=some d) (hk:∀x,IsKey d (kv x)) (hv:∀{w S cs x},K.R w S cs x→K.val cs=kv x) (hi:∀{x y},kv x=kv y→x=y):KeyT P kt K kv where
 val:=hv
 inj:=hi
 check:=fun w em x=>run_checkKey hd (hk x) em 9999
 find:=fun w x es hes=>by
  have hks:∀y∈es,IsKey d y.key:=fun y hy=>by
   obtain ⟨z,hz⟩:=hes y hy;rw [hz];exact hk z
  rcases findNow_spec (hk x) es 0 hks with ⟨h1,h2⟩ | ⟨j,e0,h1,h2,h3⟩
  ·exact .inl ⟨run_findKey hd h1,h2⟩
  ·exact .inr ⟨j,e0,by simpa using run_findKey hd h1,h2,h3⟩
 stays:=fun w x=>run_keyThatStays (hk x)
abbrev kvStr:Str→Value:=fun x=>.string ⟨x.toArray⟩
theorem zez {P:Program} {kt:TypeId} (hd:P.underlying kt=some .string):KeyT P kt En.str kvStr:=
 key_plain hd (fun x=>trivial) (fun ⟨h,_⟩=>by subst h;rfl) (fun {x y} h=>by simpa using h)
def zd4 {κ ν:Type} [DecidableEq κ] (xs:List (κ × ν)) (k:κ) (z:ν):ν:=match xs.find? (fun p=>p.1==k) with | some p=>p.2 | none=>z
def zha {κ ν:Type} [DecidableEq κ] (xs:List (κ × ν)) (k:κ):Bool:=xs.any (fun p=>p.1==k)
def zf4 {κ ν:Type} [DecidableEq κ] (xs:List (κ × ν)) (k:κ) (v:ν):List (κ × ν):=bif zha xs k then xs.map (fun p=>bif p.1==k then (k,v) else p) else xs++[(k,v)]
structure MpR {κ ν:Type} (K:En κ) (kv:κ→Value) (E:En ν) (w:World) (S:Nat→Prop) (es:Array MapEntry) (clock:Nat) (xs:List (κ × ν)):Prop where
 st:Stamped es clock
 len:es.toList.length=xs.length
 ent:∀(i:Nat) (e:MapEntry) (p:κ × ν),es.toList[i]?=some e→xs[i]?=some p→e.key=kv p.1∧(∃cs,K.R w S cs p.1)∧∃cs,e.val=E.val cs∧E.R w S cs p.2
section
variable {κ ν : Type} {K : En κ} {kv : κ → Value} {E : En ν}
theorem MpR.go {T:Nat→Prop} {s s':St} {es clock} {xs:List (κ × ν)} (h:Mv T s s') (hM:MpR K kv E s.w (zgh s) es clock xs):MpR K kv E s'.w (zgh s') es clock xs:=
 ⟨hM.st,hM.len,fun i e p a b=>let ⟨h1,⟨cs,h2⟩,cs',h3,h4⟩:=hM.ent i e p a b;⟨h1,⟨cs,K.go h h2⟩,cs',h3,E.go h h4⟩⟩
def Pd.map (K:En κ) (kv:κ→Value) (E:En ν) (N:Nat) (og:Option Nat) (xs:List (κ × ν)):Pd:=
 ⟨fun s v=>∃g,og=some g∧v = .map (some g)∧N≤g∧s.X g∧∃es clock ys,s.w.heap[g]?=some (.map es clock)∧MpR K kv E s.w (zgh s) es clock ys∧ys.Perm xs,fun b=>og=some b,
  fun {T s s' v} h hb ⟨g,ho,hv,hN,hx,es,clock,ys,hg,hM,hp⟩=>⟨g,ho,hv,hN,(hb g ho).2 hx,es,clock,ys,by
   rw [h.blk g (Array.getElem?_eq_some_iff.1 hg).1 (hb g ho).1];exact hg,hM.go h,hp⟩⟩
theorem MpR.keys {w S es clock} {xs:List (κ × ν)} (hM:MpR K kv E w S es clock xs):∀e∈es.toList,∃y,e.key=kv y:=fun e he=>by
 obtain ⟨i,hi⟩:=List.getElem?_of_mem he;have hlt:i<xs.length:=by rw [← hM.len];exact (List.getElem?_eq_some_iff.1 hi).1
 exact ⟨_,(hM.ent i e _ hi (List.getElem?_eq_getElem hlt)).1⟩
theorem MpR.nodup {P:Program} {kt:TypeId} (hK:KeyT P kt K kv) {w S es clock} {xs:List (κ × ν)} (hM:MpR K kv E w S es clock xs):∀(i j:Nat) (p q:κ × ν),xs[i]?=some p→xs[j]?=some q→p.1=q.1→i=j:=by
 intro i j p q hi hj h;have hli:i<es.toList.length:=by rw [hM.len];exact (List.getElem?_eq_some_iff.1 hi).1
 have hlj:j<es.toList.length:=by rw [hM.len];exact (List.getElem?_eq_some_iff.1 hj).1
 have h1:=(hM.ent i _ p (List.getElem?_eq_getElem hli) hi).1;have h2:=(hM.ent j _ q (List.getElem?_eq_getElem hlj) hj).1;have hn:(es.toList.map (·.key)).Nodup:=hM.st.2.2;have e1:(es.toList.map (·.key))[i]?=some (kv p.1):=by simp only [List.getElem?_map,List.getElem?_eq_getElem hli,Option.map_some,h1]
 have e2:(es.toList.map (·.key))[j]?=some (kv q.1):=by simp only [List.getElem?_map,List.getElem?_eq_getElem hlj,Option.map_some,h2]
 rw [h] at e1;exact (List.getElem?_inj (by simpa using hli) hn).1 (e1.trans e2.symm)
theorem zle {N:Nat} {og:Option Nat} {xs:List (κ × ν)} {s:St} {v:Value} (h:(Pd.map K kv E N og xs).p s v):∀b,og=some b→N≤b∧b<s.w.heap.size:=fun b hb=>by
 obtain ⟨g,hog,_,hN,hX,_⟩:=h;rw [hog] at hb;cases hb;exact ⟨hN,s.lt _ hX⟩
theorem map_uniq {N:Nat} {og:Option Nat} {xs ys:List (κ × ν)} {s:St} {u v:Value} (h:(Pd.map K kv E N og xs).p s u) (k:(Pd.map K kv E N og ys).p s v):u=v:=by
 obtain ⟨g,hog,hv,_⟩:=h;obtain ⟨g',hog',hv',_⟩:=k;rw [hog] at hog';cases hog';rw [hv,hv']
section
variable {P : Program} {ops : Array Oper} {o : Oper} {L : Lst} {Q : Exit → Act → World → Prop} {rest : List Oper} {M : Nat → Prop} {n : Nat} {s0 : St} {a : Act} {s : St} {t : TypeId}
theorem zjv (d:Nat) (K:En κ) (kv:κ→Value) (E:En ν) (hL:Has M n s0 a s L) (ho:o.op = .makeMap t none) (hg:o.guard=none) (hd:o.dst=some d) (hn:Nat.blt d n=true)
  (k:∀a' s' g,s.w.heap.size≤g→Has M n s0 a' s' ((d,Pd.map K kv E s0.w.heap.size (some g) [])::L)→wpList P ops Q rest a' s'.w):wpList P ops Q (o::rest) a s.w:=by
 have hr:(execOp a.eval o).run P s.w = .ok (.value (.map (some s.w.heap.size))) (s.pushX (.map #[] 0)).w:=by
  unfold execOp;rw [ho];simp [Instr.makeMap,St.pushX]
 refine wpList_plain hg fun K hK=>?_;unfold Oper.wp;rw [hr];refine hK _ _ ?_;simp only [hd];exact k _ _ s.w.heap.size (Nat.le_refl _) (hL.put (Ex.pushX s _) hn ⟨_,rfl,rfl,hL.ent.mv.size,.inr rfl,#[],0,[],heap_alloc_new s.w _,⟨by simp [Stamped],rfl,fun i e p h=>by simp at h⟩,.refl _⟩)
theorem Has.mlt {N:Nat} {og:Option Nat} {xs:List (κ × ν)} (h:Has M n s0 a s L) (t:Nat) (hl:lk L t=some (Pd.map K kv E N og xs)):∀k,og=some k→k<s.w.heap.size:=fun k hk=>(zle (h.get t hl) k hk).2
end
structure TyV {α:Type} (P:Program) (t:TypeId) (E:En α) (z:α):Prop where
 zero:∃i cs,P.info? t=some i∧i.zero=some (E.val cs)∧∀w S,E.R w S cs z
def KN (xs:List (κ × ν)):Prop:=(xs.map (·.1)).Nodup
theorem KN.perm {xs ys:List (κ × ν)} (h:KN xs) (hp:xs.Perm ys):KN ys:=(hp.map _).nodup_iff.1 h
theorem KN.idx {xs:List (κ × ν)} (h:KN xs):∀(i j:Nat) (p q:κ × ν),xs[i]?=some p→xs[j]?=some q→p.1=q.1→i=j:=fun i j p q hi hj e=>by
 have hli:=(List.getElem?_eq_some_iff.1 hi).1;have e1:(xs.map (·.1))[i]?=some p.1:=by rw [List.getElem?_map,hi];rfl
 have e2:(xs.map (·.1))[j]?=some q.1:=by rw [List.getElem?_map,hj];rfl
 rw [e] at e1;exact (List.getElem?_inj (by simpa using hli) h).1 (e1.trans e2.symm)
theorem MpR.kn {P:Program} {kt:TypeId} (hK:KeyT P kt K kv) {w S es clock} {xs:List (κ × ν)} (hM:MpR K kv E w S es clock xs):KN xs:=by
 unfold KN List.Nodup;rw [List.pairwise_iff_getElem];intro i j hi hj hij e;simp only [List.length_map] at hi hj;simp only [List.getElem_map] at e;have:=hM.nodup hK i j _ _ (List.getElem?_eq_getElem hi) (List.getElem?_eq_getElem hj) e;omega
end
section
variable {κ ν : Type} [DecidableEq κ] {K : En κ} {kv : κ → Value} {E : En ν}
theorem find_at {xs:List (κ × ν)} {k:κ} {j:Nat} {p:κ × ν} (hn:∀(i j:Nat) (p q:κ × ν),xs[i]?=some p→xs[j]?=some q→p.1=q.1→i=j) (hj:xs[j]?=some p) (hk:p.1=k):xs.find? (fun p=>p.1==k)=some p:=by
 cases h:xs.find? (fun p=>p.1==k) with
 | none=>
  have:=List.find?_eq_none.1 h p (List.mem_of_getElem? hj);simp [hk] at this
 | some q=>
  have h1:=List.find?_some h;have h2:=List.mem_of_find?_eq_some h;obtain ⟨i,hi⟩:=List.getElem?_of_mem h2;have:=hn i j q p hi hj (by rw [hk];simpa using h1);subst this;rw [hi] at hj;exact hj
theorem zhz {xs:List (κ × ν)} {k:κ} {z:ν} (h:∀p∈xs,p.1≠k):zd4 xs k z=z:=by
 unfold zd4;rw [List.find?_eq_none.2 (fun p hp=>by simpa using h p hp)]
theorem zew {xs:List (κ × ν)} {k:κ}:zha xs k=true↔∃p∈xs,p.1=k:=by simp [zha]
theorem znh {xs:List (κ × ν)} (h:KN xs) {p:κ × ν} (hp:p∈xs) (z:ν):zd4 xs p.1 z=p.2:=by
 obtain ⟨j,hj⟩:=List.getElem?_of_mem hp;unfold zd4;rw [find_at h.idx hj rfl]
theorem zou {xs ys:List (κ × ν)} (h:KN ys) (hp:ys.Perm xs) (k:κ) (z:ν):zd4 ys k z=zd4 xs k z:=by
 by_cases hk:∃p∈ys,p.1=k
 ·obtain ⟨p,hm,rfl⟩:=hk;rw [znh h hm,znh (h.perm hp) (hp.mem_iff.1 hm)]
 ·rw [zhz fun p hm e=>hk ⟨p,hm,e⟩,zhz fun p hm e=>hk ⟨p,hp.mem_iff.2 hm,e⟩]
theorem zhy {xs ys:List (κ × ν)} (hp:ys.Perm xs) (k:κ):zha ys k=zha xs k:=by
 rw [Bool.eq_iff_iff,zew,zew];exact ⟨fun ⟨p,hm,e⟩=>⟨p,hp.mem_iff.1 hm,e⟩,fun ⟨p,hm,e⟩=>⟨p,hp.mem_iff.2 hm,e⟩⟩
theorem mput_perm {xs ys:List (κ × ν)} (hp:ys.Perm xs) (k:κ) (v:ν):(zf4 ys k v).Perm (zf4 xs k v):=by
 unfold zf4;rw [zhy hp];cases zha xs k
 ·exact hp.append_right _
 ·exact hp.map _
section
variable {P : Program} {ops : Array Oper} {o : Oper} {L L' : Lst} {Q : Exit → Act → World → Prop} {rest : List Oper} {M : Nat → Prop} {n : Nat} {s0 : St} {a : Act} {s : St} {t kt et : TypeId}
theorem MpR.look {w:World} {S:Nat→Prop} {es:Array MapEntry} {clock:Nat} {xs:List (κ × ν)} (hM:MpR K kv E w S es clock xs) (hK:KeyT P kt K kv) (k:κ):
  (Sem.run P (Instr.findKey kt (kv k) es.toList) w = .ok none w∧zha xs k=false)∨∃(j:Nat) (e:MapEntry) (v:ν) (cs:List Value),Sem.run P (Instr.findKey kt (kv k) es.toList) w = .ok (some (j,e.val)) w∧zha xs k=true∧(∀z,zd4 xs k z=v)∧e.val=E.val cs∧E.R w S cs v:=by
 rcases hK.find w k es.toList hM.keys with ⟨h1,h2⟩ | ⟨j,e,h1,h2,h3⟩
 ·refine .inl ⟨h1, ?_⟩;rw [← Bool.not_eq_true,zew];rintro ⟨p,hp,e⟩;obtain ⟨i,hi⟩:=List.getElem?_of_mem hp;have hlt:i<es.toList.length:=by rw [hM.len];exact (List.getElem?_eq_some_iff.1 hi).1
  exact h2 _ (List.getElem_mem hlt) (by rw [(hM.ent i _ p (List.getElem?_eq_getElem hlt) hi).1,e])
 ·have hlt:j<xs.length:=by rw [← hM.len];exact (List.getElem?_eq_some_iff.1 h2).1
  have hj:=List.getElem?_eq_getElem hlt;obtain ⟨hk1,_,cs',hv',hR'⟩:=hM.ent j e _ h2 hj;have hk2:xs[j].1=k:=hK.inj (hk1.symm.trans h3);refine .inr ⟨j,e,xs[j].2,cs',h1,zew.2 ⟨_,List.getElem_mem hlt,hk2⟩,fun z=>?_,hv',hR'⟩;unfold zd4;rw [find_at (hM.nodup hK) hj hk2]
theorem mget_no {xs:List (κ × ν)} {k:κ} {z:ν} (h:zha xs k=false):zd4 xs k z=z:=zhz fun p hp e=>by
 have:=zew.2 ⟨p,hp,e⟩;rw [h] at this;cases this
theorem zqc {N:Nat} {og:Option Nat} {xs:List (κ × ν)} {k:κ} {z:ν} {x y:Operand} (hx:Opn L x (Pd.map K kv E N og xs)) (hy:Opn L y (Pd.rep K k)) (ht:P.underlying t=some (.map kt et)) (hK:KeyT P kt K kv) (hz:TyV P et E z)
  (ho:o.op = .lookup t x y false) (hg:o.guard=none):T P ops o L (Pd.rep E (zd4 xs k z)):=
 T.pure hg fun M n s0 a s hL=>by
  obtain ⟨g,_,hv,_,_,es,clock,ys,hgb,hM,hp⟩:=hx M n s0 a s hL;obtain ⟨cs,hkv,hkR⟩:=hy M n s0 a s hL;rw [hK.val hkR] at hkv;obtain ⟨i,zc,hz1,hz2,hz3⟩:=hz.zero;have hzr:(zeroValue et).run P s.w = .ok (E.val zc) s.w:=by simp [zeroValue,typeInfo,hz1,hz2]
  rcases hM.look hK k with ⟨h1,h2⟩ | ⟨j,e,v,cs',h1,h2,h3,h4,h5⟩
  ·refine ⟨E.val zc, ?_,zc,rfl, ?_⟩
   ·unfold execOp;rw [ho];simp only [hv,hkv];simp [Instr.lookup,run_underlying ht,Go.MapKept.run_getObj_map hgb,hK.check,h1,hzr,Result.andThen]
   ·rw [zhy hp] at h2;rw [mget_no h2];exact hz3 _ _
  ·refine ⟨e.val, ?_,cs',h4, ?_⟩
   ·unfold execOp;rw [ho];simp only [hv,hkv];simp [Instr.lookup,run_underlying ht,Go.MapKept.run_getObj_map hgb,hK.check,h1,Result.andThen]
   ·rw [← zou (hM.kn hK) hp,h3];exact h5
theorem run_mput {N:Nat} {og:Option Nat} {xs:List (κ × ν)} {k:κ} {v1:ν} {s:St} {v kvl vvl:Value} (hx:(Pd.map K kv E N og xs).p s v) (hy:(Pd.rep K k).p s kvl) (hz:(Pd.rep E v1).p s vvl) (ht:P.underlying t=some (.map kt et)) (hK:KeyT P kt K kv):
  ∃s',(Instr.mapUpdate t v kvl vvl).run P s.w = .ok () s'.w∧Ef (fun b=>og=some b) s s'∧(∀b,s.X b→s'.X b)∧(Pd.map K kv E N og (zf4 xs k v1)).p s' v:=by
 obtain ⟨g,hog,hv,hN,hX,es,clock,ys,hgb,hM,hpm⟩:=hx;obtain ⟨cs,hkv,hkR⟩:=hy;rw [hK.val hkR] at hkv;obtain ⟨cs1,hvv,hvR⟩:=hz;subst hv hkv;have hlt:=(Array.getElem?_eq_some_iff.1 hgb).1
 suffices hsuf:∃s',(Instr.mapUpdate t (.map (some g)) (kv k) vvl).run P s.w = .ok () s'.w∧Ef (fun b=>og=some b) s s'∧(∀b,s.X b→s'.X b)∧∃es' clock',s'.w.heap[g]?=some (.map es' clock')∧MpR K kv E s'.w (zgh s') es' clock' (zf4 ys k v1) by
  obtain ⟨s',h1,h2,h3,es',clock',h4,h5⟩:=hsuf;exact ⟨s',h1,h2,h3,g,hog,rfl,hN,h3 g hX,es',clock',_,h4,h5,mput_perm hpm k v1⟩
 clear hpm;generalize ys=xs at *;have step:∀es' clock',∃s':St,s'.w = { s.w with heap:=s.w.heap.setIfInBounds g (.map es' clock') }∧Ef (fun b=>og=some b) s s'∧(∀b,s.X b→s'.X b)∧s'.w.heap[g]?=some (.map es' clock')∧s'.X=s.X:=fun es' clock'=>by
  refine ⟨⟨{ s.w with heap:=s.w.heap.setIfInBounds g (.map es' clock') },s.X,fun b hb=>by simpa using s.lt b hb⟩,rfl,⟨⟨DR.eq rfl,rfl,rfl,rfl,by simp,fun b hb hnb=>?_,fun b hb=>?_,fun b hb=>.inl hb⟩,fun b hb _=>hb⟩,fun b hb=>hb,(heap_set hgb).1,rfl⟩
  ·exact (heap_set hgb).2 b (fun e=>hnb (by rw [hog,e]))
  ·rw [hog] at hb;cases hb;exact hX
 rcases hK.find s.w k es.toList hM.keys with ⟨h1,h2⟩ | ⟨j,e,h1,h2,h3⟩
 ·have hno:zha xs k=false:=by
   rw [← Bool.not_eq_true,zew];rintro ⟨p,hp,e⟩;obtain ⟨i,hi⟩:=List.getElem?_of_mem hp;have hlt:i<es.toList.length:=by rw [hM.len];exact (List.getElem?_eq_some_iff.1 hi).1
   exact h2 _ (List.getElem_mem hlt) (by rw [(hM.ent i _ p (List.getElem?_eq_getElem hlt) hi).1,e])
  obtain ⟨s',hw,hE,hXX,hgb',hXe⟩:=step (es.push ⟨kv k,vvl,clock⟩) (clock+1);refine ⟨s', ?_,hE,hXX,_,_,hgb', ?_⟩
  ·rw [hw];simp [Instr.mapUpdate,run_underlying ht,Go.MapKept.run_getObj_map hgb,hK.check,h1,Go.MapKept.run_setObj_map _ hgb,Result.andThen]
  ·have hM':=hM.go hE.mv;refine ⟨stamped_push hM.st (fun x hx=>h2 x hx), ?_,fun i e p he hp=>?_⟩
   ·have:=hM.len;simp only [zf4,hno,cond_false,Array.toList_push,List.length_append,List.length_cons,List.length_nil];omega
   ·simp only [zf4,hno,cond_false,Array.toList_push] at he hp
    by_cases hi:i<xs.length
    ·rw [List.getElem?_append_left hi] at hp;rw [List.getElem?_append_left (by rw [hM.len];exact hi)] at he;exact hM'.ent i e p he hp
    ·have hie:i=xs.length:=by
      have:=(List.getElem?_eq_some_iff.1 hp).1;simp at this;omega
     subst hie;rw [List.getElem?_append_right (Nat.le_refl _)] at hp;rw [List.getElem?_append_right (by rw [hM.len];exact Nat.le_refl _),hM.len] at he;simp at he hp;subst he;subst hp;exact ⟨rfl,⟨cs,K.go hE.mv hkR⟩,cs1,hvv,E.go hE.mv hvR⟩
 ·have hltj:j<xs.length:=by rw [← hM.len];exact (List.getElem?_eq_some_iff.1 h2).1
  have hjx:=List.getElem?_eq_getElem hltj;have hk2:xs[j].1=k:=hK.inj ((hM.ent j e _ h2 hjx).1.symm.trans h3);have hyes:zha xs k=true:=zew.2 ⟨_,List.getElem_mem hltj,hk2⟩;have hj:es[j]?=some e:=by simpa using h2
  have hlist:(es.modify j (fun e'=>{ e' with key:=kv k,val:=vvl })).toList=es.toList.set j { e with key:=kv k,val:=vvl }:=by rw [Array.toList_modify,Go.ChangeMaps.modify_eq_set _ _ _ _ h2]
  have hkeyf:∀e',es[j]?=some e'→({ e' with key:=kv k,val:=vvl }:MapEntry).key=e'.key:=fun e' he'=>by rw [hj] at he';cases he';exact h3.symm
  obtain ⟨s',hw,hE,hXX,hgb',hXe⟩:=step (es.modify j (fun e'=>{ e' with key:=kv k,val:=vvl })) clock;refine ⟨s', ?_,hE,hXX,_,_,hgb', ?_⟩
  ·rw [hw];simp [Instr.mapUpdate,run_underlying ht,Go.MapKept.run_getObj_map hgb,hK.check,h1,hj,h3,hK.stays,Go.MapKept.run_setObj_map _ hgb,Result.andThen]
  ·have hM':=hM.go hE.mv;refine ⟨stamped_modify hM.st _ _ (fun _ _=>rfl) (fun e' _ he'=>hkeyf e' he'), ?_,fun i e1 p he hp=>?_⟩
   ·rw [hlist];simp only [zf4,hyes,cond_true,List.length_map,List.length_set];exact hM.len
   ·rw [hlist] at he;simp only [zf4,hyes,cond_true,List.getElem?_map] at hp;obtain ⟨p0,hp0,rfl⟩:=Option.map_eq_some_iff.1 hp
    by_cases hij:j=i
    ·subst hij;rw [hjx] at hp0;cases hp0;have hjl:j<es.toList.length:=by rw [hM.len];exact hltj
     rw [List.getElem?_set_self hjl] at he;cases he;simp only [hk2,beq_self_eq_true,cond_true];exact ⟨trivial,⟨cs,K.go hE.mv hkR⟩,cs1,hvv,E.go hE.mv hvR⟩
    ·rw [List.getElem?_set_ne hij] at he;have hne:(p0.1==k)=false:=by
      rw [← Bool.not_eq_true];intro hh;exact hij (hM.nodup hK j i _ p0 hjx hp0 (by rw [hk2];exact (by simpa using hh:p0.1=k).symm))
     rw [hne];exact hM'.ent i e1 p0 he hp0
theorem zia {og:Option Nat} {xs:List (κ × ν)} {k:κ} {v1:ν} {x y z:Operand} (hL:Has M n s0 a s L) (hx:Opn L x (Pd.map K kv E s0.w.heap.size og xs)) (hy:Opn L y (Pd.rep K k)) (hz:Opn L z (Pd.rep E v1))
  (ht:P.underlying t=some (.map kt et)) (hK:KeyT P kt K kv) (ho:o.op = .mapUpdate t x y z∨o.op = .insert t x y z) (hg:o.guard=none) (hd:o.dst=none)
  (hk:Kw (fun b=>og=some b) L (Pd.map K kv E s0.w.heap.size og xs) (Pd.map K kv E s0.w.heap.size og (zf4 xs k v1)) L')
  (kk:∀s',Has M n s0 a s' L'→wpList P ops Q rest a s'.w):wpList P ops Q (o::rest) a s.w:=by
 have hxv:=hx M n s0 a s hL;obtain ⟨s',hr,hE,hXX,hp⟩:=run_mput (P:=P) hxv (hy M n s0 a s hL) (hz M n s0 a s hL) ht hK;refine wpList_plain hg fun K' hK'=>?_;unfold Oper.wp execOp;have h2:wpList P ops Q rest a s'.w:=kk s' (hL.turn hE (.inl fun b hb=>(zle hxv b hb).1) hXX hk fun v hv=>by rw [map_uniq hv hxv];exact hp);rcases ho with ho | ho
 all_goals
  simp only [ho,Sem.run_bind,hr,Result.andThen_ok,Sem.run_pure];refine hK' _ _ ?_;simp only [hd];exact h2
end
end
end
end Go.Proofs.YtjdaaiodniicoaaGreatDoor.V
namespace Go.Proofs.YtjdaaiodniicoaaGreatDoor.V
open Go
set_option linter.unusedVariables false
section
variable {u : Bool} [Dr u]
theorem Ef.exg {M T:Nat→Prop} {s0 s s':St} (h:Fr M s0 s) (e:Ef T s s') (hT:∀b,T b→M b∨s0.w.heap.size≤b) (hk:∀b,M b→s.X b→s'.X b):Fr M s0 s':=
 ⟨⟨h.mv.dr.trans e.mv.dr,e.mv.os.trans h.mv.os,e.mv.tape.trans h.mv.tape,e.mv.output.trans h.mv.output,Nat.le_trans h.mv.size e.mv.size,
  fun b hb hn=>(e.mv.blk b (Nat.lt_of_lt_of_le hb h.mv.size) (fun ht=>(hT b ht).elim hn (fun hs=>by omega))).trans (h.mv.blk b hb hn),h.mv.tx,
  fun b hb=>(e.mv.xx b hb).elim (fun j=>h.mv.xx b j) (fun j=>.inr (Nat.le_trans h.mv.size j))⟩,
  fun b hb=>by
  by_cases ht:T b
  ·rcases hT b ht with hm | hs
   ·exact hk b hm (h.keep b hb)
   ·have:=s0.lt b hb;omega
  ·exact e.keep b (h.keep b hb) ht⟩
theorem Has.efg {M:Nat→Prop} {n:Nat} {s0:St} {a:Act} {s s':St} {L L':Lst} {T:Nat→Prop} (h:Has M n s0 a s L) (e:Ef T s s') (hT:∀b,T b→M b∨s0.w.heap.size≤b) (hX:∀b,M b→s.X b→s'.X b) (hk:Kp T L L'):Has M n s0 a s' L' where
 size:=h.size
 defers:=h.defers
 ent:=e.exg h.ent hT hX
 gl:=h.gl
 at_:=hk.p h.at_ fun q v h2=>q.mv e.mv fun b hb=>⟨h2 b hb,fun hx=>e.keep b hx (h2 b hb)⟩
section
variable {P : Program} {ops : Array Oper} {o : Oper} {L L' : Lst} {Q : Exit → Act → World → Prop} {rest : List Oper} {M : Nat → Prop} {n : Nat} {s0 : St} {a : Act} {s : St} {te : TypeId} {c : Nat} {og : Option Nat}
end
end
end Go.Proofs.YtjdaaiodniicoaaGreatDoor.V
namespace Go.Proofs.YtjdaaiodniicoaaGreatDoor.V
open Go
set_option linter.unusedVariables false
section
variable {u : Bool} [Dr u]
structure Xk (K:Nat) (s s':St):Prop where
 mv:Mv (fun b=>K≤b∧s.X b) s s'
 keep:∀b,b<K→s.X b→s'.X b
theorem Xk.of {s s':St} (h:Ex s s') (K:Nat):Xk K s s':=
 ⟨⟨h.mv.dr,h.mv.os,h.mv.tape,h.mv.output,h.mv.size,fun b hb _=>h.mv.blk b hb (fun h=>h),fun b hb=>hb.2,h.mv.xx⟩,fun b _ hb=>h.keep b hb⟩
theorem Xk.trans {K:Nat} {a b c:St} (h:Xk K a b) (k:Xk K b c):Xk K a c:=
 ⟨⟨h.mv.dr.trans k.mv.dr,k.mv.os.trans h.mv.os,k.mv.tape.trans h.mv.tape,k.mv.output.trans h.mv.output,Nat.le_trans h.mv.size k.mv.size,
  fun x hx hn=>(k.mv.blk x (Nat.lt_of_lt_of_le hx h.mv.size) (fun ht=>(h.mv.xx x ht.2).elim (fun hX=>hn ⟨ht.1,hX⟩) (fun hs=>by omega))).trans (h.mv.blk x hx hn),fun x hx=>hx.2,
  fun x hx=>(k.mv.xx x hx).elim (fun j=>h.mv.xx x j) (fun j=>.inr (Nat.le_trans h.mv.size j))⟩,fun x hx hX=>k.keep x hx (h.keep x hx hX)⟩
theorem Xk.pd {K:Nat} {s s':St} {q:Pd} {v:Value} (h:Xk K s s') (hq:∀b,q.own b→¬ K≤b) (hp:q.p s v):q.p s' v:=
 q.mv h.mv (fun b hb=>⟨fun ht=>hq b hb ht.1,fun hX=>h.keep b (Nat.lt_of_not_le (hq b hb)) hX⟩) hp
theorem Has.xk {K:Nat} {M:Nat→Prop} {n:Nat} {s0:St} {a:Act} {s s':St} {L L':Lst} (h:Has M n s0 a s L) (e:Xk K s s') (hK:s0.w.heap.size≤K) (hk:Kp (fun b=>K≤b) L L'):Has M n s0 a s' L' where
 size:=h.size
 defers:=h.defers
 ent:=⟨⟨h.ent.mv.dr.trans e.mv.dr,e.mv.os.trans h.ent.mv.os,e.mv.tape.trans h.ent.mv.tape,e.mv.output.trans h.ent.mv.output,Nat.le_trans h.ent.mv.size e.mv.size,
  fun b hb hn=>(e.mv.blk b (Nat.lt_of_lt_of_le hb h.ent.mv.size) (fun ht=>by have:=ht.1;omega)).trans (h.ent.mv.blk b hb hn),h.ent.mv.tx,
  fun b hb=>(e.mv.xx b hb).elim (fun j=>h.ent.mv.xx b j) (fun j=>.inr (Nat.le_trans h.ent.mv.size j))⟩,fun b hb=>e.keep b (Nat.lt_of_lt_of_le (s0.lt b hb) hK) (h.ent.keep b hb)⟩
 gl:=h.gl
 at_:=hk.p h.at_ fun q v h2=>e.pd h2
def TX (P:Program) (ops:Array Oper) (o:Oper) (K:Nat) (L:Lst) (q:Pd):Prop:=
 ∀M n s0 a s,s0.w.heap.size≤K→Has M n s0 a s L→OpR P ops o a s (fun v s'=>Xk K s s'∧q.p s' v)
theorem T.x {P:Program} {ops:Array Oper} {o:Oper} {L:Lst} {q:Pd} (h:T P ops o L q) (K:Nat):TX P ops o K L q:=
 fun M n s0 a s _ hL Q k hk=>h M n s0 a s hL Q k fun v s' ⟨e,hq⟩=>hk v s' ⟨Xk.of e K,hq⟩
def nxt:List Nat→Nat→Option Nat
 | x::y::r,j=>bif Nat.beq x j then some y else nxt (y::r) j
 | _,_=>none
def pwCh (ops:Array Oper):List Nat→Bool
 | []=>true
 | x::r=>r.all (fun y=>zfn ops ops.size y x)&&pwCh ops r
def okCh (ops:Array Oper) (m:Nat) (ch:List Nat):Bool:=
 pwCh ops ch&&(List.range m).all fun i=>match ops[i]? with
  | none=>true
  | some o=>o.after.toList.all fun e=>!Region.binds .any e||match nxt ch e.on with | none=>true | some y=>Nat.beq y i
theorem okCh_pw {ops:Array Oper} {m:Nat} {ch:List Nat} (h:okCh ops m ch=true):pwCh ops ch=true:=by
 unfold okCh at h;rw [Bool.and_eq_true] at h;exact h.1
theorem okCh_dep {ops:Array Oper} {m:Nat} {ch:List Nat} (h:okCh ops m ch=true) {i:Nat} {o:Oper} (hi:i<m) (ho:ops[i]?=some o) (e:Edge) (he:e∈o.after.toList) (hb:Region.binds .any e=true) {y:Nat} (hy:nxt ch e.on=some y):y=i:=by
 unfold okCh at h;rw [Bool.and_eq_true,List.all_eq_true] at h;have h1:=h.2 i (by simpa using hi);rw [ho] at h1;have h2:=List.all_eq_true.1 h1 e he;simp only [hb,hy,Bool.not_true,Bool.false_or] at h2;exact Nat.eq_of_beq_eq_true h2
theorem nx_done {ops:Array Oper} {p:Nat→Prop}:∀(ch:List Nat),pwCh ops ch=true→∀c,c∈ch→(∀x,zfn ops ops.size c x=true→p x)→(∀j x,p j→zfn ops ops.size j x=true→p x)→¬ p c→∀j,j∈ch→p j→∃y,nxt ch j=some y∧(y=c∨p y)
 | [],_,c,hc,_,_,_,_,_,_=>by cases hc
 | x::r,h,c,hc,h1,h2,hnc,j,hj,hpj=>by
  unfold pwCh at h;rw [Bool.and_eq_true,List.all_eq_true] at h;rcases List.mem_cons.1 hc with rfl | hc
  ·rcases List.mem_cons.1 hj with rfl | hj
   ·exact absurd hpj hnc
   ·exact absurd (h2 j c hpj (h.1 j hj)) hnc
  ·match r,hc,h,hj with
   | y::r',hc,h,hj=>
    by_cases hjx:x=j
    ·subst hjx;refine ⟨y,by simp [nxt], ?_⟩;rcases List.mem_cons.1 hc with rfl | hc'
     ·exact .inl rfl
     ·right;have h3:=h.2;unfold pwCh at h3;rw [Bool.and_eq_true,List.all_eq_true] at h3;exact h1 y (h3.1 c hc')
    ·have hj':j∈y::r':=(List.mem_cons.1 hj).elim (fun e=>absurd e.symm hjx) id;obtain ⟨z,hz,hzc⟩:=nx_done (y::r') h.2 c hc h1 h2 hnc j hj' hpj;refine ⟨z, ?_,hzc⟩;unfold nxt;rw [zhd hjx];exact hz
def maskF (ch:List Nat):Nat→List Pd→List Pd
 | _,[]=>[]
 | i,q::qs=>(bif (nxt ch i).isSome then Pd.any else q)::maskF ch (i+1) qs
def mask (ch:List Nat) (qs:List Pd):List Pd:=maskF ch 0 qs
theorem maskF_get {ch:List Nat}:∀(k:Nat) (qs:List Pd) (i:Nat),(maskF ch k qs)[i]?=(qs[i]?).map fun q=>bif (nxt ch (k+i)).isSome then Pd.any else q
 | _,[],i=>by simp [maskF]
 | k,q::qs,i=>by
  cases i with
  | zero=>simp [maskF]
  | succ i=>simp only [maskF,List.getElem?_cons_succ];rw [maskF_get (k+1) qs i,show k+1+i=k+(i+1) by omega]
theorem mask_at {ch:List Nat} {qs:List Pd} {i:Nat} {q:Pd} {s:St} {v:Value} (hq:(mask ch qs)[i]?=some q) (h:nxt ch i=none→qs[i]?=some q→q.p s v):q.p s v:=by
 unfold mask at hq;rw [maskF_get,Nat.zero_add] at hq;obtain ⟨q0,h0,rfl⟩:=Option.map_eq_some_iff.1 hq;cases hn:nxt ch i with
 | none=>
  rw [hn] at h;exact h rfl h0
 | some y=>trivial
theorem rc_key {P:Program} {ops:Array Oper} {Q:Exit→Act→World→Prop} {M:Nat→Prop} {n:Nat} {s0:St} {s:St} {L:Lst} (m:Nat) (qs:List Pd) (F:List Nat) (K:Nat) (ch:List Nat) (hK:s0.w.heap.size≤K) (hLow:Kp (fun b=>K≤b) L L) (hch:okCh ops m ch=true)
  (hok:zd0 ops m n (L.map (·.1)) F=true) (hq:qs.length=m) (hm:m≤ops.size)
  (hT:∀i o q,i<m→ops[i]?=some o→qs[i]?=some q→F.contains i=false→TX P ops o K (zh3 ops qs o.after.toList L) q∧(ch.contains i=false→T P ops o (zh3 ops qs o.after.toList L) q))
  (hS:∀i q,i<m→qs[i]?=some q→ch.contains i=false→∀b,q.own b→¬ K≤b)
  (hB:∀a' s',Xk K s s'→Has M n s0 a' s' (zmp ops (mask ch qs) m L)→wpOps P ops Q (List.range' m (ops.size-m)) a' s'.w):
  ∀(f:Nat) (listed:Array Bool) (a:Act) (s':St),listed.size=ops.size→((List.range ops.size).filter (fun i=>!listed.getD i true)).length=f→Xk K s s'→Has M n s0 a s' L →
   (∀i o,listed.getD i false=true→ops[i]?=some o→∀e∈o.after.toList,Region.binds .any e=true→listed.getD e.on false=true)→(∀i,i<ops.size→m≤i→listed.getD i true=false) →
   (∀i,i<m→listed.getD i true=true→(∀y,nxt ch i=some y→listed.getD y true=false)→∀d q,(ops[i]?).bind (·.dst)=some d→qs[i]?=some q→q.p s' (a.eval (.tmp d)))→(∀i∈F,listed.getD i true=true)→wpAny P .any ops Q f listed a s'.w:=by
 have hok':=hok;unfold zd0 at hok';rw [Bool.and_eq_true] at hok';obtain ⟨hF,hok'⟩:=hok';rw [List.all_eq_true] at hok';intro f
 induction f with
 | zero=>
  intro listed a s' hs hc e hL' hcl hn hd hl0;have hall:∀i,i<ops.size→listed.getD i true=true:=by
   intro i hi;have:(List.range ops.size).filter (fun i=>!listed.getD i true)=[]:=List.length_eq_zero_iff.1 hc;rw [List.filter_eq_nil_iff] at this;have:=this i (by simpa using hi);simpa using this
  have hmm:m=ops.size:=by
   rcases Nat.lt_or_ge m ops.size with h | h
   ·have:=hn m h (Nat.le_refl _);rw [hall m h] at this;cases this
   ·omega
  refine zgi hok 0 ops.size listed a s'.w (by omega) (by omega) hs (fun i hi=>by rw [hall i hi];simp [hi]) ?_;have:=hB a s' e (zij hL' m fun i hi d q hdd hqq=>mask_at hqq (fun hn hqq=>hd i hi (hall i (by omega)) (fun y hy=>by rw [hn] at hy;cases hy) d q hdd hqq));rw [hmm] at this;simpa using this
 | succ f ih=>
  intro listed a s' hs hc e hL' hcl hn hd hl0
  by_cases hdone:∀i,i<m→listed.getD i true=true
  ·-- the tail
   have hf:f+1=ops.size-m:=by
    rw [← hc];have h1:(List.range ops.size).filter (fun i=>!listed.getD i true)=List.range' m (ops.size-m):=by
     have e1:List.range ops.size=List.range' 0 m++List.range' m (ops.size-m):=by
      rw [List.range_eq_range',show ops.size=m+(ops.size-m) by omega,← List.range'_append_1];simp
     rw [e1,List.filter_append];have e2:(List.range' 0 m).filter (fun i=>!listed.getD i true)=[]:=by
      rw [List.filter_eq_nil_iff];intro i hi;simp at hi;simp [hdone i hi]
     have e3:(List.range' m (ops.size-m)).filter (fun i=>!listed.getD i true)=List.range' m (ops.size-m):=by
      rw [List.filter_eq_self];intro i hi;simp at hi;simp [hn i (by omega) (by omega)]
     rw [e2,e3,List.nil_append]
    rw [h1];simp
   refine zgi hok (f+1) m listed a s'.w (by omega) (Nat.le_refl _) hs (fun i hi=>?_) ?_
   ·by_cases h:i<m
    ·simp [h,hdone i h]
    ·simp [h,hn i hi (by omega)]
   ·rw [hf];exact hB a s' e (zij hL' m fun i hi d q hdd hqq=>mask_at hqq (fun hn hqq=>hd i hi (hdone i hi) (fun y hy=>by rw [hn] at hy;cases hy) d q hdd hqq))
  ·have hex:∃i,i<m∧listed.getD i true=false:=by
    have h1:=Classical.not_forall.1 hdone;obtain ⟨i,hi⟩:=h1;rw [Classical.not_imp] at hi;exact ⟨i,hi.1,by simpa using hi.2⟩
   have hlow:∀i,i∈Region.ready .any ops listed→i<m:=by
    intro i hi;obtain ⟨h1,h2,o,ho,h3⟩:=zdf.1 hi;rcases Nat.lt_or_ge i m with h | h
    ·exact h
    ·exfalso;obtain ⟨k,hk,hkl⟩:=hex;have h5:=hok' i (by simpa using h1);simp only [ho,Bool.and_eq_true] at h5;have h6:=h5.2;rw [if_neg (by omega),List.all_eq_true] at h6;have h7:=h6 k (by simp;omega);have hkF:F.contains k=false:=by
      cases hc':F.contains k
      ·rfl
      ·have:=hl0 k (by simpa using hc');rw [this] at hkl;cases hkl
     rw [hkF,Bool.false_or] at h7;have h8:=zef (ops:=ops) (p:=fun j=>listed.getD j false=true) hcl _ i k h7 (fun o' ho'=>by rw [ho] at ho';cases ho';exact h3);have h10:listed.getD k false=listed.getD k true:=by simp [Array.getD,hs,show k<ops.size by omega]
     rw [h10,hkl] at h8;cases h8
   refine ⟨fun hnil=>?_,fun i hi=>?_⟩
   ·-- the least that isn't done is ready
    exfalso;obtain ⟨k,hk,hmin⟩:=exists_least (p:=fun i=>i<m∧listed.getD i true=false) hex;obtain ⟨o,ho⟩:∃o,ops[k]?=some o:=⟨ops[k]'(by omega),by simp⟩;have:k∈Region.ready .any ops listed:=by
     refine zdf.2 ⟨by omega,hk.2,o,ho,fun e he hb=>?_⟩;have h5:=hok' k (by simp;omega);simp only [ho,Bool.and_eq_true] at h5;have h1:=List.all_eq_true.1 h5.1 e he;simp only [hb,Bool.not_true,Bool.false_or] at h1;have h2:e.on<k:=Nat.le_of_ble_eq_true h1;have h4:listed.getD e.on false=listed.getD e.on true:=by simp [Array.getD,hs,show e.on<ops.size by omega]
     rw [h4]
     by_cases h6:listed.getD e.on true=true
     ·exact h6
     ·have:=hmin e.on ⟨by omega,by simpa using h6⟩;omega
    rw [hnil] at this;simp at this
   ·have him:=hlow i hi;obtain ⟨h1,h2,o,ho,h3⟩:=zdf.1 hi;obtain ⟨q,hqi⟩:∃q,qs[i]?=some q:=⟨qs[i]'(by omega),by simp⟩;have h5:=hok' i (by simpa using h1);have hiF:F.contains i=false:=by
     cases hc':F.contains i
     ·rfl
     ·have:=hl0 i (by simpa using hc');rw [this] at h2;cases h2
    simp only [ho,Bool.and_eq_true,if_pos him,hiF,Bool.false_or] at h5;obtain ⟨d,hdst⟩:∃d,o.dst=some d:=by
     cases hd':o.dst with
     | none=>rw [hd'] at h5;simp at h5
     | some d=>exact ⟨d,rfl⟩
    have h6:=h5.2;rw [hdst] at h6;simp only [Bool.and_eq_true] at h6;have hdep:Has M n s0 a s' (zh3 ops qs o.after.toList L):=by
     refine zj8 hL' _ fun e' he' hb d' q' hd' hq'=>?_;have h7:=h3 e' he' hb;have h8:=List.all_eq_true.1 h5.1 e' he';simp only [hb,Bool.not_true,Bool.false_or] at h8;have h9:e'.on<i:=Nat.le_of_ble_eq_true h8;have h10:listed.getD e'.on false=listed.getD e'.on true:=by simp [Array.getD,hs,show e'.on<ops.size by omega]
     refine hd e'.on (by omega) (h10 ▸ h7) (fun y hy=>?_) d' q' hd' hq';rw [okCh_dep hch him ho e' he' hb hy];exact h2
    have hrdy:∀x,zfn ops ops.size i x=true→listed.getD x false=true:=fun x hx=>
     zef (ops:=ops) (p:=fun j=>listed.getD j false=true) hcl _ i x hx (fun o' ho'=>by rw [ho] at ho';cases ho';exact h3)
    have hrcl:∀j x,listed.getD j false=true→zfn ops ops.size j x=true→listed.getD x false=true:=fun j x hj hx=>
     zef (ops:=ops) (p:=fun j=>listed.getD j false=true) hcl _ j x hx (fun o' ho' e he hb=>hcl j o' hj ho' e he hb)
    have h2f:listed.getD i false=false:=by rw [show listed.getD i false=listed.getD i true by simp [Array.getD,hs,h1]];exact h2
    have cont:∀(v:Value) (s'':St),Xk K s' s''→q.p s'' v→(∀j,j<m→listed.getD j true=true→(∀y,nxt ch j=some y→(listed.setIfInBounds i true).getD y true=false)→∀d' q',(ops[j]?).bind (·.dst)=some d'→qs[j]?=some q'→q'.p s'' (a.eval (.tmp d'))) →
      wpAny P .any ops Q f (listed.setIfInBounds i true) (a.put o.dst v) s''.w:=by
     intro v s'' e' hq' hkeep;have hfresh:lk L d=none:=zr1 h6.1.2;refine ih _ _ s'' (by simpa using hs) ?_ (e.trans e') ?_ ?_ ?_ ?_ ?_
     ·-- one fewer
      have hnd:((List.range ops.size).filter (fun j=>!listed.getD j true)).Nodup:=List.Nodup.sublist List.filter_sublist List.nodup_range;have hmem:i∈(List.range ops.size).filter (fun j=>!listed.getD j true):=List.mem_filter.2 ⟨by simpa using h1,by rw [h2];rfl⟩;have e1:(List.range ops.size).filter (fun j=>!(listed.setIfInBounds i true).getD j true)=((List.range ops.size).filter (fun j=>!listed.getD j true)).filter (fun j=>j != i):=by
       rw [List.filter_filter];refine List.filter_congr fun j hj=>?_;rw [zb3 (by omega)]
       by_cases hji:j=i <;> simp [hji]
      rw [e1,← List.Nodup.erase_eq_filter hnd,List.length_erase_of_mem hmem,hc];rfl
     ·have hp:=(hL'.xk e' hK hLow).put' (d:=d) h6.1.1 hq';rw [hdst];refine hp.sub fun t q'' hl=>hp.at_ t q'' ?_;unfold lk;have:d≠t:=fun he=>by rw [he] at hfresh;rw [hfresh] at hl;cases hl
      rw [zhd this];exact hl
     ·intro j o' hj ho' e2 he2 hb2;rw [zb3 (by omega)] at hj ⊢;split
      ·rfl
      ·by_cases hji:j=i
       ·subst hji;rw [ho] at ho';cases ho';exact h3 e2 he2 hb2
       ·rw [if_neg hji] at hj;exact hcl j o' hj ho' e2 he2 hb2
     ·intro j hj hmj;rw [zb3 (by omega),if_neg (by omega)];exact hn j hj hmj
     ·intro j hj hlj hny d' q'' hd' hq'';rw [hdst]
      by_cases hji:j=i
      ·subst hji;rw [ho,Option.bind_some,hdst] at hd';cases hd';rw [hqi] at hq'';cases hq'';rw [zd7 hL'.size h6.1.1];exact hq'
      ·rw [zb3 (by omega),if_neg hji] at hlj;have h7:=List.all_eq_true.1 h6.2 j (by simpa using hj);have h8:Nat.beq j i=false:=zhd hji;rw [h8,Bool.false_or,hd'] at h7;have:d≠d':=fun he=>by simp [he] at h7
       rw [zfq this];exact hkeep j hj hlj hny d' q'' hd' hq''
     ·intro j hj;rw [zb3 (by omega)];split
      ·rfl
      ·exact hl0 j hj
    have hwk:∀y,(listed.setIfInBounds i true).getD y true=false→listed.getD y true=false:=fun y hy=>by
     rw [zb3 (by omega)] at hy
     by_cases hyi:y=i
     ·simp [hyi] at hy
     ·rw [if_neg hyi] at hy;exact hy
    obtain ⟨hTX,hTT⟩:=hT i o q him ho hqi hiF;have hrun:(if Region.wanted o (yielded ops a.tmps) then o.wp P a s'.w (wpAny P .any ops Q f (listed.setIfInBounds i true)) Q else wpAny P .any ops Q f (listed.setIfInBounds i true) (a.put o.dst undef) s'.w):=by
     cases hic:ch.contains i
     ·exact hTT hic M n s0 a s' hdep Q _ fun v s'' ⟨e',hq'⟩=>cont v s'' (Xk.of e' K) hq' fun j hj hlj hny d' q' hd' hq''=>Pd.ex e' (hd j hj hlj (fun y hy=>hwk y (hny y hy)) d' q' hd' hq'')
     ·exact hTX M n s0 a s' hK hdep Q _ fun v s'' ⟨e',hq'⟩=>cont v s'' e' hq' fun j hj hlj hny d' q' hd' hq''=>by
       cases hjc:ch.contains j
       ·exact e'.pd (hS j q' hj hq'' hjc) (hd j hj hlj (fun y hy=>hwk y (hny y hy)) d' q' hd' hq'')
       ·have hlj':listed.getD j false=true:=by rw [show listed.getD j false=listed.getD j true by simp [Array.getD,hs,show j<ops.size by omega]];exact hlj
        obtain ⟨y,hy,hyi⟩:=nx_done (p:=fun x=>listed.getD x false=true) (ops:=ops) ch (okCh_pw hch) i (by simpa using hic) hrdy hrcl (by rw [h2f];decide) j (by simpa using hjc) hlj';have:=hny y hy;rw [zb3 (by omega)] at this;rcases hyi with rfl | hyl
        ·simp at this
        ·by_cases hyi:y=i
         ·simp [hyi] at this
         ·rw [if_neg hyi] at this;have hys:y<ops.size:=by
           rcases Nat.lt_or_ge y listed.size with h | h
           ·omega
           ·simp [Array.getD,Nat.not_lt.2 h] at hyl
          rw [show listed.getD y true=listed.getD y false by simp [Array.getD,hs,hys]] at this;rw [hyl] at this;cases this
    unfold wpOp;simp only [ho]
    by_cases hw:Region.wanted o (yielded ops a.tmps)=true
    ·rw [if_pos hw] at hrun ⊢;exact .inl hrun
    ·rw [if_neg hw] at hrun ⊢;exact hrun
theorem rc_end {P:Program} {ops:Array Oper} {Q:Exit→Act→World→Prop} {M:Nat→Prop} {n:Nat} {s0:St} {a:Act} {s:St} {L:Lst} {f:Nat} {listed:Array Bool} (m:Nat) (qs:List Pd) (F:List Nat) (K:Nat) (ch:List Nat) (hK:s0.w.heap.size≤K) (hLow:Kp (fun b=>K≤b) L L) (hch:okCh ops m ch=true) (hL:Has M n s0 a s L)
  (hok:zd0 ops m n (L.map (·.1)) F=true) (hst:zl6 ops listed m F=true) (hc:((List.range ops.size).filter (fun i=>!listed.getD i true)).length=f) (hfl:FlOk ops qs L F) (hq:qs.length=m) (hm:m≤ops.size)
  (hT:∀i o q,i<m→ops[i]?=some o→qs[i]?=some q→F.contains i=false→TX P ops o K (zh3 ops qs o.after.toList L) q∧(ch.contains i=false→T P ops o (zh3 ops qs o.after.toList L) q))
  (hS:∀i q,i<m→qs[i]?=some q→ch.contains i=false→∀b,q.own b→¬ K≤b)
  (hB:∀a' s',Xk K s s'→Has M n s0 a' s' (zmp ops (mask ch qs) m L)→wpOps P ops Q (List.range' m (ops.size-m)) a' s'.w):wpAny P .any ops Q f listed a s.w:=by
 unfold zl6 at hst;rw [Bool.and_eq_true,List.all_eq_true] at hst;obtain ⟨h1,h2⟩:=hst;have hsz:=Nat.eq_of_beq_eq_true h1;have hg:∀i,i<ops.size→listed.getD i true=F.contains i:=fun i hi=>by
  have:=h2 i (by simpa using hi);rw [Bool.and_eq_true] at this;exact eq_of_beq this.1
 have hgf:∀i,i<ops.size→listed.getD i false=listed.getD i true:=fun i hi=>by simp [Array.getD,hsz,hi]
 have hFm:∀i∈F,i<m:=by
  unfold zd0 at hok;rw [Bool.and_eq_true,List.all_eq_true] at hok;exact fun i hi=>Nat.le_of_ble_eq_true (hok.1 i hi)
 refine rc_key m qs F K ch hK hLow hch hok hq hm hT hS hB f listed a s hsz hc (Xk.of (Ex.refl s) K) hL ?_ ?_ ?_ ?_
 ·intro i o hi ho e he hb;have hlt:i<ops.size:=(Array.getElem?_eq_some_iff.1 ho).1;rw [hgf i hlt,hg i hlt] at hi;have:=h2 i (by simpa using hlt);rw [Bool.and_eq_true,hi,ho] at this;have h3:=this.2;simp only [Bool.not_true,Bool.false_or,Bool.and_eq_true,List.all_eq_true] at h3;have h4:=h3.2 e he;simp only [hb,Bool.not_true,Bool.false_or,Bool.and_eq_true] at h4;have h5:e.on<ops.size:=Nat.le_of_ble_eq_true h4.2;rw [hgf _ h5,hg _ h5];exact h4.1
 ·intro i hi hmi;rw [hg i hi];cases hcF:F.contains i
  ·rfl
  ·have:=hFm i (by simpa using hcF);omega
 ·intro i hi hl _ d q hd hqi;rw [hg i (by omega)] at hl;obtain ⟨o,d',q',ho,hd',hq',hlk⟩:=hfl.at i (by simpa using hl);rw [ho,Option.bind_some,hd'] at hd;rw [hq'] at hqi;cases hd;cases hqi;exact hL.get _ hlk
 ·intro i hi;have:=hFm i hi;rw [hg i (by omega)];simpa using hi
def zm7 (P:Program) (ops:Array Oper) (qs0:List Pd) (L:Lst) (F:List Nat) (K:Nat) (ch:List Nat):Nat→List Oper→List Pd→Prop
 | _,_,[]=>True
 | _,[],_::_=>False
 | i,o::l,q::qs=>(F.contains i=false→TX P ops o K (zh3 ops qs0 o.after.toList L) q∧(ch.contains i=false→T P ops o (zh3 ops qs0 o.after.toList L) q))∧(ch.contains i=false→∀b,q.own b→¬ K≤b)∧zm7 P ops qs0 L F K ch (i+1) l qs
theorem zm7.at {P:Program} {ops:Array Oper} {qs0:List Pd} {L:Lst} {F:List Nat} {K:Nat} {ch:List Nat}:∀(k:Nat) (l:List Oper) (qs:List Pd),zm7 P ops qs0 L F K ch k l qs→∀(i:Nat) (o:Oper) (q:Pd),l[i]?=some o→qs[i]?=some q →
  (F.contains (k+i)=false→TX P ops o K (zh3 ops qs0 o.after.toList L) q∧(ch.contains (k+i)=false→T P ops o (zh3 ops qs0 o.after.toList L) q))∧(ch.contains (k+i)=false→∀b,q.own b→¬ K≤b)
 | _,_,[],_,i,o,q,_,hq=>by simp at hq
 | _,[],_::_,h,_,_,_,_,_=>h.elim
 | k,o'::l,q'::qs,h,i,o,q,ho,hq=>by
  cases i with
  | zero=>simp only [List.getElem?_cons_zero,Option.some.injEq] at ho hq;subst ho;subst hq;exact ⟨h.1,h.2.1⟩
  | succ i=>
   simp only [List.getElem?_cons_succ] at ho hq;have:=zm7.at (k+1) l qs h.2.2 i o q ho hq
   rwa [show k+1+i=k+(i+1) by omega] at this
section
variable {P : Program} {ops : Array Oper} {qs0 : List Pd} {L : Lst} {F : List Nat} {K : Nat} {ch : List Nat} {i : Nat} {o : Oper} {l : List Oper} {q : Pd} {qs : List Pd}
theorem zm7.t (h:T P ops o (zh3 ops qs0 o.after.toList L) q) (hs:∀b,q.own b→¬ K≤b) (h2:zm7 P ops qs0 L F K ch (i+1) l qs):zm7 P ops qs0 L F K ch i (o::l) (q::qs):=⟨fun _=>⟨h.x K,fun _=>h⟩,fun _=>hs,h2⟩
theorem zm7.c (h:T P ops o (zh3 ops qs0 o.after.toList L) q) (hc:ch.contains i=true) (h2:zm7 P ops qs0 L F K ch (i+1) l qs):zm7 P ops qs0 L F K ch i (o::l) (q::qs):=⟨fun _=>⟨h.x K,fun _=>h⟩,fun h'=>(by rw [hc] at h';cases h'),h2⟩
theorem zm7.skip (h:F.contains i=true) (hs:∀b,q.own b→¬ K≤b) (h2:zm7 P ops qs0 L F K ch (i+1) l qs):zm7 P ops qs0 L F K ch i (o::l) (q::qs):=⟨fun h'=>(by rw [h] at h';cases h'),fun _=>hs,h2⟩
theorem zm7.nil:zm7 P ops qs0 L F K ch i l []:=by cases l <;> trivial
end
theorem rc_go {P:Program} {l:List Oper} {Q:Exit→Act→World→Prop} {M:Nat→Prop} {n:Nat} {s0:St} {a:Act} {s:St} {L:Lst} {f:Nat} {listed:Array Bool} (m:Nat) (qs:List Pd) (F:List Nat) (K:Nat) (ch:List Nat) (hK:s0.w.heap.size≤K) (hL:Has M n s0 a s L) (hLow:Kp (fun b=>K≤b) L L) (hch:okCh l.toArray m ch=true)
  (hok:zd0 l.toArray m n (L.map (·.1)) F=true) (hst:zl6 l.toArray listed m F=true) (hc:((List.range l.toArray.size).filter (fun i=>!listed.getD i true)).length=f) (hfl:FlOk l.toArray qs L F) (hq:Nat.beq qs.length m=true) (hm:Nat.ble m l.length=true)
  (hT:zm7 P l.toArray qs L F K ch 0 l qs)
  (hB:∀a' s',Xk K s s'→Has M n s0 a' s' (zmp l.toArray (mask ch qs) m L)→wpList P l.toArray Q (l.drop m) a' s'.w):wpAny P .any l.toArray Q f listed a s.w:=by
 refine rc_end m qs F K ch hK hLow hch hL hok hst hc hfl (Nat.eq_of_beq_eq_true hq) (by simpa using Nat.le_of_ble_eq_true hm) (fun i o q _ ho hq hF=>?_) (fun i q hi hq=>?_) fun a' s' e h=>?_
 ·have:=(zm7.at 0 l qs hT i o q (by simpa using ho) hq).1;rw [Nat.zero_add] at this;exact this hF
 ·have hil:i<l.length:=by have:=Nat.le_of_ble_eq_true hm;omega
  have:=(zm7.at 0 l qs hT i (l[i]) q (List.getElem?_eq_getElem hil) hq).2;rw [Nat.zero_add] at this;exact this
 ·have:=hB a' s' e h;rw [← wpOps_eq_wpList (l.drop m) m (fun j=>by simp)] at this;simpa using this
end
theorem st_makev {P:Program} {ops:Array Oper} {o:Oper} {L:Lst} {Q:Exit→Act→World→Prop} {rest:List Oper} {M:Nat→Prop} {n:Nat} {s0:St} {a:Act} {s:St} {α:Type} (E:En α) {z:α} {t te:TypeId} {l c:Operand} {kl kc:IntKind} {m:Int} (d:Nat) (hL:Has M n s0 a s L) (hl:Opn L l (Pd.rep (En.int kl) m)) (hc:Opn L c (Pd.rep (En.int kc) m)) (hm:0≤m∧m≤16777216)
  (ht:P.underlying t=some (.slice te)) (hE:Ty P te E) (hz:TyZ P te E z) (ho:o.op = .makeSlice t l c) (hg:o.guard=none) (hd:o.dst=some d) (hn:Nat.blt d n=true)
  (k:∀a' s' g,s.w.heap.size≤g→Has M n s0 a' s' ((d,Pd.row E s0.w.heap.size te (some g) (List.replicate m.toNat z))::L)→wpList P ops Q rest a' s'.w):wpList P ops Q (o::rest) a s.w:=by
 obtain ⟨k0,rfl⟩:∃k0:Nat,m=k0:=⟨m.toNat,by omega⟩;rw [Int.toNat_natCast] at k;exact st_make E d hL hl hc (by omega) ht hE hz ho hg hd hn k
end Go.Proofs.YtjdaaiodniicoaaGreatDoor.V
namespace Go.Proofs.YtjdaaiodniicoaaGreatDoor.V
open Go
set_option linter.unusedVariables false
section
variable {u : Bool} [Dr u]
def strB (l:List Int):Str:=l.map fun n=>UInt8.ofNat n.toNat
theorem els_u8 {k:IntKind} {w:World} {S:Nat→Prop}:∀{css:List (List Value)} {xs:List Int},Els (En.int k) w S css xs→css.flatten=xs.map (Value.int k)
 | [],[],_=>rfl
 | [],_::_,h=>by cases h.1
 | _::_,[],h=>by cases h.1
 | cs::css,x::xs,h=>by
  have h1:=h.2 0 cs x rfl rfl;have ih:=els_u8 (css:=css) (xs:=xs) ⟨by simpa using h.1,fun i c y a b=>h.2 (i+1) c y (by simpa using a) (by simpa using b)⟩;rw [List.flatten_cons,ih,h1.1];rfl
section
variable {P : Program} {ops : Array Oper} {o : Oper} {L : Lst}
theorem t_bstr {xs:List Int} {y:Operand} {t e u:TypeId} (hy:Opn L y (Pd.rep (En.slice (En.int .u8)) xs)) (ht:P.underlying t=some (.slice e)) (he:P.underlying e=some (.int .u8)) (hu:P.underlying u=some .string) (ho:o.op = .convert t u y) (hg:o.guard=none):
  T P ops o L (Pd.rep En.str (strB xs)):=
 T.pure hg fun M n s0 ac s hL=>by
  have hv:=zbx.1 (hy M n s0 ac s hL);obtain ⟨v,hv0⟩:∃v,ac.eval y=v:=⟨_,rfl⟩;rw [hv0] at hv;obtain ⟨ad,cap,rfl,hc1,hc2,hc3,hc4⟩:=hv
  by_cases hne:xs=[]
  ·subst hne;refine ⟨.string ⟨#[]⟩, ?_,zif.2 ⟨rfl,by simp [strB]⟩⟩;unfold execOp;rw [ho];simp only [hv0,Sem.run_bind,run_convert_bytes_string s.w t u e _ _ _ ht he hu];cases ad with
   | none=>simp [Conv.bytesToString,ByteArray.empty,ByteArray.emptyWithCapacity];rfl
   | some a=>simp [Conv.bytesToString,loadCells,loadCellsFrom,ByteArray.empty,ByteArray.emptyWithCapacity];rfl
  ·obtain ⟨b,off,css,rfl,_,hEl,hcell⟩:=hc4 hne;have hf:=els_u8 hEl;refine ⟨.string (strOfNums xs), ?_,zif.2 ⟨rfl,by simp [strB];simp only [lim] at hc3;omega⟩⟩;unfold execOp;rw [ho];have:=run_convert_bytes_arg (P:=P) s.w t e ht he b off xs.length cap xs rfl (fun i hi=>hcell i _ (by rw [hf,List.getElem?_map,List.getElem?_eq_getElem hi];simp [List.getD,List.getElem?_eq_getElem hi])) u hu;simp only [hv0,Sem.run_bind,this,Result.andThen_ok,Sem.run_pure]
theorem zq4 {x y:Operand} {a b:Str} (hx:Opn L x (Pd.rep En.str a)) (hy:Opn L y (Pd.rep En.str b)) (h:a.length+b.length≤9223372036854775807) {t u:TypeId} (ho:o.op = .binOp .add t x y u) (hg:o.guard=none):
  T P ops o L (Pd.rep En.str (a++b)):=
 T.pure hg fun M n s0 ac s hL=>by
  obtain ⟨h1,_⟩:=zif.1 (hx M n s0 ac s hL);obtain ⟨h2,_⟩:=zif.1 (hy M n s0 ac s hL);refine ⟨.string ⟨(a++b).toArray⟩, ?_,zif.2 ⟨rfl,by simp;omega⟩⟩;have e:(⟨a.toArray⟩:ByteArray)++⟨b.toArray⟩=⟨(a++b).toArray⟩:=by simp [ByteArray.mk_append_mk]
  have hs:¬ ((((⟨a.toArray⟩:ByteArray).size+(⟨b.toArray⟩:ByteArray).size:Nat):Int) > IntKind.i64.max):=by
   have e1:(⟨a.toArray⟩:ByteArray).size=a.length:=by simp [ByteArray.size]
   have e2:(⟨b.toArray⟩:ByteArray).size=b.length:=by simp [ByteArray.size]
   rw [e1,e2];have:IntKind.i64.max=9223372036854775807:=by decide
   omega
  have hb:(binOp .add t (.string ⟨a.toArray⟩) (.string ⟨b.toArray⟩):Sem Value)=pure (.string ⟨(a++b).toArray⟩):=by
   show Op.stringOp .add _ _=_;unfold Op.stringOp;simp only [if_neg hs,e]
  unfold execOp;rw [ho];simp [eqGuard,h1,h2,hb]
end
end
end Go.Proofs.YtjdaaiodniicoaaGreatDoor.V
namespace Go.Proofs.YtjdaaiodniicoaaGreatDoor.V
open Go Go.MapKept
set_option linter.unusedVariables false
section
variable {u : Bool} [Dr u]
section
variable {κ ν : Type} {K : En κ} {kv : κ → Value} {E : En ν}
theorem MpR.same {w w':World} {S S':Nat→Prop} {es clock} {xs:List (κ × ν)} (hS:∀b,S b→S' b) (h:Same S w w') (hM:MpR K kv E w S es clock xs):MpR K kv E w' S' es clock xs:=
 ⟨hM.st,hM.len,fun i e p a b=>let ⟨h1,⟨cs,h2⟩,cs',h3,h4⟩:=hM.ent i e p a b;⟨h1,⟨cs,K.mono hS (K.move h h2)⟩,cs',h3,E.mono hS (E.move h h4)⟩⟩
def FmV (K:En κ) (kv:κ→Value) (E:En ν) (w:World) (S:Nat→Prop) (v:Value) (xs:List (κ × ν)):Prop:=
 (v = .map none∧xs=[])∨∃g es clock ys,v = .map (some g)∧S g∧w.heap[g]?=some (.map es clock)∧MpR K kv E w S es clock ys∧ys.Perm xs
theorem FmV.one {w S v} {xs:List (κ × ν)} (h:FmV K kv E w S v xs):v.oneCell'=true:=by rcases h with ⟨rfl,_⟩ | ⟨_,_,_,_,rfl,_⟩ <;> rfl
def En.fmap (K:En κ) (kv:κ→Value) (E:En ν):En (List (κ × ν)) where
 sz:=1
 agg:=false
 R:=fun w S cs xs=>∃v,cs=[v]∧FmV K kv E w S v xs
 sc:=fun _=>rfl
 pos:=Nat.one_pos
 len:=by rintro _ _ _ _ ⟨v,rfl,_⟩;rfl
 one:=by rintro _ _ _ _ ⟨v,rfl,h⟩ u hu;simp at hu;subst hu;exact h.one
 mono:=by
  rintro w S S' cs xs h ⟨v,rfl,h1⟩
  refine ⟨v,rfl,h1.imp id ?_⟩
  rintro ⟨g,es,clock,ys,e,hg,hb,hM,hp⟩
  exact ⟨g,es,clock,ys,e,h g hg,hb,hM.same h (fun _ _=>rfl),hp⟩
 move:=by
  rintro w w' S cs xs h ⟨v,rfl,h1⟩
  refine ⟨v,rfl,h1.imp id ?_⟩
  rintro ⟨g,es,clock,ys,e,hg,hb,hM,hp⟩
  exact ⟨g,es,clock,ys,e,hg,(h g hg).trans hb,hM.same (fun _ h=>h) h,hp⟩
theorem zrh {xs:List (κ × ν)} {s:St} {v:Value}:(Pd.rep (En.fmap K kv E) xs).p s v↔FmV K kv E s.w (zgh s) v xs:=
 ⟨fun ⟨_,hv,u,hc,h⟩=>by subst hc;subst hv;exact h,fun h=>⟨[v],rfl,v,rfl,h⟩⟩
theorem Has.freezem {og:Option Nat} {xs:List (κ × ν)} {M:Nat→Prop} {n:Nat} {s0:St} {a:Act} {s:St} {L L':Lst} (h:Has M n s0 a s L) (t:Nat) (hl:lk L t=some (Pd.map K kv E s0.w.heap.size og xs))
  (hk:Kp (fun b=>og=some b) L L'):∃s',s'.w=s.w∧Has M n s0 a s' ((t,Pd.rep (En.fmap K kv E) xs)::L'):=by
 have ho:=h.get t hl;have hlt:=zle ho;obtain ⟨g,hog,hv,hN,hX,es,clock,ys,hb,hM,hp⟩:=ho;refine ⟨⟨s.w,fun b=>s.X b∧og≠some b,fun b hb=>s.lt b hb.1⟩,rfl, ?_⟩;have e:Ef (fun b=>og=some b) s ⟨s.w,fun b=>s.X b∧og≠some b,fun b hb=>s.lt b hb.1⟩:=
  ⟨⟨DR.eq rfl,rfl,rfl,rfl,Nat.le_refl _,fun _ _ _=>rfl,fun b hb=>by rw [hog] at hb;cases hb;exact hX,fun b hb=>.inl hb.1⟩,fun b hb hn=>⟨hb,hn⟩⟩
 refine (h.ef e (fun b hb=>(hlt b hb).1) hk).cons t (zrh.2 (.inr ⟨g,es,clock,ys,hv,⟨s.lt _ hX,fun hx=>hx.2 hog⟩,hb,hM.go e.mv,hp⟩))
end
section
variable {κ ν : Type} [DecidableEq κ] {K : En κ} {kv : κ → Value} {E : En ν} {P : Program} {ops : Array Oper} {o : Oper} {L : Lst} {t kt et : TypeId}
theorem run_lookf {xs:List (κ × ν)} {k:κ} {z:ν} {s:St} {v kvl:Value} (hx:(Pd.rep (En.fmap K kv E) xs).p s v) (hy:(Pd.rep K k).p s kvl) (ht:P.underlying t=some (.map kt et)) (hK:KeyT P kt K kv) (hz:TyV P et E z) (ok:Bool):
  ∃u,(Instr.lookup t v kvl ok).run P s.w = .ok (if ok then .tuple #[u,.bool (zha xs k)] else u) s.w∧(Pd.rep E (zd4 xs k z)).p s u:=by
 obtain ⟨cs,hkv,hkR⟩:=hy;rw [hK.val hkR] at hkv;obtain ⟨i,zc,hz1,hz2,hz3⟩:=hz.zero;have hzr:(zeroValue et).run P s.w = .ok (E.val zc) s.w:=by simp [zeroValue,typeInfo,hz1,hz2]
 rcases zrh.1 hx with ⟨rfl,rfl⟩ | ⟨g,es,clock,ys,rfl,hg,hgb,hM,hp⟩
 ·have hf:Sem.run P (Instr.findKey kt (kv k) []) s.w = .ok none s.w:=by
   rcases hK.find s.w k [] (by simp) with ⟨h1,_⟩ | ⟨j,e,_,h2,_⟩
   ·exact h1
   ·simp at h2
  refine ⟨E.val zc, ?_,zc,rfl,by rw [zhz (by simp)];exact hz3 _ _⟩;rw [hkv];simp [Instr.lookup,run_underlying ht,hK.check,hf,hzr,Result.andThen,zha]
 ·rcases hM.look hK k with ⟨h1,h2⟩ | ⟨j,e,u,cs',h1,h2,h3,h4,h5⟩
  ·rw [zhy hp] at h2;refine ⟨E.val zc, ?_,zc,rfl,by rw [mget_no h2];exact hz3 _ _⟩;rw [hkv,h2];simp [Instr.lookup,run_underlying ht,Go.MapKept.run_getObj_map hgb,hK.check,h1,hzr,Result.andThen]
  ·rw [zhy hp] at h2;refine ⟨e.val, ?_,cs',h4,by rw [← zou (hM.kn hK) hp,h3];exact h5⟩;rw [hkv,h2];simp [Instr.lookup,run_underlying ht,Go.MapKept.run_getObj_map hgb,hK.check,h1,Result.andThen]
theorem t_mgetfok {xs:List (κ × ν)} {k:κ} {z:ν} {x y:Operand} (hx:Opn L x (Pd.rep (En.fmap K kv E) xs)) (hy:Opn L y (Pd.rep K k)) (ht:P.underlying t=some (.map kt et)) (hK:KeyT P kt K kv) (hz:TyV P et E z)
  (ho:o.op = .lookup t x y true) (hg:o.guard=none):T P ops o L (Pd.tup2 (Pd.rep E (zd4 xs k z)) (Pd.rep En.bool (zha xs k))):=
 T.pure hg fun M n s0 a s hL=>by
  obtain ⟨u,h1,h2⟩:=run_lookf (P:=P) (hx M n s0 a s hL) (hy M n s0 a s hL) ht hK hz true;refine ⟨.tuple #[u,.bool (zha xs k)], ?_,u,_,rfl,h2,zch.2 rfl⟩;unfold execOp;rw [ho];simp [h1,Result.andThen]
end
end
end Go.Proofs.YtjdaaiodniicoaaGreatDoor.V
namespace Go.Proofs.YtjdaaiodniicoaaGreatDoor.V
open Go Go.MapKept
set_option linter.unusedVariables false
section
variable {u : Bool} [Dr u]
theorem y_from {P:Program} {o:Oper} {L:Lst} {α:Type} {E:En α} {xs:List α} {k:IntKind} {i:Int} {y z:Operand} {t te:TypeId} (hy:Opn L y (Pd.rep (En.slice E) xs)) (hz:Opn L z (Pd.rep (En.int k) i)) (hi:0≤i∧i≤(xs.length:Int)) (ht:P.underlying t=some (.slice te)) (hE:Ty P te E)
  (ho:o.op = .slice t y (some z) none none) (hg:o.guard=none):TY P o L (Pd.rep (En.slice E) (xs.drop i.toNat)):=
 ⟨hg,fun M n s0 ac s hL=>by
  obtain ⟨ad,cap,hv,h1,h2,h3,h4⟩:=zbx.1 (hy M n s0 ac s hL);have hiv:=(zbf.1 (hz M n s0 ac s hL)).1;refine ⟨.slice (if cap=i.toNat then ad else ad.map (·.add (i.toNat*E.sz))) (xs.length-i.toNat) (cap-i.toNat),fun w=>?_,zbx.2 ⟨_,_,by rw [List.length_drop],by rw [List.length_drop];omega,fun hn=>?_,by rw [List.length_drop];omega,fun hne=>?_⟩⟩
  ·unfold execOp;rw [ho];simp only [hv,hiv,Option.map_some,Option.map_none,Instr.sliceAt,Sem.run_bind,run_underlying ht,Result.andThen_ok,Instr.slice,Instr.sliceBounds,Instr.sliceBound,asIntOf,Sem.run_pure];rw [if_pos (by omega)];simp [zbw hE]
  ·split at hn
   ·omega
   ·cases ad with
    | none=>have:=h2 rfl;omega
    | some a=>cases hn
  ·have hlt:i.toNat<xs.length:=by
    rcases Nat.lt_or_ge i.toNat xs.length with h | h
    ·exact h
    ·exact absurd (List.drop_of_length_le h) hne
   obtain ⟨b,off,css,e1,hb,hEl,hc⟩:=h4 (by intro h;rw [h] at hlt;simp at hlt);refine ⟨b,off+i.toNat*E.sz,css.drop i.toNat, ?_,hb,zse hEl _, ?_⟩
   ·rw [if_neg (by omega),e1];simp [zfr]
   ·intro j u hu;rw [zo5 hEl.lens _ (by rw [hEl.1];omega),List.getElem?_drop] at hu;rw [Nat.add_assoc];exact hc _ u hu⟩
end
section
variable {u : Bool} [Dr u]
theorem t_gidxb {P:Program} {ops:Array Oper} {o:Oper} {L:Lst} {g:Nat} {xs:List Bool} {b:Bool} {k:IntKind} {i:Int} {y:Operand} {t te:TypeId} {n:Nat} (hm:(g,xs.map Value.bool)∈gtab) (hn:xs.length=n) (hy:Opn L y (Pd.rep (En.int k) i)) (he:at? xs i=some b)
  (ht:P.underlying t=some (.array n te)) (hi:(P.info? te).map (·.size)=some 1) (ho:o.op = .indexAddr t (.global g) y) (hg:o.guard=none):T P ops o L (Pd.ptr En.bool b):=
 T.pure hg fun M n0 s0 ac s hL=>by
  have hi':=(zbf.1 (hy M n0 s0 ac s hL)).1;obtain ⟨hX,tt,fr,hb⟩:=hL.gls.1 _ hm;simp only at hX hb;unfold at? at he;split at he
  case isFalse=>cases he
  rename_i h0
  have hlt:i.toNat<xs.length:=(List.getElem?_eq_some_iff.1 he).1;obtain ⟨inf,h1,h2⟩:∃i,P.info? te=some i∧i.size=1:=by
   cases h:P.info? te with
   | none=>rw [h] at hi;cases hi
   | some i=>rw [h] at hi;exact ⟨i,rfl,by simpa using hi⟩
  have hsz:∀w:World,(sizeOf te).run P w = .ok 1 w:=fun w=>by simp [sizeOf,typeInfo,h1,h2]
  refine ⟨.pointer (some ⟨g,i.toNat,none⟩), ?_,g,i.toNat,[.bool b],rfl,⟨(Array.getElem?_eq_some_iff.1 hb).1,hX⟩, ?_,rfl⟩
  ·unfold execOp;rw [ho];have hgv:ac.eval (.global g) = .pointer (some ⟨g,0,none⟩):=rfl;simp only [hgv,hi',Instr.indexAt,asIntOf,Sem.run_bind,Sem.run_pure,Result.andThen_ok,run_underlying ht,Instr.sureAddr];rw [if_pos (by omega)];simp [hsz,zfr]
  ·intro j u hj;cases j with
   | zero=>
    simp at hj;subst hj;rw [Nat.add_zero,cell_of_row s.w g _ _ tt fr hb];simp [List.getElem?_map,he]
   | succ j=>simp at hj
def En.mref:En (Option Nat) where
 sz:=1
 agg:=false
 R:=fun _ _ cs x=>cs=[.map x]
 sc:=fun _=>rfl
 pos:=Nat.one_pos
 len:=by rintro _ _ _ _ rfl;rfl
 one:=by rintro _ _ _ _ rfl u hu;simp at hu;subst hu;rfl
 mono:=fun _ h=>h
 move:=fun _ h=>h
theorem zrg {x:Option Nat} {s:St} {v:Value}:(Pd.rep En.mref x).p s v↔v = .map x:=
 ⟨fun ⟨_,hv,hc⟩=>by cases hc;exact hv,fun hv=>⟨[.map x],hv,rfl⟩⟩
section
variable {κ ν : Type} {K : En κ} {kv : κ → Value} {E : En ν}
def Mc (K:En κ) (kv:κ→Value) (E:En ν) (g:Nat) (xs:List (κ × ν)) (s:St):Prop:=s.X g∧∃es clock ys,s.w.heap[g]?=some (.map es clock)∧MpR K kv E s.w (zgh s) es clock ys∧ys.Perm xs
theorem Mc.mv {g:Nat} {xs:List (κ × ν)} {T:Nat→Prop} {s s':St} (h:Mv T s s') (hb:¬ T g∧(s.X g→s'.X g)) (hp:Mc K kv E g xs s):Mc K kv E g xs s':=by
 obtain ⟨hX,es,clock,ys,hg,hM,hpm⟩:=hp;refine ⟨hb.2 hX,es,clock,ys, ?_,hM.go h,hpm⟩;rw [h.blk g (Array.getElem?_eq_some_iff.1 hg).1 hb.1];exact hg
def Pd.mapc (K:En κ) (kv:κ→Value) (E:En ν) (g:Nat) (xs:List (κ × ν)):Pd:=⟨fun s _=>Mc K kv E g xs s,fun b=>some g=some b,fun h hb hp=>hp.mv h (hb g rfl)⟩
theorem Has.mapc {M:Nat→Prop} {n:Nat} {s0:St} {a:Act} {s:St} {L:Lst} {N g:Nat} {xs:List (κ × ν)} (h:Has M n s0 a s L) (t m:Nat) (hl:lk L t=some (Pd.map K kv E N (some g) xs)):Has M n s0 a s ((t,Pd.rep En.mref (some g))::(m,Pd.mapc K kv E g xs)::L):=by
 obtain ⟨g',e,hv,hN,hX,es,clock,ys,hg,hM,hp⟩:=h.get t hl;cases e;exact (h.cons (q:=Pd.mapc K kv E g xs) m ⟨hX,es,clock,ys,hg,hM,hp⟩).cons t (zrg.2 hv)
theorem Mc.map {g N:Nat} {xs:List (κ × ν)} {s:St} (h:Mc K kv E g xs s) (hN:N≤g):(Pd.map K kv E N (some g) xs).p s (.map (some g)):=by
 obtain ⟨hX,es,clock,ys,hg,hM,hp⟩:=h;exact ⟨g,rfl,rfl,hN,hX,es,clock,ys,hg,hM,hp⟩
end
section
variable {κ ν : Type} [DecidableEq κ] {K : En κ} {kv : κ → Value} {E : En ν} {P : Program} {ops : Array Oper} {o : Oper} {L L' : Lst} {t kt et : TypeId} {g : Nat} {Q : Exit → Act → World → Prop} {rest : List Oper} {M : Nat → Prop} {n : Nat} {s0 : St} {a : Act} {s : St}
theorem t_mgetcok {m:Nat} {xs:List (κ × ν)} {k:κ} {z:ν} {x y:Operand} (hm:lk L m=some (Pd.mapc K kv E g xs)) (hx:Opn L x (Pd.rep En.mref (some g))) (hy:Opn L y (Pd.rep K k)) (ht:P.underlying t=some (.map kt et)) (hK:KeyT P kt K kv) (hz:TyV P et E z)
  (ho:o.op = .lookup t x y true) (hg:o.guard=none):T P ops o L (Pd.tup2 (Pd.rep E (zd4 xs k z)) (Pd.rep En.bool (zha xs k))):=
 T.pure hg fun M n s0 a s hL=>by
  obtain ⟨hX,es,clock,ys,hgb,hM,hp⟩:=hL.get m hm;have hv:=zrg.1 (hx M n s0 a s hL);obtain ⟨cs,hkv,hkR⟩:=hy M n s0 a s hL;rw [hK.val hkR] at hkv;obtain ⟨i,zc,hz1,hz2,hz3⟩:=hz.zero;have hzr:(zeroValue et).run P s.w = .ok (E.val zc) s.w:=by simp [zeroValue,typeInfo,hz1,hz2]
  rcases hM.look hK k with ⟨h1,h2⟩ | ⟨j,e,v,cs',h1,h2,h3,h4,h5⟩
  ·rw [zhy hp] at h2;refine ⟨.tuple #[E.val zc,.bool (zha xs k)], ?_,_,_,rfl,⟨zc,rfl,by rw [mget_no h2];exact hz3 _ _⟩,zch.2 rfl⟩;unfold execOp;rw [ho];simp only [hv,hkv];simp [Instr.lookup,run_underlying ht,Go.MapKept.run_getObj_map hgb,hK.check,h1,hzr,h2,Result.andThen]
  ·rw [zhy hp] at h2;refine ⟨.tuple #[e.val,.bool (zha xs k)], ?_,_,_,rfl,⟨cs',h4,by rw [← zou (hM.kn hK) hp,h3];exact h5⟩,zch.2 rfl⟩;unfold execOp;rw [ho];simp only [hv,hkv];simp [Instr.lookup,run_underlying ht,Go.MapKept.run_getObj_map hgb,hK.check,h1,h2,Result.andThen]
theorem zq7 {m:Nat} {xs:List (κ × ν)} {k:κ} {v1:ν} {x y z:Operand} (hL:Has M n s0 a s L) (hm:lk L m=some (Pd.mapc K kv E g xs)) (hMg:M g∨s0.w.heap.size≤g) (hx:Opn L x (Pd.rep En.mref (some g))) (hy:Opn L y (Pd.rep K k)) (hz:Opn L z (Pd.rep E v1))
  (ht:P.underlying t=some (.map kt et)) (hK:KeyT P kt K kv) (ho:o.op = .mapUpdate t x y z∨o.op = .insert t x y z) (hg:o.guard=none) (hd:o.dst=none)
  (hk:Kp (fun b=>some g=some b) L L') (kk:∀s',Has M n s0 a s' ((m,Pd.mapc K kv E g (zf4 xs k v1))::L')→wpList P ops Q rest a s'.w):wpList P ops Q (o::rest) a s.w:=by
 have hxv:(Pd.map K kv E 0 (some g) xs).p s (.map (some g)):=(hL.get m hm:Mc K kv E g xs s).map (Nat.zero_le _);have hv:=zrg.1 (hx M n s0 a s hL);obtain ⟨s',hr,hE,hXX,hp⟩:=run_mput (P:=P) hxv (hy M n s0 a s hL) (hz M n s0 a s hL) ht hK;refine wpList_plain hg fun K' hK'=>?_;unfold Oper.wp execOp;have h2:wpList P ops Q rest a s'.w:=by
  refine kk s' ((hL.efg hE (fun b hb=>by cases hb;exact hMg) (fun b _ hb=>hXX b hb) hk).cons m ?_);obtain ⟨g',e,_,_,hX,es,clock,ys,hg,hM,hp⟩:=hp;cases e;exact ⟨hX,es,clock,ys,hg,hM,hp⟩
 rcases ho with ho | ho
 all_goals
  simp only [ho,hv,Sem.run_bind,hr,Result.andThen_ok,Sem.run_pure];refine hK' _ _ ?_;simp only [hd];exact h2
end
structure Fc {κ ν ι:Type} (P:Program) (f:FuncId) (K:En κ) (kv:κ→Value) (E:En ν) (g:Nat) (xs:List (κ × ν)) (qs:List Pd) (Q:ι→Prop) (q:ι→Pd) (ys:ι→List (κ × ν)):Prop where
 call:∀(args:Array Value) (w:World),(callFunc f args).run P w = .ok (.enter f args) w
 run:∀s vs,Gl s→Mc K kv E g xs s→Vals s qs vs→Calls P f vs.toArray s.w fun e w'=>∃v s' i,e = .returned v∧s'.w=w'∧Fr (fun b=>some g=some b) s s'∧Q i∧(q i).p s' v∧Mc K kv E g (ys i) s'
section
variable {κ ν ι : Type} {K : En κ} {kv : κ → Value} {E : En ν} {Qi : ι → Prop} {q : ι → Pd} {ys : ι → List (κ × ν)}
def Rc (K:En κ) (kv:κ→Value) (E:En ν) (g:Nat) (Qi:ι→Prop) (q:ι→Pd) (ys:ι→List (κ × ν)):St→St→Value→Prop:=fun _ s' v=>∃i,Qi i∧(q i).p s' v∧Mc K kv E g (ys i) s'
theorem fc_of {P:Program} {f:FuncId} {fn:Func} {cd:Code} {n g:Nat} {qs:List Pd} {xs:List (κ × ν)} (hf:P.funcs[f]?=some fn) (hb:fn.body=some cd) (hn:fn.ntmps=n) (hm:(fn.name == "runtime.NumGoroutine")=false) (hq:qs.length≤n)
  (h:∀s0 a,Has (fun b=>some g=some b) n s0 a s0 ((999902,Pd.mapc K kv E g xs)::num 0 qs)→cd.wp P (bodyPost P fn (Pst (fun b=>some g=some b) (Rc K kv E g Qi q ys) s0)) a s0.w):Fc P f K kv E g xs qs Qi q ys where
 call:=fun args w=>by
  have hm':¬ fn.name = "runtime.NumGoroutine":=by simpa using hm
  simp [callFunc,hf,hm',hb]
 run:=fun s vs hg hgh hv=>by
  have hl:=zq1 hv;have h0:Has (fun b=>some g=some b) n s { tmps:=vs.toArray++Array.replicate (fn.ntmps-vs.toArray.size) undef,defers:=[] } s (num 0 qs):=by
   refine ⟨?_,rfl,Fr.refl (fun b hb=>by cases hb;exact hgh.1),hg,fun t q ht=>?_⟩
   ·simp [hn,hl];omega
   ·obtain ⟨v,_,h2,h3⟩:=zru hv 0 t q ht;have:(({ tmps:=vs.toArray++Array.replicate (fn.ntmps-vs.toArray.size) undef,defers:=[] }:Act).eval (.tmp t))=v:=by
     simp only [Nat.sub_zero] at h2;have hlt:t<vs.length:=(List.getElem?_eq_some_iff.1 h2).1;simp only [Act.eval];rw [Array.getD_eq_getD_getElem?,Array.getElem?_append_left (by simpa using hlt)];simp [h2]
    rw [this];exact h3
  refine (calls_of_wp hf hb (h s _ (h0.cons 999902 hgh))).mono ?_;rintro e w' ⟨v,s',he,hw,hfr,i,h1,h2,h3⟩;exact ⟨v,s',i,he,hw,hfr,h1,h2,h3⟩
section
variable {P : Program} {ops : Array Oper} {o : Oper} {L L' : Lst} {Q : Exit → Act → World → Prop} {rest : List Oper} {M : Nat → Prop} {n : Nat} {s0 : St} {a : Act} {s : St} {g : Nat}
theorem retc {fn:Func} {t:Nat} (i:ι) (hQ:Qi i) (hr:fn.results = #[.tmp t]) (hL:Has M n s0 a s L) (hl:lk L t=some (q i)) (hm:lk L 999902=some (Pd.mapc K kv E g (ys i))):bodyPost P fn (Pst M (Rc K kv E g Qi q ys) s0) .ret a s.w:=
 ret1 hr hL ⟨i,hQ,hL.get t hl,hL.get 999902 hm⟩
theorem zib {f:FuncId} {zs:List Operand} {qs:List Pd} {ats:Array TypeId} {xs:List (κ × ν)} (d m:Nat) (hL:Has M n s0 a s L) (hf:Fc P f K kv E g xs qs Qi q ys) (hm:lk L m=some (Pd.mapc K kv E g xs)) (hMg:M g∨s0.w.heap.size≤g) (hx:zp5 L zs qs)
  (ho:o.op = .call { callee:=.value (.func f),args:=zs.toArray,argTypes:=ats }) (hg:o.guard=none) (hd:o.dst=some d) (hn:Nat.blt d n=true) (hk:Kp (fun b=>some g=some b) L L')
  (k:∀a' s' i,Qi i→Has M n s0 a' s' ((d,q i)::(m,Pd.mapc K kv E g (ys i))::L')→wpList P ops Q rest a' s'.w):wpList P ops Q (o::rest) a s.w:=by
 have hcall:=hf.call (zs.map a.eval).toArray s.w;have e:(execOp a.eval o).run P s.w = .ok (.enter f (zs.map a.eval).toArray) s.w:=by
  have e:execOp a.eval o=callFunc f (#[]++(zs.toArray).map a.eval ++ #[]):=by unfold execOp;rw [ho];rfl
  rw [e];simpa using hcall
 refine wpList_plain hg fun K hK=>?_;unfold Oper.wp;rw [e,Oper.upon_enter];refine (hf.run s _ hL.gls (hL.get m hm) (hx.vals hL)).mono fun en w' ⟨v,s',i,he,hw,hfr,hQ,hp,hmc⟩=>?_;subst he;subst hw;refine hK _ _ ?_;rw [hd];have hE:Ef (fun b=>some g=some b) s s':=⟨hfr.mv,fun b hb _=>hfr.keep b hb⟩;exact k _ s' i hQ (((hL.efg hE (fun b hb=>by cases hb;exact hMg) (fun b _ hb=>hfr.keep b hb) hk).cons m hmc).put' hn hp)
theorem t_nc {q:Pd} {x:Operand} (hx:Opn L x q) (hp:∀s v,q.p s v→∃p,v = .pointer (some p)) (ho:o.op = .nilCheck x) (hg:o.guard=none):T P ops o L q:=
 T.pure hg fun M n s0 a s hL=>by
  have h:=hx M n s0 a s hL;obtain ⟨p,hv⟩:=hp _ _ h;refine ⟨a.eval x, ?_,h⟩;unfold execOp;rw [ho];simp [hv]
theorem zff {α:Type} {E:En α} {x:α}:∀s v,(Pd.ptr E x).p s v→∃p,v = .pointer (some p):=fun s v ⟨b,o,cs,hv,_⟩=>⟨_,hv⟩
end
end
def remL {ν:Type} (es:List MapEntry) (seen:Array Nat) (ys:List ν):List ν:=((es.zip ys).filter (fun q=>!seen.contains q.1.born)).map (·.2)
theorem rem_perm {ν:Type} (seen:Array Nat):∀(es:List MapEntry) (ys:List ν) (i:Nat) (e:MapEntry) (p:ν),(es.map (·.born)).Nodup→es[i]?=some e→ys[i]?=some p→seen.contains e.born=false→(remL es seen ys).Perm (p::remL es (seen.push e.born) ys)
 | [],_,i,e,p,_,h,_,_=>by simp at h
 | _::_,[],i,e,p,_,_,h,_=>by simp at h
 | e0::es,y0::ys,i,e,p,hn,he,hp,hs=>by
  rw [List.map_cons,List.nodup_cons] at hn;have hc:∀(b:Nat),(seen.push e.born).contains b=(seen.contains b||b==e.born):=fun b=>by
   rw [Bool.eq_iff_iff];simp
  cases i with
  | zero=>
   simp at he hp;subst he;subst hp;have h1:remL es (seen.push e0.born) ys=remL es seen ys:=by
    unfold remL
    congr 1
    apply List.filter_congr;intro q hq;have:q.1.born≠e0.born:=fun h=>hn.1 (by rw [← h];exact List.mem_map_of_mem (List.of_mem_zip hq).1);simp [this]
   unfold remL at h1 ⊢;simp only [List.zip_cons_cons,List.filter_cons,hs,hc,Bool.not_false,if_true,beq_self_eq_true,Bool.or_true,Bool.not_true];simp only [List.map_cons];simp only [hc] at h1;rw [if_neg (by simp),h1]
  | succ i=>
   simp at he hp;have ih:=rem_perm seen es ys i e p hn.2 he hp hs;have hne:e0.born≠e.born:=fun h=>hn.1 (by rw [h];exact List.mem_map_of_mem (List.mem_of_getElem? he));unfold remL at ih ⊢;simp only [List.zip_cons_cons,List.filter_cons,hc];have hb:(e0.born==e.born)=false:=by simpa using hne
   simp only [hb,Bool.or_false];simp only [hc] at ih;split
   ·simp only [List.map_cons];exact (ih.cons _).trans (List.Perm.swap _ _ _)
   ·exact ih
section
variable {κ ν : Type} {K : En κ} {kv : κ → Value} {E : En ν}
def Pd.iter (K:En κ) (kv:κ→Value) (E:En ν) (N g:Nat) (rem:List (κ × ν)) (cur:Option (κ × ν)):Pd:=
 ⟨fun s v=>v = .pointer (some ⟨g,0,none⟩)∧N≤g∧s.X g∧((∃a seen b,s.w.heap[g]?=some (.mapIter none a seen b)∧rem=[]∧cur=none) ∨
   ∃bm since seen c0 es clock ys,s.w.heap[g]?=some (.mapIter (some bm) since seen c0)∧zgh s bm∧s.w.heap[bm]?=some (.map es clock)∧MpR K kv E s.w (zgh s) es clock ys∧since≤c0∧since≤clock∧(∀e∈es.toList,e.born<since)∧(remL es.toList seen ys).Perm rem ∧
    ∀p,cur=some p→∃(i:Nat) (e:MapEntry) (seen':Array Nat),es.toList[i]?=some e∧ys[i]?=some p∧seen=seen'.push e.born∧c0=clock),fun b=>some g=some b,
  by
   rintro T s s' v h hb ⟨hv,hN,hX,hr⟩
   refine ⟨hv,hN,(hb g rfl).2 hX, ?_⟩
   rcases hr with ⟨a,seen,b,hg,h1,h2⟩ | ⟨bm,since,seen,c0,es,clock,ys,hg,hf,hbm,hM,h1,h2,h3,h4,h5⟩
   ·refine .inl ⟨a,seen,b, ?_,h1,h2⟩
    rw [h.blk g (Array.getElem?_eq_some_iff.1 hg).1 (hb g rfl).1];exact hg
   ·refine .inr ⟨bm,since,seen,c0,es,clock,ys, ?_,⟨Nat.lt_of_lt_of_le hf.1 h.size,fun hx=>(h.xx bm hx).elim hf.2 (fun hk=>by have:=hf.1;omega)⟩, ?_,hM.go h,h1,h2,h3,h4,h5⟩
    ·rw [h.blk g (Array.getElem?_eq_some_iff.1 hg).1 (hb g rfl).1];exact hg
    ·rw [h.blk bm hf.1 (fun ht=>hf.2 (h.tx bm ht))];exact hbm⟩
def Pd.nx (b:Bool):Pd:=⟨fun _ v=>∃l:Array Value,v = .tuple l∧l[0]?=some (.bool b),fun _=>False,fun _ _ h=>h⟩
section
variable {P : Program} {ops : Array Oper} {o : Oper} {L L' : Lst} {Q : Exit → Act → World → Prop} {rest : List Oper} {M : Nat → Prop} {n : Nat} {s0 : St} {a : Act} {s : St} {t kt et : TypeId} {g : Nat}
theorem st_range {xs:List (κ × ν)} {x:Operand} (d:Nat) (hL:Has M n s0 a s L) (hx:Opn L x (Pd.rep (En.fmap K kv E) xs)) (ht:P.underlying t=some (.map kt et)) (ho:o.op = .range t x) (hg:o.guard=none) (hd:o.dst=some d) (hn:Nat.blt d n=true)
  (k:∀a' s' g,s.w.heap.size≤g→Has M n s0 a' s' ((d,Pd.iter K kv E s0.w.heap.size g xs none)::L)→wpList P ops Q rest a' s'.w):wpList P ops Q (o::rest) a s.w:=by
 refine wpList_plain hg fun K' hK'=>?_;unfold Oper.wp execOp;rcases zrh.1 (hx M n s0 a s hL) with ⟨hv,rfl⟩ | ⟨bm,es,clock,ys,hv,hf,hgb,hM,hp⟩
 ·have hr:=run_range_nilMap (P:=P) s.w t kt et ht;simp only [ho,hv,Sem.run_bind,hr,Result.andThen_ok,Sem.run_pure];refine hK' _ _ ?_;simp only [hd];refine k _ (s.pushX (.mapIter none 0 #[] 0)) s.w.heap.size (Nat.le_refl _) (hL.put (Ex.pushX s _) hn ⟨rfl,hL.ent.mv.size,.inr rfl,.inl ⟨0,#[],0,heap_alloc_new s.w _,rfl,rfl⟩⟩)
 ·have hr:=run_range_map (P:=P) s.w t kt et bm es clock ht hgb;simp only [ho,hv,Sem.run_bind,hr,Result.andThen_ok,Sem.run_pure];refine hK' _ _ ?_;simp only [hd];have hE:=Ex.pushX s (.mapIter (some bm) clock #[] clock);refine k _ (s.pushX (.mapIter (some bm) clock #[] clock)) s.w.heap.size (Nat.le_refl _) (hL.put hE hn ⟨rfl,hL.ent.mv.size,.inr rfl,.inr ⟨bm,clock,#[],clock,es,clock,ys,heap_alloc_new s.w _, ?_, ?_,hM.go hE.mv,Nat.le_refl _,Nat.le_refl _,hM.st.1, ?_,fun p h=>by cases h⟩⟩)
  ·exact ⟨Nat.lt_of_lt_of_le hf.1 hE.mv.size,fun hx=>(hE.mv.xx bm hx).elim hf.2 (fun hk=>by have:=hf.1;omega)⟩
  ·rw [hE.mv.blk bm hf.1 id];exact hgb
  ·have:remL es.toList #[] ys=ys:=by
    unfold remL;rw [List.filter_eq_self.2 (by simp)];exact List.map_snd_zip (by rw [hM.len];exact Nat.le_refl _)
   rw [this];exact hp
theorem Has.ilt {rem:List (κ × ν)} {cur:Option (κ × ν)} {N:Nat} (h:Has M n s0 a s L) (t:Nat) (hl:lk L t=some (Pd.iter K kv E N g rem cur)):∀k,some g=some k→k<s.w.heap.size:=fun k hk=>by cases hk;exact s.lt _ (h.get t hl).2.2.1
theorem st_next {rem:List (κ × ν)} {cur:Option (κ × ν)} {x:Nat} (d:Nat) (hL:Has M n s0 a s L) (hx:lk L x=some (Pd.iter K kv E s0.w.heap.size g rem cur)) (ho:o.op = .next (.tmp x) false) (hg:o.guard=none) (hd:o.dst=some d) (hn:Nat.blt d n=true) (hne:d≠x)
  (hk:Kp (fun b=>some g=some b) L L')
  (k0:∀a',rem=[]→Has M n s0 a' s ((d,Pd.nx false)::L)→wpList P ops Q rest a' s.w)
  (k1:∀a' s' p rem',rem.Perm (p::rem')→Has M n s0 a' s' ((d,Pd.nx true)::(x,Pd.iter K kv E s0.w.heap.size g rem' (some p))::L')→wpList P ops Q rest a' s'.w):wpList P ops Q (o::rest) a s.w:=by
 obtain ⟨hv,hN,hX,hr⟩:=hL.get x hx;refine wpList_plain hg fun K' hK'=>?_;unfold Oper.wp execOp;rcases hr with ⟨aa,seen,bb,hgb,rfl,_⟩ | ⟨bm,since,seen,c0,es,clock,ys,hgb,hf,hbm,hM,h1,h2,h3,h4,h5⟩
 ·have hrun:(Instr.next (.pointer (some ⟨g,0,none⟩)) false o.type).run P s.w = .ok (.tuple #[.bool false]) s.w:=by
   simp only [Instr.next,getObj,Sem.run_bind,Sem.run,hgb,Result.andThen];rfl
  simp only [ho,hv,Sem.run_bind,hrun,Result.andThen_ok,Sem.run_pure];refine hK' _ _ ?_;simp only [hd];exact k0 _ rfl (hL.put' hn ⟨_,rfl,rfl⟩)
 ·have hnd:=hM.st.2.1;rcases run_next_at (P:=P) s.w o.type g bm since c0 seen es clock hgb hbm h3 h1 with ⟨hz,hrun⟩ | ⟨e,he,w1,hw1,hrun⟩
  ·simp only [ho,hv,Sem.run_bind,hrun,Result.andThen_ok,Sem.run_pure];refine hK' _ _ ?_;simp only [hd];refine k0 _ ?_ (hL.put' hn ⟨_,rfl,rfl⟩);have hnil:remL es.toList seen ys=[]:=by
    unfold remL;rw [List.map_eq_nil_iff,List.filter_eq_nil_iff];intro q hq;have hq1:=(List.of_mem_zip hq).1;intro hc;have:q.1∈(leftOf es seen).toList:=by unfold leftOf;simp;exact ⟨by simpa using hq1,by simpa using hc⟩
    have hlen:(leftOf es seen).toList.length=0:=by simpa using hz
    rw [List.length_eq_zero_iff] at hlen;rw [hlen] at this;cases this
   rw [hnil] at h4;exact List.nil_perm.1 h4
  ·simp only [ho,hv,Sem.run_bind,hrun,Result.andThen_ok,Sem.run_pure];refine hK' _ _ ?_;simp only [hd];have he1:e∈es.toList∧seen.contains e.born=false:=by unfold leftOf at he;simp at he;exact ⟨by simpa using he.1,by simpa using he.2⟩
   obtain ⟨i,hi⟩:=List.getElem?_of_mem he1.1;have hil:i<ys.length:=by rw [← hM.len];exact (List.getElem?_eq_some_iff.1 hi).1
   have hyi:ys[i]?=some ys[i]:=List.getElem?_eq_getElem hil;have hgl:g<s.w.heap.size:=s.lt g hX;have hgbm:g≠bm:=fun e=>hf.2 (e ▸ hX)
   let w':World:=Go.ChangeMaps.setBlock w1 g (.mapIter (some bm) since (seen.push e.born) clock)
   have hh:w1.heap=s.w.heap:=by rcases hw1 with rfl | rfl <;> rfl
   have hblk:∀b,b≠g→w'.heap[b]?=s.w.heap[b]?:=fun b hb=>by
    simp [w',Go.ChangeMaps.setBlock,hh,Array.getElem?_setIfInBounds_ne (Ne.symm hb)]
   have hgg:w'.heap[g]?=some (.mapIter (some bm) since (seen.push e.born) clock):=by
    simp [w',Go.ChangeMaps.setBlock,hh,hgl]
   have hsz:w'.heap.size=s.w.heap.size:=by simp [w',Go.ChangeMaps.setBlock,hh]
   have hdr:DR s.w w':=by
    rcases hw1 with rfl | rfl
    ·exact DR.eq rfl
    ·exact DR.succ rfl
   let s':St:=⟨w',s.X,fun b hb=>by rw [hsz];exact s.lt b hb⟩
   have hE:Ef (fun b=>some g=some b) s s':=⟨⟨hdr,by rcases hw1 with rfl | rfl <;> rfl,by rcases hw1 with rfl | rfl <;> rfl,by rcases hw1 with rfl | rfl <;> rfl,by show _≤w'.heap.size;rw [hsz];exact Nat.le_refl _,fun b _ hnb=>hblk b (fun e=>hnb (by rw [e])),fun b hb=>by cases hb;exact hX,fun b hb=>.inl hb⟩,fun b hb _=>hb⟩;have hLk:Has M n s0 a s' L':=hL.ef hE (fun b hb=>by cases hb;exact hN) hk;have hit:(Pd.iter K kv E s0.w.heap.size g (remL es.toList (seen.push e.born) ys) (some ys[i])).p s' (a.eval (.tmp x)):=by
    refine ⟨hv,hN,hX,.inr ⟨bm,since,seen.push e.born,clock,es,clock,ys,hgg,⟨by show bm<w'.heap.size;rw [hsz];exact hf.1,hf.2⟩, ?_,hM.go hE.mv,h2,h2,h3,.refl _,fun p hp=>?_⟩⟩
    ·show w'.heap[bm]?=_;rw [hblk bm (Ne.symm hgbm)];exact hbm
    ·cases hp;exact ⟨i,e,seen,hi,hyi,rfl,rfl⟩
   exact k1 _ s' ys[i] _ (h4.symm.trans (rem_perm seen es.toList ys i e ys[i] hnd hi hyi he1.2)) ((hLk.cons x hit).put' hn ⟨_,rfl,rfl⟩)
theorem t_nx {b:Bool} {x:Operand} (hx:Opn L x (Pd.nx b)) (ho:o.op = .extract x 0) (hg:o.guard=none):T P ops o L (Pd.rep En.bool b):=
 T.pure hg fun M n s0 a s hL=>by
  obtain ⟨l,hv,h0⟩:=hx M n s0 a s hL;refine ⟨.bool b, ?_,zch.2 rfl⟩;unfold execOp;rw [ho];simp [hv,Instr.extract,h0]
theorem t_entry {N:Nat} {rem:List (κ × ν)} {p:κ × ν} {x:Operand} (hx:Opn L x (Pd.iter K kv E N g rem (some p))) (hK:KeyT P kt K kv) (ho:o.op = .entry x) (hg:o.guard=none):T P ops o L (Pd.tup2 (Pd.rep K p.1) (Pd.rep E p.2)):=
 T.pure hg fun M n s0 a s hL=>by
  obtain ⟨hv,hN,hX,hr⟩:=hx M n s0 a s hL;rcases hr with ⟨aa,seen,bb,hgb,_,hc⟩ | ⟨bm,since,seen,c0,es,clock,ys,hgb,hf,hbm,hM,h1,h2,h3,h4,h5⟩
  ·cases hc
  ·obtain ⟨i,e,seen',hi,hyi,rfl,rfl⟩:=h5 p rfl;have hnd:=hM.st.2.1;obtain ⟨hk1,⟨cs,hkR⟩,cs',hv',hR'⟩:=hM.ent i e p hi hyi;have hrun:=run_entry_at (P:=P) s.w g bm since seen' es c0 e hgb hbm (List.mem_of_getElem? hi) hnd;refine ⟨.tuple #[e.key,e.val], ?_,_,_,rfl,⟨cs,by rw [hk1,hK.val hkR],hkR⟩,⟨cs',hv',hR'⟩⟩;unfold execOp;rw [ho];simp [hv,hrun,Result.andThen]
end
end
def En.nilv {α:Type} (E:En α):En (List α) where
 sz:=1
 agg:=false
 R:=fun _ _ cs xs=>cs=[.slice none 0 0]∧xs=[]
 sc:=fun _=>rfl
 pos:=Nat.one_pos
 len:=by rintro _ _ _ _ ⟨rfl,_⟩;rfl
 one:=by rintro _ _ _ _ ⟨rfl,_⟩ u hu;simp at hu;subst hu;rfl
 mono:=fun _ h=>h
 move:=fun _ h=>h
theorem zg7 {α:Type} {E:En α} {xs:List α} {s:St} {v:Value}:(Pd.rep (En.nilv E) xs).p s v↔v = .slice none 0 0∧xs=[]:=
 ⟨fun ⟨_,hv,hc,hr⟩=>by subst hc;exact ⟨hv,hr⟩,fun ⟨hv,hr⟩=>⟨[.slice none 0 0],hv,rfl,hr⟩⟩
theorem o_nilv {L:Lst} {α:Type} {E:En α}:Opn L (.const (.slice none 0 0)) (Pd.rep (En.nilv E) ([]:List α)):=o_c fun _=>zg7.2 ⟨rfl,rfl⟩
end
end Go.Proofs.YtjdaaiodniicoaaGreatDoor.V
namespace Go.Proofs.YtjdaaiodniicoaaGreatDoor.V
open Go Go.MapKept
set_option linter.unusedVariables false
section
variable {u : Bool} [Dr u]
def En.fid:En (Option Nat) where
 sz:=1
 agg:=false
 R:=fun _ _ cs x=>cs=[fidV x]
 sc:=fun _=>rfl
 pos:=Nat.one_pos
 len:=by rintro _ _ _ _ rfl;rfl
 one:=by rintro _ _ _ x rfl u hu;simp at hu;subst hu;cases x <;> rfl
 mono:=fun _ h=>h
 move:=fun _ h=>h
theorem rep_fid {x:Option Nat} {s:St} {v:Value}:(Pd.rep En.fid x).p s v↔v=fidV x:=
 ⟨fun ⟨_,hv,hc⟩=>by cases hc;exact hv,fun hv=>⟨[fidV x],hv,rfl⟩⟩
abbrev kvI64:Int→Value:=fun x=>.int .i64 x
theorem key_i64 {P:Program} {kt:TypeId} (hd:P.underlying kt=some (.int .i64)):KeyT P kt (En.int .i64) kvI64:=
 key_plain hd (fun x=>rfl) (fun ⟨h,_⟩=>by subst h;rfl) (fun {x y} h=>by simpa using h)
section
variable {P : Program} {ops : Array Oper} {o : Oper} {L : Lst}
theorem o_gm {g:Nat} {l:List (Int × Option Nat)} (hm:(g,l)∈gmap):Opn L (.global g) (Pd.ptr (En.fmap (En.int .i64) kvI64 En.fid) l):=fun M n0 s0 ac s hL=>by
 obtain ⟨hX,m,tt,fr,es,clock,ys,hb,hXm,hbm,hF,hp⟩:=hL.gls.2 _ hm;simp only at hX hb hp;refine ⟨g,0,[.map (some m)],rfl,⟨(Array.getElem?_eq_some_iff.1 hb).1,hX⟩,fun j u hj=>?_,.map (some m),rfl,.inr ⟨m,es,clock,ys,rfl,⟨(Array.getElem?_eq_some_iff.1 hbm).1,hXm⟩,hbm,⟨hF.1,hF.2.1,fun i e p h1 h2=>?_⟩,hp⟩⟩
 ·cases j with
  | zero=>
   simp at hj;subst hj;rw [Nat.add_zero,cell_of_row s.w g _ _ tt fr hb];rfl
  | succ j=>simp at hj
 ·obtain ⟨k1,k2,k3⟩:=hF.2.2 i e p h1 h2;exact ⟨k1,⟨_,rfl,by simp [InR,IntKind.min,IntKind.max,IntKind.signed,IntKind.bits];omega⟩,[fidV p.2],k3,rfl⟩
theorem t_callid {t:Nat} {xs:List Operand} {F:Option Nat} {qs:List Pd} {q:Pd} {ats:Array TypeId} (hf:∃f,F=some f∧Fn P f qs (Rq q)) (hF:Opn L (.tmp t) (Pd.rep En.fid F)) (hx:zp5 L xs qs)
  (ho:o.op = .call { callee:=.value (.tmp t),args:=xs.toArray,argTypes:=ats }) (hg:o.guard=none):T P ops o L q:=fun M n s0 a s hL Q k hk=>by
 obtain ⟨f,rfl,hf⟩:=hf;simp only [Region.wanted,hg,if_true];have hv:a.eval (.tmp t) = .func (.func f) #[] #[]:=rep_fid.1 (hF M n s0 a s hL);have e:(execOp a.eval o).run P s.w = .ok (.enter f (xs.map a.eval).toArray) s.w:=by
  have e1:execOp a.eval o=(do let d ← Deferred.ofValue (a.eval (.tmp t)) (xs.toArray.map a.eval);invoke d.target d.args):=by
   unfold execOp;rw [ho];rfl
  rw [e1,hv];have:=hf.call (xs.map a.eval).toArray s.w;simpa [Deferred.ofValue,invoke] using this
 unfold Oper.wp;rw [e,Oper.upon_enter];refine (hf.run s _ hL.gls (hx.vals hL)).mono fun e w' ⟨v,s',he,hw,hx,hq⟩=>?_;subst he;subst hw;exact hk v s' ⟨hx,hq⟩
theorem els_take {α:Type} {E:En α} {w:World} {S:Nat→Prop} {css:List (List Value)} {xs:List α} (h:Els E w S css xs) (k:Nat):Els E w S (css.take k) (xs.take k):=by
 refine ⟨by rw [List.length_take,List.length_take,h.1],fun i c y hc hy=>?_⟩;rw [List.getElem?_take] at hc hy;split at hc
 ·rename_i hlt
  rw [if_pos hlt] at hy;exact h.2 i c y hc hy
 ·cases hc
theorem flat_take {css:List (List Value)} (k:Nat) {j:Nat} {u:Value} (h:(css.take k).flatten[j]?=some u):css.flatten[j]?=some u:=by
 have e:css.flatten=(css.take k).flatten++(css.drop k).flatten:=by rw [← List.flatten_append,List.take_append_drop]
 rw [e,List.getElem?_append_left (List.getElem?_eq_some_iff.1 h).1];exact h
theorem t_upto {α:Type} {E:En α} {xs:List α} {k:IntKind} {i:Int} {y z:Operand} {t te:TypeId} (hy:Opn L y (Pd.rep (En.slice E) xs)) (hz:Opn L z (Pd.rep (En.int k) i)) (hi:0≤i∧i≤(xs.length:Int)) (ht:P.underlying t=some (.slice te)) (hE:Ty P te E)
  (ho:o.op = .slice t y none (some z) none) (hg:o.guard=none):T P ops o L (Pd.rep (En.slice E) (xs.take i.toNat)):=
 T.pure hg fun M n s0 ac s hL=>by
  obtain ⟨ad,cap,hv,h1,h2,h3,h4⟩:=zbx.1 (hy M n s0 ac s hL);have hiv:=(zbf.1 (hz M n s0 ac s hL)).1;have hlen:(xs.take i.toNat).length=i.toNat:=by rw [List.length_take];omega
  refine ⟨.slice (if cap=0 then ad else ad.map (·.add (0*E.sz))) i.toNat cap, ?_,zbx.2 ⟨_,_,by rw [hlen],by rw [hlen];omega,fun hn=>?_,by rw [hlen];omega,fun hne=>?_⟩⟩
  ·unfold execOp;rw [ho];simp only [hv,hiv,Option.map_some,Option.map_none,Instr.sliceAt,Sem.run_bind,run_underlying ht,Result.andThen_ok,Instr.slice,Instr.sliceBounds,Instr.sliceBound,asIntOf,Sem.run_pure];rw [if_pos (by omega)];simp [zbw hE]
  ·split at hn
   ·have:=h2 hn;omega
   ·cases ad with
    | none=>have:=h2 rfl;omega
    | some a=>cases hn
  ·have hlt:0<i.toNat:=by
    rcases Nat.eq_zero_or_pos i.toNat with h | h
    ·rw [h] at hne;simp at hne
    ·exact h
   obtain ⟨b,off,css,e1,hb,hEl,hc⟩:=h4 (by intro h;rw [h] at hi;simp at hi;omega);refine ⟨b,off,css.take i.toNat, ?_,hb,els_take hEl _,fun j u hu=>hc j u (flat_take _ hu)⟩;rw [if_neg (by omega),e1];simp [zfr]
theorem t_part {α:Type} {E:En α} {xs:List α} {k k2:IntKind} {l i:Int} {y z0 z:Operand} {t te:TypeId} (hy:Opn L y (Pd.rep (En.slice E) xs)) (hz0:Opn L z0 (Pd.rep (En.int k2) l)) (hz:Opn L z (Pd.rep (En.int k) i)) (hi:0≤l∧l≤i∧i≤(xs.length:Int)) (ht:P.underlying t=some (.slice te)) (hE:Ty P te E)
  (ho:o.op = .slice t y (some z0) (some z) none) (hg:o.guard=none):T P ops o L (Pd.rep (En.slice E) ((xs.take i.toNat).drop l.toNat)):=
 T.pure hg fun M n s0 ac s hL=>by
  obtain ⟨ad,cap,hv,h1,h2,h3,h4⟩:=zbx.1 (hy M n s0 ac s hL);have hiv:=(zbf.1 (hz M n s0 ac s hL)).1;have hlv:=(zbf.1 (hz0 M n s0 ac s hL)).1;have hlen:((xs.take i.toNat).drop l.toNat).length=i.toNat-l.toNat:=by rw [List.length_drop,List.length_take];omega
  refine ⟨.slice (if cap=l.toNat then ad else ad.map (·.add (l.toNat*E.sz))) (i.toNat-l.toNat) (cap-l.toNat), ?_,zbx.2 ⟨_,_,by rw [hlen],by rw [hlen];omega,fun hn=>?_,by rw [hlen];omega,fun hne=>?_⟩⟩
  ·unfold execOp;rw [ho];simp only [hv,hiv,hlv,Option.map_some,Option.map_none,Instr.sliceAt,Sem.run_bind,run_underlying ht,Result.andThen_ok,Instr.slice,Instr.sliceBounds,Instr.sliceBound,asIntOf,Sem.run_pure];rw [if_pos (by omega)];simp [zbw hE];intro h;exact absurd (h hi.1) (by omega)
  ·split at hn
   ·omega
   ·cases ad with
    | none=>have:=h2 rfl;omega
    | some a=>cases hn
  ·have hlt:l.toNat<i.toNat:=by
    rcases Nat.lt_or_ge l.toNat i.toNat with h | h
    ·exact h
    ·exact absurd (List.eq_nil_of_length_eq_zero (by rw [hlen];omega)) hne
   obtain ⟨b,off,css,e1,hb,hEl,hc⟩:=h4 (by intro h;rw [h] at hi;simp at hi;omega);have hcl:(css.take i.toNat).length=i.toNat:=by rw [List.length_take,hEl.1];omega
   have hEt:=els_take hEl i.toNat;refine ⟨b,off+l.toNat*E.sz,(css.take i.toNat).drop l.toNat, ?_,hb,zse hEt _, ?_⟩
   ·rw [if_neg (by omega),e1];simp [zfr]
   ·intro j u hu;rw [zo5 hEt.lens _ (by omega),List.getElem?_drop] at hu;rw [Nat.add_assoc];exact hc _ u (flat_take _ hu)
end
end
end Go.Proofs.YtjdaaiodniicoaaGreatDoor.V
