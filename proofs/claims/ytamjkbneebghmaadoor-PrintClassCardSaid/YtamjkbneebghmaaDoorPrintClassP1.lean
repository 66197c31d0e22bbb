/-
  The texts that the law's proof needs, part 1.
-/
import Derived.Deep.LoopGhost
import Derived.KernelRfl
import Derived.Laws.AppendOwnNone
import Derived.Laws.BytesArg
import Derived.Laws.StructEq
import Derived.Laws.Tables
import Derived.Lib.AppendIntMem
import Derived.Lib.Hide
import Derived.Lib.ItoaLen
import Derived.Lib.ItoaNum
import Derived.Lib.Join
import Derived.Maps.Keyed
import Derived.Maps.RangeRun
import Derived.OpenShut
import Derived.Orders
import Derived.ProofKit
import Derived.Shelf.LaysM
import Derived.Shelf.Strconv.Itoa3
import Derived.Shelf.Strings.OnBuilder
import Derived.Test.YtamjkbneebghmaaDoorChecked
import Derived.WalkKit

namespace Go.Proofs.YtamjkbneebghmaaDoor.V
theorem J {α:Sort _}{a:α}:a=a:=rfl
open Go
def gtab:List (Nat × List Value):=[(2,(List.range 20).map fun i=>Value.int .u64 ((10 ^ i:Nat):Int))]
def fidV:Option Nat→Value
 | some n=>.int .i64 n
 | none=>.int .i64 0
def Fmst (es:Array MapEntry) (clock:Nat) (ys:List (Int × Option Nat)):Prop:=
 Go.MapKept.Stamped es clock∧es.toList.length=ys.length∧∀(i:Nat) (e:MapEntry) (p:Int × Option Nat),es.toList[i]?=some e→ys[i]?=some p→e.key = .int .i64 p.1∧(-9223372036854775808≤p.1∧p.1≤9223372036854775807)∧e.val=fidV p.2
def gfm0:List (Int × Option Nat):=[(4,some 1),(5,some 0),(6,some 2),(7,some 2)]
abbrev gfmS:List (Int × Option Nat):=gfm0
def gmap:List (Nat × List (Int × Option Nat)):=[(0,gfm0)]
set_option linter.unusedVariables false
structure St where
 w:World
 X:Nat→Prop
 lt:∀b,X b→b<w.heap.size
class Dr (u:outParam Bool) where
 R:World→World→Prop
 eq:∀{w w':World},w'.drawn=w.drawn→R w w'
 succ:∀{w w':World},w'.drawn=w.drawn+1→R w w'
 trans:∀{a b c:World},R a b→R b c→R a c
instance (priority:=low) dNone:Dr false:=⟨fun _ _=>True,fun _=>trivial,fun _=>trivial,fun _ _=>trivial⟩
theorem DR.kit {w w':World}:dNone.R w w':=trivial
section
variable {u : Bool} [Dr u]
def DR (w w':World):Prop:=Dr.R w w'
theorem DR.eq {w w':World} (h:w'.drawn=w.drawn):DR w w':=Dr.eq h
theorem DR.succ {w w':World} (h:w'.drawn=w.drawn+1):DR w w':=Dr.succ h
theorem DR.trans {a b c:World} (h:DR a b) (k:DR b c):DR a c:=Dr.trans h k
structure Mv (T:Nat→Prop) (s s':St):Prop where
 dr:DR s.w s'.w
 os:s'.w.os=s.w.os
 tape:s'.w.tape=s.w.tape
 output:s'.w.output=s.w.output
 size:s.w.heap.size≤s'.w.heap.size
 blk:∀b,b<s.w.heap.size→¬ T b→s'.w.heap[b]?=s.w.heap[b]?
 tx:∀b,T b→s.X b
 xx:∀b,s'.X b→s.X b∨s.w.heap.size≤b
structure Ex (s s':St):Prop where
 mv:Mv (fun _=>False) s s'
 keep:∀b,s.X b→s'.X b
theorem Mv.refl (T:Nat→Prop) (s:St) (h:∀b,T b→s.X b):Mv T s s:=⟨DR.eq rfl,rfl,rfl,rfl,Nat.le_refl _,fun _ _ _=>rfl,h,fun _ h=>.inl h⟩
theorem Ex.refl (s:St):Ex s s:=⟨Mv.refl _ s (fun _ h=>h.elim),fun _ h=>h⟩
theorem Ex.trans {a b c:St} (h:Ex a b) (k:Ex b c):Ex a c:=
 ⟨⟨h.mv.dr.trans k.mv.dr,k.mv.os.trans h.mv.os,k.mv.tape.trans h.mv.tape,k.mv.output.trans h.mv.output,Nat.le_trans h.mv.size k.mv.size,
  fun i hi hn=>(k.mv.blk i (Nat.lt_of_lt_of_le hi h.mv.size) hn).trans (h.mv.blk i hi hn),fun _ h=>h.elim,
  fun i hi=>(k.mv.xx i hi).elim (fun j=>h.mv.xx i j) (fun j=>.inr (Nat.le_trans h.mv.size j))⟩,fun i hi=>k.keep i (h.keep i hi)⟩
def Gl (s:St):Prop:=(∀p∈gtab,¬ s.X p.1∧∃t fr,s.w.heap[p.1]?=some (.cells p.2.toArray t fr)) ∧
 ∀p∈gmap,¬ s.X p.1∧∃m t fr es clock ys,s.w.heap[p.1]?=some (.cells #[.map (some m)] t fr)∧¬ s.X m∧s.w.heap[m]?=some (.map es clock)∧Fmst es clock ys∧ys.Perm p.2
theorem Gl.mv {T:Nat→Prop} {s s':St} (h:Gl s) (m:Mv T s s'):Gl s':=by
 have key:∀b o,¬ s.X b→s.w.heap[b]?=some o→¬ s'.X b∧s'.w.heap[b]?=some o:=fun b o h1 h2=>by
  have hlt:b<s.w.heap.size:=(Array.getElem?_eq_some_iff.1 h2).1;refine ⟨fun hx=>(m.xx _ hx).elim h1 (fun hk=>by omega), ?_⟩;rw [m.blk _ hlt (fun ht=>h1 (m.tx _ ht))];exact h2
 refine ⟨fun p hp=>?_,fun p hp=>?_⟩
 ·obtain ⟨h1,t,fr,h2⟩:=h.1 p hp;obtain ⟨k1,k2⟩:=key _ _ h1 h2;exact ⟨k1,t,fr,k2⟩
 ·obtain ⟨h1,b,t,fr,es,clock,ys,h2,h3,h4,h5,h6⟩:=h.2 p hp;obtain ⟨k1,k2⟩:=key _ _ h1 h2;obtain ⟨k3,k4⟩:=key _ _ h3 h4;exact ⟨k1,b,t,fr,es,clock,ys,k2,k3,k4,h5,h6⟩
abbrev N0:Nat→Prop:=fun _=>False
structure Fr (M:Nat→Prop) (s s':St):Prop where
 mv:Mv M s s'
 keep:∀b,s.X b→s'.X b
theorem Fr.ex {s s':St} (h:Fr N0 s s'):Ex s s':=⟨h.mv,h.keep⟩
theorem Fr.refl {M:Nat→Prop} {s:St} (h:∀b,M b→s.X b):Fr M s s:=⟨Mv.refl M s h,fun _ h=>h⟩
theorem Fr.trans {M:Nat→Prop} {a b c:St} (h:Fr M a b) (k:Ex b c):Fr M a c:=
 ⟨⟨h.mv.dr.trans k.mv.dr,k.mv.os.trans h.mv.os,k.mv.tape.trans h.mv.tape,k.mv.output.trans h.mv.output,Nat.le_trans h.mv.size k.mv.size,
  fun i hi hn=>(k.mv.blk i (Nat.lt_of_lt_of_le hi h.mv.size) (fun h=>h)).trans (h.mv.blk i hi hn),h.mv.tx,
  fun i hi=>(k.mv.xx i hi).elim (fun j=>h.mv.xx i j) (fun j=>.inr (Nat.le_trans h.mv.size j))⟩,fun i hi=>k.keep i (h.keep i hi)⟩
structure Pd where
 p:St→Value→Prop
 own:Nat→Prop
 mv:∀{T s s' v},Mv T s s'→(∀b,own b→¬ T b∧(s.X b→s'.X b))→p s v→p s' v
theorem Pd.ex {q:Pd} {s s':St} {v:Value} (h:Ex s s') (hq:q.p s v):q.p s' v:=q.mv h.mv (fun b _=>⟨id,h.keep b⟩) hq
def Pd.any:Pd:=⟨fun _ _=>True,fun _=>False,fun _ _ h=>h⟩
def Pd.when (c:Prop) (q:Pd):Pd:=⟨fun s v=>(c→q.p s v)∧(¬ c→v=undef),q.own,fun h hb hp=>⟨fun hc=>q.mv h hb (hp.1 hc),hp.2⟩⟩
abbrev Lst:=List (Nat × Pd)
def lk:Lst→Nat→Option Pd
 | [],_=>none
 | (d,q)::r,t=>bif Nat.beq d t then some q else lk r t
structure Has (M:Nat→Prop) (n:Nat) (s0:St) (a:Act) (s:St) (L:Lst):Prop where
 size:a.tmps.size=n
 defers:a.defers=[]
 ent:Fr M s0 s
 gl:Gl s0
 at_:∀t q,lk L t=some q→q.p s (a.eval (.tmp t))
theorem Has.gls {M:Nat→Prop} {n:Nat} {s0:St} {a:Act} {s:St} {L:Lst} (h:Has M n s0 a s L):Gl s:=h.gl.mv h.ent.mv
theorem Has.get {M:Nat→Prop} {n:Nat} {s0:St} {a:Act} {s:St} {L:Lst} (h:Has M n s0 a s L) (t:Nat) {q:Pd} (e:lk L t=some q):q.p s (a.eval (.tmp t)):=h.at_ t q e
theorem zdx {a:Act} {d n:Nat} {v:Value} (hn:a.tmps.size=n) (hd:Nat.blt d n=true):(a.put (some d) v).eval (.tmp d)=v:=by
 have:d<a.tmps.size:=by rw [hn];exact Nat.le_of_ble_eq_true hd
 simp [Act.eval,Act.put,Array.getD,this]
theorem ze1 {a:Act} {d t:Nat} {v:Value} (h:d≠t):(a.put (some d) v).eval (.tmp t)=a.eval (.tmp t):=by
 simp [Act.eval,Act.put,Array.getElem?_setIfInBounds_ne h]
theorem zfh {d t:Nat} (h:d≠t):Nat.beq d t=false:=by
 rw [← Bool.not_eq_true];exact fun e=>h (Nat.eq_of_beq_eq_true e)
theorem Has.put {M:Nat→Prop} {n:Nat} {s0:St} {a:Act} {s s':St} {L:Lst} (h:Has M n s0 a s L) (e:Ex s s') {d:Nat} (hd:Nat.blt d n=true) {v:Value} {q:Pd} (hq:q.p s' v):
  Has M n s0 (a.put (some d) v) s' ((d,q)::L) where
 size:=by simp [Act.put,h.size]
 defers:=h.defers
 ent:=h.ent.trans e
 gl:=h.gl
 at_:=by
  intro t q' hl;unfold lk at hl
  by_cases ht:d=t
  ·subst ht;simp at hl;subst hl;rw [zdx h.size hd];exact hq
  ·have:Nat.beq d t=false:=zfh ht;rw [this] at hl;rw [ze1 ht];exact Pd.ex e (h.at_ t q' hl)
theorem Has.ex {M:Nat→Prop} {n:Nat} {s0:St} {a:Act} {s s':St} {L:Lst} (h:Has M n s0 a s L) (e:Ex s s'):Has M n s0 a s' L where
 size:=h.size
 defers:=h.defers
 ent:=h.ent.trans e
 gl:=h.gl
 at_:=fun t q hl=>Pd.ex e (h.at_ t q hl)
theorem Has.sub {M:Nat→Prop} {n:Nat} {s0:St} {a:Act} {s:St} {L L':Lst} (h:Has M n s0 a s L) (hs:∀t q,lk L' t=some q→q.p s (a.eval (.tmp t))):Has M n s0 a s L':=
 ⟨h.size,h.defers,h.ent,h.gl,hs⟩
theorem Has.cons {M:Nat→Prop} {n:Nat} {s0:St} {a:Act} {s:St} {L:Lst} (h:Has M n s0 a s L) (d:Nat) {q:Pd} (hq:q.p s (a.eval (.tmp d))):Has M n s0 a s ((d,q)::L):=by
 refine ⟨h.size,h.defers,h.ent,h.gl,fun t q' hl=>?_⟩;unfold lk at hl
 by_cases ht:d=t
 ·subst ht;simp at hl;subst hl;exact hq
 ·have:Nat.beq d t=false:=zfh ht;rw [this] at hl;exact h.at_ t q' hl
def OpR (P:Program) (ops:Array Oper) (o:Oper) (a:Act) (s:St) (K:Value→St→Prop):Prop:=
 ∀(Q:Exit→Act→World→Prop) (k:Act→World→Prop),(∀v s',K v s'→k (a.put o.dst v) s'.w) →
  (if Region.wanted o (yielded ops a.tmps) then o.wp P a s.w k Q else k (a.put o.dst undef) s.w)
def T (P:Program) (ops:Array Oper) (o:Oper) (L:Lst) (q:Pd):Prop:=
 ∀M n s0 a s,Has M n s0 a s L→OpR P ops o a s (fun v s'=>Ex s s'∧q.p s' v)
theorem OpR.of_run {P:Program} {ops:Array Oper} {o:Oper} {a:Act} {s:St} {K:Value→St→Prop} (hg:o.guard=none) {v:Value} {s':St}
  (h:(execOp a.eval o).run P s.w = .ok (.value v) s'.w) (hK:K v s'):OpR P ops o a s K:=by
 intro Q k hk;simp only [Region.wanted,hg,if_true];unfold Oper.wp;rw [h];exact hk v s' hK
theorem st {P:Program} {ops:Array Oper} {Q:Exit→Act→World→Prop} {rest:List Oper} {o:Oper} {M:Nat→Prop} {n:Nat} {s0:St} {a:Act} {s:St} {L:Lst} {q:Pd} (d:Nat)
  (h:T P ops o L q) (hd:o.dst=some d) (hn:Nat.blt d n=true) (hL:Has M n s0 a s L)
  (k:∀a' s',Ex s s'→Has M n s0 a' s' ((d,q)::L)→wpList P ops Q rest a' s'.w):wpList P ops Q (o::rest) a s.w:=by
 refine wpList_step fun K hK=>?_;refine h M n s0 a s hL Q K fun v s' ⟨e,hq⟩=>hK _ _ ?_;rw [hd];exact k _ s' e (hL.put e hn hq)
theorem en' {P:Program} {ops:Array Oper} {Q:Exit→Act→World→Prop} {a:Act} {w:World} (h:Q .normal a w):wpList P ops Q [] a w:=h
theorem rg {P:Program} {id:Nat} {l:List Oper} {Q:Exit→Act→World→Prop} {a:Act} {w:World} (h:wpList P l.toArray Q l a w):(Code.region id l.toArray false).wp P Q a w:=wp_region_lit h
def depL (ops:Array Oper) (qs:List Pd):List Edge→Lst→Lst
 | [],L=>L
 | e::r,L=>match Region.binds .any e,(ops[e.on]?).bind (·.dst),qs[e.on]? with
  | true,some d,some q=>(d,q)::depL ops qs r L
  | _,_,_=>depL ops qs r L
def reach (ops:Array Oper):Nat→Nat→Nat→Bool
 | 0,_,_=>false
 | f+1,i,k=>match ops[i]? with
  | none=>false
  | some o=>(o.after.toList.any fun e=>Region.binds .any e&&Nat.beq e.on k)||(o.after.toList.any fun e=>Region.binds .any e&&reach ops f e.on k)
theorem zea {ops:Array Oper} {p:Nat→Prop} (hp:∀i o,p i→ops[i]?=some o→∀e∈o.after.toList,Region.binds .any e=true→p e.on):
  ∀(f i k:Nat),reach ops f i k=true→(∀o,ops[i]?=some o→∀e∈o.after.toList,Region.binds .any e=true→p e.on)→p k:=by
 intro f
 induction f with
 | zero=>intro i k h;cases h
 | succ f ih=>
  intro i k h hi;unfold reach at h;cases ho:ops[i]? with
  | none=>rw [ho] at h;cases h
  | some o=>
   simp only [ho,Bool.or_eq_true,List.any_eq_true,Bool.and_eq_true] at h;rcases h with ⟨e,he,hb,hk⟩ | ⟨e,he,hb,hk⟩
   ·rw [← Nat.eq_of_beq_eq_true hk];exact hi o ho e he hb
   ·have:=hi o ho e he hb;exact ih e.on k hk fun o' ho'=>hp e.on o' this ho'
def zdf (ops:Array Oper) (m n:Nat) (ks:List Nat) (F:List Nat):Bool:=
 (F.all fun k=>Nat.blt k m) &&
 (List.range ops.size).all fun i=>match ops[i]? with
  | none=>false
  | some o=>(o.after.toList.all fun e=>!Region.binds .any e||Nat.blt e.on i) &&
   (if i<m then F.contains i||(match o.dst with
    | none=>false
    | some d=>Nat.blt d n&&ks.all (fun t=>!Nat.beq t d)&&(List.range m).all fun j=>Nat.beq j i||!((ops[j]?).bind (·.dst)==some d))
   else (List.range i).all fun k=>F.contains k||reach ops ops.size i k)
theorem zcs {ops:Array Oper} {listed:Array Bool} {i:Nat}:i∈Region.ready .any ops listed ↔
  i<ops.size∧listed.getD i true=false∧∃o,ops[i]?=some o∧∀e∈o.after.toList,Region.binds .any e=true→listed.getD e.on false=true:=by
 unfold Region.ready;simp only [List.mem_filter,List.mem_range,Bool.and_eq_true,Bool.not_eq_true'];constructor
 ·rintro ⟨h1,h2,h3⟩;refine ⟨h1,h2, ?_⟩;cases ho:ops[i]? with
  | none=>simp [ho] at h3
  | some o=>
   refine ⟨o,rfl,fun e he hb=>?_⟩;simp only [ho,Option.map_some,Option.getD_some] at h3;rw [← Array.all_toList,List.all_eq_true] at h3;have:=h3 e he;simpa [hb] using this
 ·rintro ⟨h1,h2,o,ho,h3⟩;refine ⟨h1,h2, ?_⟩;simp only [ho,Option.map_some,Option.getD_some];rw [← Array.all_toList,List.all_eq_true];intro e he;cases hb:Region.binds .any e
  ·simp
  ·simp [h3 e he hb]
theorem zdc {listed:Array Bool} {i k:Nat} {d:Bool} (h:i<listed.size):(listed.setIfInBounds i true).getD k d=if k=i then true else listed.getD k d:=by
 simp only [Array.getD_eq_getD_getElem?,Array.getElem?_setIfInBounds]
 by_cases hk:k=i
 ·subst hk;simp [h]
 ·simp [hk,Ne.symm hk]
theorem zfb {P:Program} {ops:Array Oper} {Q:Exit→Act→World→Prop} {m n:Nat} {ks F:List Nat} (hok:zdf ops m n ks F=true):
  ∀(f k:Nat) (listed:Array Bool) (a:Act) (w:World),k+f=ops.size→m≤k→listed.size=ops.size→(∀i,i<ops.size→listed.getD i true=decide (i<k)) →
   wpOps P ops Q (List.range' k f) a w→wpAny P .any ops Q f listed a w:=by
 unfold zdf at hok;rw [Bool.and_eq_true] at hok;obtain ⟨hF,hok⟩:=hok;rw [List.all_eq_true] at hok hF;intro f
 induction f with
 | zero=>
  intro k listed a w hk hm hs hl h;refine ⟨?_,h⟩;cases hr:Region.ready .any ops listed with
  | nil=>rfl
  | cons x xs=>
   have hx:x∈Region.ready .any ops listed:=by rw [hr];simp
   obtain ⟨h1,h2,_⟩:=zcs.1 hx;rw [hl x h1] at h2;simp at h2;omega
 | succ f ih=>
  intro k listed a w hk hm hs hl h;rw [List.range'_succ,wpOps_cons] at h;have hkr:k∈Region.ready .any ops listed:=by
   obtain ⟨o,ho⟩:∃o,ops[k]?=some o:=⟨ops[k]'(by omega),by simp⟩;refine zcs.2 ⟨by omega,by rw [hl k (by omega)];simp,o,ho,fun e he hb=>?_⟩;have:=hok k (by simp;omega);simp only [ho,Bool.and_eq_true] at this;have h1:=List.all_eq_true.1 this.1 e he;simp only [hb,Bool.not_true,Bool.false_or] at h1;have h2:e.on<k:=Nat.le_of_ble_eq_true h1;have h3:=hl e.on (by omega);have h4:listed.getD e.on false=listed.getD e.on true:=by simp [Array.getD,hs,show e.on<ops.size by omega]
   rw [h4,h3];simpa using h2
  refine ⟨fun he=>by rw [he] at hkr;simp at hkr,fun i hi=>?_⟩;obtain ⟨h1,h2,o,ho,h3⟩:=zcs.1 hi;have hik:¬ i<k:=by rw [hl i h1] at h2;simpa using h2
  have:i=k:=by
   rcases Nat.lt_or_ge k i with hlt | hge
   ·exfalso;have h5:=hok i (by simpa using h1);simp only [ho,Bool.and_eq_true] at h5;have h6:=h5.2;rw [if_neg (by omega),List.all_eq_true] at h6;have h7:=h6 k (by simpa using hlt);have hkF:F.contains k=false:=by
     cases hc:F.contains k
     ·rfl
     ·have:=hF k (by simpa using hc);have:k<m:=Nat.le_of_ble_eq_true this;omega
    rw [hkF,Bool.false_or] at h7;have h8:=zea (ops:=ops) (p:=fun j=>listed.getD j false=true) (fun j o' hj ho' e he hb=>by
     have hjs:j<ops.size:=by
      rcases Nat.lt_or_ge j ops.size with h | h
      ·exact h
      ·simp [Array.getElem?_eq_none h] at ho'
     have hjk:j<k:=by
      have:listed.getD j false=listed.getD j true:=by simp [Array.getD,hs,hjs]
      rw [this,hl j hjs] at hj;simpa using hj
     have hok2:=hok j (by simpa using hjs);simp only [ho',Bool.and_eq_true] at hok2;have h9:=List.all_eq_true.1 hok2.1 e he;simp only [hb,Bool.not_true,Bool.false_or] at h9;have h10:e.on<j:=Nat.le_of_ble_eq_true h9;have:listed.getD e.on false=listed.getD e.on true:=by simp [Array.getD,hs,show e.on<ops.size by omega]
     rw [this,hl e.on (by omega)];simp;omega) _ i k h7 (fun o' ho'=>by rw [ho] at ho';cases ho';exact h3)
    have h10:listed.getD k false=listed.getD k true:=by simp [Array.getD,hs,show k<ops.size by omega]
    rw [h10,hl k (by omega)] at h8;simp at h8
   ·omega
  subst this;refine wpOp_mono (fun a w hw=>ih (i+1) _ a w (by omega) (by omega) (by simpa using hs) (fun j hj=>?_) hw) h;rw [zdc (by omega),hl j hj]
  by_cases hj':j=i
  ·simp [hj']
  ·simp only [if_neg hj',decide_eq_decide];omega
theorem depL_has {ops:Array Oper} {qs:List Pd} {M:Nat→Prop} {n:Nat} {s0:St} {a:Act} {s:St} {L:Lst} (hL:Has M n s0 a s L):
  ∀(es:List Edge),(∀e∈es,Region.binds .any e=true→∀d q,(ops[e.on]?).bind (·.dst)=some d→qs[e.on]?=some q→q.p s (a.eval (.tmp d)))→Has M n s0 a s (depL ops qs es L)
 | [],_=>hL
 | e::r,h=>by
  have ih:=depL_has hL r (fun e' he'=>h e' (by simp [he']));unfold depL;split
  ·rename_i d q hb hd hq
   exact ih.cons d (h e (by simp) hb d q hd hq)
  ·exact ih
theorem lk_none {L:Lst} {d:Nat} (h:(L.map (·.1)).all (fun t=>!Nat.beq t d)=true):lk L d=none:=by
 induction L with
 | nil=>rfl
 | cons x r ih=>
  simp only [List.map_cons,List.all_cons,Bool.and_eq_true,Bool.not_eq_true'] at h;unfold lk;rw [h.1];exact ih h.2
def newL (ops:Array Oper) (qs:List Pd):Nat→Lst→Lst
 | 0,L=>L
 | i+1,L=>match (ops[i]?).bind (·.dst),qs[i]? with
  | some d,some q=>(d,q)::newL ops qs i L
  | _,_=>newL ops qs i L
theorem zfr {ops:Array Oper} {qs:List Pd} {M:Nat→Prop} {n:Nat} {s0:St} {a:Act} {s:St} {L:Lst} (hL:Has M n s0 a s L):
  ∀m,(∀i,i<m→∀d q,(ops[i]?).bind (·.dst)=some d→qs[i]?=some q→q.p s (a.eval (.tmp d)))→Has M n s0 a s (newL ops qs m L)
 | 0,_=>hL
 | m+1,h=>by
  have ih:=zfr hL m (fun i hi=>h i (by omega));unfold newL;split
  ·rename_i d q hd hq
   exact ih.cons d (h m (by omega) d q hd hq)
  ·exact ih
theorem rd_key {P:Program} {ops:Array Oper} {Q:Exit→Act→World→Prop} {M:Nat→Prop} {n:Nat} {s0:St} {s:St} {L:Lst} (m:Nat) (qs:List Pd) (F:List Nat)
  (hok:zdf ops m n (L.map (·.1)) F=true) (hq:qs.length=m) (hm:m≤ops.size)
  (hT:∀i o q,i<m→ops[i]?=some o→qs[i]?=some q→F.contains i=false→T P ops o (depL ops qs o.after.toList L) q)
  (hB:∀a' s',Ex s s'→Has M n s0 a' s' (newL ops qs m L)→wpOps P ops Q (List.range' m (ops.size-m)) a' s'.w):
  ∀(f:Nat) (listed:Array Bool) (a:Act) (s':St),listed.size=ops.size→((List.range ops.size).filter (fun i=>!listed.getD i true)).length=f→Ex s s'→Has M n s0 a s' L →
   (∀i o,listed.getD i false=true→ops[i]?=some o→∀e∈o.after.toList,Region.binds .any e=true→listed.getD e.on false=true)→(∀i,i<ops.size→m≤i→listed.getD i true=false) →
   (∀i,i<m→listed.getD i true=true→∀d q,(ops[i]?).bind (·.dst)=some d→qs[i]?=some q→q.p s' (a.eval (.tmp d)))→(∀i∈F,listed.getD i true=true)→wpAny P .any ops Q f listed a s'.w:=by
 have hok':=hok;unfold zdf at hok';rw [Bool.and_eq_true] at hok';obtain ⟨hF,hok'⟩:=hok';rw [List.all_eq_true] at hok';intro f
 induction f with
 | zero=>
  intro listed a s' hs hc e hL' hcl hn hd hl0;have hall:∀i,i<ops.size→listed.getD i true=true:=by
   intro i hi;have:(List.range ops.size).filter (fun i=>!listed.getD i true)=[]:=List.length_eq_zero_iff.1 hc;rw [List.filter_eq_nil_iff] at this;have:=this i (by simpa using hi);simpa using this
  have hmm:m=ops.size:=by
   rcases Nat.lt_or_ge m ops.size with h | h
   ·have:=hn m h (Nat.le_refl _);rw [hall m h] at this;cases this
   ·omega
  refine zfb hok 0 ops.size listed a s'.w (by omega) (by omega) hs (fun i hi=>by rw [hall i hi];simp [hi]) ?_;have:=hB a s' e (zfr hL' m fun i hi=>hd i hi (hall i (by omega)));rw [hmm] at this;simpa using this
 | succ f ih=>
  intro listed a s' hs hc e hL' hcl hn hd hl0
  by_cases hdone:∀i,i<m→listed.getD i true=true
  ·-- the tail
   have hf:f+1=ops.size-m:=by
    rw [← hc];have h1:(List.range ops.size).filter (fun i=>!listed.getD i true)=List.range' m (ops.size-m):=by
     have e1:List.range ops.size=List.range' 0 m++List.range' m (ops.size-m):=by
      rw [List.range_eq_range',show ops.size=m+(ops.size-m) by omega,← List.range'_append_1];simp
     rw [e1,List.filter_append];have e2:(List.range' 0 m).filter (fun i=>!listed.getD i true)=[]:=by
      rw [List.filter_eq_nil_iff];intro i hi;simp at hi;simp [hdone i hi]
     have e3:(List.range' m (ops.size-m)).filter (fun i=>!listed.getD i true)=List.range' m (ops.size-m):=by
      rw [List.filter_eq_self];intro i hi;simp at hi;simp [hn i (by omega) (by omega)]
     rw [e2,e3,List.nil_append]
    rw [h1];simp
   refine zfb hok (f+1) m listed a s'.w (by omega) (Nat.le_refl _) hs (fun i hi=>?_) ?_
   ·by_cases h:i<m
    ·simp [h,hdone i h]
    ·simp [h,hn i hi (by omega)]
   ·rw [hf];exact hB a s' e (zfr hL' m fun i hi=>hd i hi (hdone i hi))
  ·have hex:∃i,i<m∧listed.getD i true=false:=by
    have h1:=Classical.not_forall.1 hdone;obtain ⟨i,hi⟩:=h1;rw [Classical.not_imp] at hi;exact ⟨i,hi.1,by simpa using hi.2⟩
   have hlow:∀i,i∈Region.ready .any ops listed→i<m:=by
    intro i hi;obtain ⟨h1,h2,o,ho,h3⟩:=zcs.1 hi;rcases Nat.lt_or_ge i m with h | h
    ·exact h
    ·exfalso;obtain ⟨k,hk,hkl⟩:=hex;have h5:=hok' i (by simpa using h1);simp only [ho,Bool.and_eq_true] at h5;have h6:=h5.2;rw [if_neg (by omega),List.all_eq_true] at h6;have h7:=h6 k (by simp;omega);have hkF:F.contains k=false:=by
      cases hc':F.contains k
      ·rfl
      ·have:=hl0 k (by simpa using hc');rw [this] at hkl;cases hkl
     rw [hkF,Bool.false_or] at h7;have h8:=zea (ops:=ops) (p:=fun j=>listed.getD j false=true) hcl _ i k h7 (fun o' ho'=>by rw [ho] at ho';cases ho';exact h3);have h10:listed.getD k false=listed.getD k true:=by simp [Array.getD,hs,show k<ops.size by omega]
     rw [h10,hkl] at h8;cases h8
   refine ⟨fun hnil=>?_,fun i hi=>?_⟩
   ·-- the least that isn't done is ready
    exfalso;obtain ⟨k,hk,hmin⟩:=exists_least (p:=fun i=>i<m∧listed.getD i true=false) hex;obtain ⟨o,ho⟩:∃o,ops[k]?=some o:=⟨ops[k]'(by omega),by simp⟩;have:k∈Region.ready .any ops listed:=by
     refine zcs.2 ⟨by omega,hk.2,o,ho,fun e he hb=>?_⟩;have h5:=hok' k (by simp;omega);simp only [ho,Bool.and_eq_true] at h5;have h1:=List.all_eq_true.1 h5.1 e he;simp only [hb,Bool.not_true,Bool.false_or] at h1;have h2:e.on<k:=Nat.le_of_ble_eq_true h1;have h4:listed.getD e.on false=listed.getD e.on true:=by simp [Array.getD,hs,show e.on<ops.size by omega]
     rw [h4]
     by_cases h6:listed.getD e.on true=true
     ·exact h6
     ·have:=hmin e.on ⟨by omega,by simpa using h6⟩;omega
    rw [hnil] at this;simp at this
   ·have him:=hlow i hi;obtain ⟨h1,h2,o,ho,h3⟩:=zcs.1 hi;obtain ⟨q,hqi⟩:∃q,qs[i]?=some q:=⟨qs[i]'(by omega),by simp⟩;have h5:=hok' i (by simpa using h1);have hiF:F.contains i=false:=by
     cases hc':F.contains i
     ·rfl
     ·have:=hl0 i (by simpa using hc');rw [this] at h2;cases h2
    simp only [ho,Bool.and_eq_true,if_pos him,hiF,Bool.false_or] at h5;obtain ⟨d,hdst⟩:∃d,o.dst=some d:=by
     cases hd':o.dst with
     | none=>rw [hd'] at h5;simp at h5
     | some d=>exact ⟨d,rfl⟩
    have h6:=h5.2;rw [hdst] at h6;simp only [Bool.and_eq_true] at h6;have hdep:Has M n s0 a s' (depL ops qs o.after.toList L):=by
     refine depL_has hL' _ fun e' he' hb d' q' hd' hq'=>?_;have h7:=h3 e' he' hb;have h8:=List.all_eq_true.1 h5.1 e' he';simp only [hb,Bool.not_true,Bool.false_or] at h8;have h9:e'.on<i:=Nat.le_of_ble_eq_true h8;have h10:listed.getD e'.on false=listed.getD e'.on true:=by simp [Array.getD,hs,show e'.on<ops.size by omega]
     exact hd e'.on (by omega) (h10 ▸ h7) d' q' hd' hq'
    have hrun:=hT i o q him ho hqi hiF M n s0 a s' hdep Q (wpAny P .any ops Q f (listed.setIfInBounds i true)) ?_
    ·unfold wpOp;simp only [ho]
     by_cases hw:Region.wanted o (yielded ops a.tmps)=true
     ·rw [if_pos hw] at hrun ⊢;exact .inl hrun
     ·rw [if_neg hw] at hrun ⊢;exact hrun
    ·rintro v s'' ⟨e',hq'⟩;have hfresh:lk L d=none:=lk_none h6.1.2;refine ih _ _ s'' (by simpa using hs) ?_ (e.trans e') ?_ ?_ ?_ ?_ ?_
     ·-- one fewer
      have hnd:((List.range ops.size).filter (fun j=>!listed.getD j true)).Nodup:=List.Nodup.sublist List.filter_sublist List.nodup_range;have hmem:i∈(List.range ops.size).filter (fun j=>!listed.getD j true):=List.mem_filter.2 ⟨by simpa using h1,by rw [h2];rfl⟩;have e1:(List.range ops.size).filter (fun j=>!(listed.setIfInBounds i true).getD j true)=((List.range ops.size).filter (fun j=>!listed.getD j true)).filter (fun j=>j != i):=by
       rw [List.filter_filter];refine List.filter_congr fun j hj=>?_;rw [zdc (by omega)]
       by_cases hji:j=i <;> simp [hji]
      rw [e1,← List.Nodup.erase_eq_filter hnd,List.length_erase_of_mem hmem,hc];rfl
     ·have hp:=hL'.put e' (d:=d) h6.1.1 hq';rw [hdst];refine hp.sub fun t q'' hl=>hp.at_ t q'' ?_;unfold lk;have:d≠t:=fun he=>by rw [he] at hfresh;rw [hfresh] at hl;cases hl
      rw [zfh this];exact hl
     ·intro j o' hj ho' e2 he2 hb2;rw [zdc (by omega)] at hj ⊢;split
      ·rfl
      ·by_cases hji:j=i
       ·subst hji;rw [ho] at ho';cases ho';exact h3 e2 he2 hb2
       ·rw [if_neg hji] at hj;exact hcl j o' hj ho' e2 he2 hb2
     ·intro j hj hmj;rw [zdc (by omega),if_neg (by omega)];exact hn j hj hmj
     ·intro j hj hlj d' q'' hd' hq'';rw [hdst]
      by_cases hji:j=i
      ·subst hji;rw [ho,Option.bind_some,hdst] at hd';cases hd';rw [hqi] at hq'';cases hq'';rw [zdx hL'.size h6.1.1];exact hq'
      ·rw [zdc (by omega),if_neg hji] at hlj;have h7:=List.all_eq_true.1 h6.2 j (by simpa using hj);have h8:Nat.beq j i=false:=zfh hji;rw [h8,Bool.false_or,hd'] at h7;have:d≠d':=fun he=>by simp [he] at h7
       rw [ze1 this];exact Pd.ex e' (hd j hj hlj d' q'' hd' hq'')
     ·intro j hj;rw [zdc (by omega)];split
      ·rfl
      ·exact hl0 j hj
theorem rd {P:Program} {id:Nat} {ops:Array Oper} {Q:Exit→Act→World→Prop} {M:Nat→Prop} {n:Nat} {s0:St} {a:Act} {s:St} {L:Lst} (hf:P.follows .mixedOrders=true) (m:Nat) (qs:List Pd)
  (hL:Has M n s0 a s L) (hok:zdf ops m n (L.map (·.1)) []=true) (hq:qs.length=m) (hm:m≤ops.size)
  (hT:∀i o q,i<m→ops[i]?=some o→qs[i]?=some q→T P ops o (depL ops qs o.after.toList L) q)
  (hB:∀a' s',Ex s s'→Has M n s0 a' s' (newL ops qs m L)→wpOps P ops Q (List.range' m (ops.size-m)) a' s'.w):(Code.region id ops true).wp P Q a s.w:=by
 refine wp_region_any hf ?_;have:=rd_key m qs [] hok hq hm (fun i o q h1 h2 h3 _=>hT i o q h1 h2 h3) hB ops.size (Array.replicate ops.size false) a ⟨{ s.w with drawn:=s.w.drawn+1 },s.X,s.lt⟩ (by simp) ?_ ⟨⟨DR.succ rfl,rfl,rfl,rfl,Nat.le_refl _,fun _ _ _=>rfl,fun _ h=>h.elim,fun _ h=>.inl h⟩,fun _ h=>h⟩ ?_ ?_ ?_ ?_ (fun i h=>by cases h)
 ·exact this
 ·rw [List.filter_eq_self.2]
  ·simp
  ·intro i hi;simp at hi;simp [hi]
 ·exact hL.ex ⟨⟨DR.succ rfl,rfl,rfl,rfl,Nat.le_refl _,fun _ _ _=>rfl,fun _ h=>h.elim,fun _ h=>.inl h⟩,fun _ h=>h⟩
 ·intro i o h;simp [Array.getD] at h
 ·intro i hi _;simp [hi]
 ·intro i hi h;simp [show i<ops.size by omega] at h
end
end Go.Proofs.YtamjkbneebghmaaDoor.V
namespace Go.Proofs.YtamjkbneebghmaaDoor.V
open Go
set_option linter.unusedVariables false
section
variable {u : Bool} [Dr u]
def zcz (s:St):Nat→Prop:=fun b=>b<s.w.heap.size∧¬ s.X b
def Same (S:Nat→Prop) (w w':World):Prop:=∀b,S b→w'.heap[b]?=w.heap[b]?
structure En (α:Type) where
 sz:Nat
 agg:Bool
 R:World→(Nat→Prop)→List Value→α→Prop
 sc:agg=false→sz=1
 pos:0<sz
 len:∀{w S cs x},R w S cs x→cs.length=sz
 one:∀{w S cs x},R w S cs x→∀u∈cs,u.oneCell'=true
 mono:∀{w S S' cs x},(∀b,S b→S' b)→R w S cs x→R w S' cs x
 move:∀{w w' S cs x},Same S w w'→R w S cs x→R w' S cs x
def En.val {α:Type} (E:En α) (cs:List Value):Value:=bif E.agg then .agg cs.toArray else cs.headD undef
theorem En.val_cells {α:Type} {E:En α} {w S cs x} (h:E.R w S cs x):(E.val cs).cells=cs.toArray:=by
 unfold En.val;cases ha:E.agg
 ·have hl:=E.len h;rw [E.sc ha] at hl
  match cs,hl with
  | [u],_=>
   have h1:=E.one h u (by simp);simp only [cond_false,List.headD_cons];cases u <;> first | rfl | simp [Value.oneCell'] at h1
 ·rfl
theorem En.go {α:Type} (E:En α) {T:Nat→Prop} {s s':St} {cs:List Value} {x:α} (h:Mv T s s') (hR:E.R s.w (zcz s) cs x):E.R s'.w (zcz s') cs x:=
 E.mono (fun b hb=>⟨Nat.lt_of_lt_of_le hb.1 h.size,fun hx=>(h.xx b hx).elim hb.2 (fun hk=>by have:=hb.1;omega)⟩)
  (E.move (fun b hb=>h.blk b hb.1 (fun ht=>hb.2 (h.tx b ht))) hR)
def Pd.rep {α:Type} (E:En α) (x:α):Pd:=
 ⟨fun s v=>∃cs,v=E.val cs∧E.R s.w (zcz s) cs x,fun _=>False,fun h _ ⟨cs,hv,hR⟩=>⟨cs,hv,E.go h hR⟩⟩
def zbx (w:World) (b o:Nat) (cs:List Value):Prop:=∀j u,cs[j]?=some u→w.cell? ⟨b,o+j,none⟩=some u
theorem zbx.same {w w':World} {b o:Nat} {cs:List Value} (h:zbx w b o cs) (hb:w'.heap[b]?=w.heap[b]?):zbx w' b o cs:=
 fun j u hu=>by rw [World.cell?_of_block (w:=w) hb];exact h j u hu
theorem zd4 (b o j:Nat):(⟨b,o,none⟩:Addr).add j=⟨b,o+j,none⟩:=by unfold Addr.add;split <;> simp_all
def Pd.ptr {α:Type} (E:En α) (x:α):Pd:=
 ⟨fun s v=>∃b o cs,v = .pointer (some ⟨b,o,none⟩)∧zcz s b∧zbx s.w b o cs∧E.R s.w (zcz s) cs x,fun _=>False,
  fun {T s s' v} h _ ⟨b,o,cs,hv,hb,hc,hR⟩=>⟨b,o,cs,hv,
   ⟨Nat.lt_of_lt_of_le hb.1 h.size,fun hx=>(h.xx b hx).elim hb.2 (fun hk=>by have:=hb.1;omega)⟩,
   hc.same (h.blk b hb.1 (fun ht=>hb.2 (h.tx b ht))),E.go h hR⟩⟩
def Pd.optr {α:Type} (E:En α) (N:Nat) (og:Option Nat) (o:Nat) (x:α):Pd:=
 ⟨fun s v=>∃g,og=some g∧v = .pointer (some ⟨g,o,none⟩)∧N≤g∧g<s.w.heap.size∧s.X g∧∃cs,zbx s.w g o cs∧E.R s.w (zcz s) cs x,fun b=>og=some b,
  fun {T s s' v} h hb ⟨g,ho,hv,hN,hg,hx,cs,hc,hR⟩=>⟨g,ho,hv,hN,Nat.lt_of_lt_of_le hg h.size,(hb g ho).2 hx,cs,hc.same (h.blk g hg (hb g ho).1),E.go h hR⟩⟩
def Pd.box {α:Type} (E:En α) (N g:Nat) (x:α):Pd:=
 ⟨fun s v=>v = .pointer (some ⟨g,0,none⟩)∧N≤g∧s.X g∧∃cs t,s.w.heap[g]?=some (.cells cs.toArray t (0,0))∧E.R s.w (zcz s) cs x,fun b=>b=g,
  fun {T s s' v} h hb ⟨hv,hN,hx,cs,t,hc,hR⟩=>⟨hv,hN,(hb g rfl).2 hx,cs,t,by
   rw [h.blk g (Array.getElem?_eq_some_iff.1 hc).1 (hb g rfl).1];exact hc,E.go h hR⟩⟩
def InR (k:IntKind) (x:Int):Prop:=k.min≤x∧x≤k.max
instance (k : IntKind) (x : Int) : Decidable (InR k x):=by unfold InR; infer_instance
def En.int (k:IntKind):En Int where
 sz:=1
 agg:=false
 R:=fun _ _ cs x=>cs=[.int k x]∧InR k x
 sc:=fun _=>rfl
 pos:=Nat.one_pos
 len:=by rintro _ _ _ _ ⟨rfl,_⟩;rfl
 one:=by rintro _ _ _ _ ⟨rfl,_⟩ u hu;simp at hu;subst hu;rfl
 mono:=fun _ h=>h
 move:=fun _ h=>h
def En.bool:En Bool where
 sz:=1
 agg:=false
 R:=fun _ _ cs x=>cs=[.bool x]
 sc:=fun _=>rfl
 pos:=Nat.one_pos
 len:=by rintro _ _ _ _ rfl;rfl
 one:=by rintro _ _ _ _ rfl u hu;simp at hu;subst hu;rfl
 mono:=fun _ h=>h
 move:=fun _ h=>h
abbrev Str:=List UInt8
def En.str:En Str where
 sz:=1
 agg:=false
 R:=fun _ _ cs x=>cs=[.string ⟨x.toArray⟩]∧x.length≤9223372036854775807
 sc:=fun _=>rfl
 pos:=Nat.one_pos
 len:=by rintro _ _ _ _ ⟨rfl,_⟩;rfl
 one:=by rintro _ _ _ _ ⟨rfl,_⟩ u hu;simp at hu;subst hu;rfl
 mono:=fun _ h=>h
 move:=fun _ h=>h
theorem zg {k:IntKind} {x:Int} {s:St} {v:Value}:(Pd.rep (En.int k) x).p s v↔v = .int k x∧InR k x:=
 ⟨fun ⟨_,hv,hc,hr⟩=>by subst hc;exact ⟨hv,hr⟩,fun ⟨hv,hr⟩=>⟨[.int k x],hv,rfl,hr⟩⟩
theorem z8 {x:Bool} {s:St} {v:Value}:(Pd.rep En.bool x).p s v↔v = .bool x:=
 ⟨fun ⟨_,hv,hc⟩=>by cases hc;exact hv,fun hv=>⟨[.bool x],hv,rfl⟩⟩
theorem zby {x:Str} {s:St} {v:Value}:(Pd.rep En.str x).p s v↔v = .string ⟨x.toArray⟩∧x.length≤9223372036854775807:=
 ⟨fun ⟨_,hv,hc,hr⟩=>by subst hc;exact ⟨hv,hr⟩,fun ⟨hv,hr⟩=>⟨[.string ⟨x.toArray⟩],hv,rfl,hr⟩⟩
def Opn (L:Lst) (x:Operand) (q:Pd):Prop:=∀M n s0 a s,Has M n s0 a s L→q.p s (a.eval x)
theorem o_t {L:Lst} (t:Nat) {q:Pd} (h:lk L t=some q):Opn L (.tmp t) q:=fun _ _ _ _ _ hL=>hL.get t h
theorem O {L:Lst}(t:Nat){q:Pd}(h:lk L t=some q):Opn L (.tmp t) q:=o_t t h
theorem o_c {L:Lst} {v:Value} {q:Pd} (h:∀s,q.p s v):Opn L (.const v) q:=fun _ _ _ _ s _=>h s
theorem o_i {L:Lst} {k:IntKind} {x:Int} (h:InR k x):Opn L (.const (.int k x)) (Pd.rep (En.int k) x):=o_c fun _=>zg.2 ⟨rfl,h⟩
theorem oI {L:Lst}{x:Int}(h:InR .i64 x:=by decide):Opn L (.const (.int .i64 x)) (Pd.rep (En.int .i64) x):=o_i h
abbrev Pi (x:Int):Pd:=Pd.rep (En.int .i64) x
theorem o_b {L:Lst} {x:Bool}:Opn L (.const (.bool x)) (Pd.rep En.bool x):=o_c fun _=>z8.2 rfl
theorem o_s {L:Lst} {x:Str} (h:x.length≤9223372036854775807):Opn L (.const (.string ⟨x.toArray⟩)) (Pd.rep En.str x):=o_c fun _=>zby.2 ⟨rfl,h⟩
section
variable {P : Program} {ops : Array Oper} {o : Oper} {L : Lst}
theorem T.mk {q:Pd} (hg:o.guard=none) (h:∀M n s0 a s,Has M n s0 a s L→∃v s',(execOp a.eval o).run P s.w = .ok (.value v) s'.w∧Ex s s'∧q.p s' v):T P ops o L q:=
 fun M n s0 a s hL=>by
  obtain ⟨v,s',h1,h2,h3⟩:=h M n s0 a s hL;exact OpR.of_run hg h1 ⟨h2,h3⟩
theorem T.pure {q:Pd} (hg:o.guard=none) (h:∀M n s0 a s,Has M n s0 a s L→∃v,(execOp a.eval o).run P s.w = .ok (.value v) s.w∧q.p s v):T P ops o L q:=
 T.mk hg fun M n s0 a s hL=>let ⟨v,h1,h2⟩:=h M n s0 a s hL;⟨v,s,h1,Ex.refl s,h2⟩
theorem zbl {x:Operand} {q:Pd} (h:Opn L x q) (ho:o.op = .move x) (hg:o.guard=none):T P ops o L q:=
 T.pure hg fun M n s0 a s hL=>⟨a.eval x,by unfold execOp;rw [ho];rfl,h M n s0 a s hL⟩
theorem zu {x:Operand} {q:Pd} (h:Opn L x q) (ho:o.op = .assign x) (hg:o.guard=none):T P ops o L q:=
 T.pure hg fun M n s0 a s hL=>⟨a.eval x,by unfold execOp;rw [ho];rfl,h M n s0 a s hL⟩
theorem zfi {k:IntKind} {x:Int} (h:InR k x):k.wrap x=x:=by
 unfold InR at h;cases k <;> simp [IntKind.min,IntKind.max,IntKind.signed,IntKind.bits] at h <;> simp [IntKind.wrap,IntKind.signed,IntKind.bits] <;> omega
theorem wrap_inR (k:IntKind) (x:Int):InR k (k.wrap x):=by
 unfold InR;cases k <;> simp [IntKind.min,IntKind.max,IntKind.signed,IntKind.bits,IntKind.wrap] <;> omega
theorem t_arith {k:IntKind} {x y:Operand} {a b:Int} (op:BinOp) (f:Int→Int→Int) (hf:∀a b,(Op.intArith op k a b:Sem Value)=Pure.pure (.int k (k.wrap (f a b)))) (hop:op = .add∨op = .sub∨op = .mul)
  (hx:Opn L x (Pd.rep (En.int k) a)) (hy:Opn L y (Pd.rep (En.int k) b)) (hr:InR k (f a b)) {t u:TypeId} (ho:o.op = .binOp op t x y u) (hg:o.guard=none):
  T P ops o L (Pd.rep (En.int k) (f a b)):=
 T.pure hg fun M n s0 ac s hL=>by
  have h1:=(zg.1 (hx M n s0 ac s hL)).1;have h2:=(zg.1 (hy M n s0 ac s hL)).1;refine ⟨.int k (f a b), ?_,zg.2 ⟨rfl,hr⟩⟩;unfold execOp;rw [ho];simp only [h1,h2];rcases hop with rfl | rfl | rfl <;> simp [eqGuard,binOp,hf,zfi hr]
theorem t_add {k:IntKind} {x y:Operand} {a b:Int} (hx:Opn L x (Pd.rep (En.int k) a)) (hy:Opn L y (Pd.rep (En.int k) b)) (hr:InR k (a+b)) {t u:TypeId} (ho:o.op = .binOp .add t x y u) (hg:o.guard=none):
  T P ops o L (Pd.rep (En.int k) (a+b)):=t_arith .add (· + ·) (fun _ _=>rfl) (.inl rfl) hx hy hr ho hg
theorem t_sub {k:IntKind} {x y:Operand} {a b:Int} (hx:Opn L x (Pd.rep (En.int k) a)) (hy:Opn L y (Pd.rep (En.int k) b)) (hr:InR k (a-b)) {t u:TypeId} (ho:o.op = .binOp .sub t x y u) (hg:o.guard=none):
  T P ops o L (Pd.rep (En.int k) (a-b)):=t_arith .sub (· - ·) (fun _ _=>rfl) (.inr (.inl rfl)) hx hy hr ho hg
theorem t_mul {k:IntKind} {x y:Operand} {a b:Int} (hx:Opn L x (Pd.rep (En.int k) a)) (hy:Opn L y (Pd.rep (En.int k) b)) (hr:InR k (a*b)) {t u:TypeId} (ho:o.op = .binOp .mul t x y u) (hg:o.guard=none):
  T P ops o L (Pd.rep (En.int k) (a*b)):=t_arith .mul (· * ·) (fun _ _=>rfl) (.inr (.inr rfl)) hx hy hr ho hg
theorem t_cmp {k:IntKind} {x y:Operand} {a b:Int} (op:BinOp) (f:Int→Int→Bool) (hf:(fun a b=>(Op.intCmp op a b:Sem Value))=fun a b=>Pure.pure (.bool (f a b)))
  (hop:op = .lss∨op = .leq∨op = .gtr∨op = .geq∨op = .eql∨op = .neq)
  (hx:Opn L x (Pd.rep (En.int k) a)) (hy:Opn L y (Pd.rep (En.int k) b)) {t u:TypeId} (ho:o.op = .binOp op t x y u) (hg:o.guard=none):
  T P ops o L (Pd.rep En.bool (f a b)):=
 T.pure hg fun M n s0 ac s hL=>by
  have h1:=(zg.1 (hx M n s0 ac s hL)).1;have h2:=(zg.1 (hy M n s0 ac s hL)).1;have hf':(Op.intCmp op a b:Sem Value)=Pure.pure (.bool (f a b)):=congrFun (congrFun hf a) b;refine ⟨.bool (f a b), ?_,z8.2 rfl⟩;unfold execOp;rw [ho];simp only [h1,h2];rcases hop with rfl | rfl | rfl | rfl | rfl | rfl <;> simp [eqGuard,binOp,hf']
theorem t_lss {k:IntKind} {x y:Operand} {a b:Int} (hx:Opn L x (Pd.rep (En.int k) a)) (hy:Opn L y (Pd.rep (En.int k) b)) {t u:TypeId} (ho:o.op = .binOp .lss t x y u) (hg:o.guard=none):
  T P ops o L (Pd.rep En.bool (decide (a<b))):=t_cmp .lss (fun a b=>decide (a<b)) rfl (.inl rfl) hx hy ho hg
theorem t_leq {k:IntKind} {x y:Operand} {a b:Int} (hx:Opn L x (Pd.rep (En.int k) a)) (hy:Opn L y (Pd.rep (En.int k) b)) {t u:TypeId} (ho:o.op = .binOp .leq t x y u) (hg:o.guard=none):
  T P ops o L (Pd.rep En.bool (decide (a≤b))):=t_cmp .leq (fun a b=>decide (a≤b)) rfl (.inr (.inl rfl)) hx hy ho hg
theorem t_gtr {k:IntKind} {x y:Operand} {a b:Int} (hx:Opn L x (Pd.rep (En.int k) a)) (hy:Opn L y (Pd.rep (En.int k) b)) {t u:TypeId} (ho:o.op = .binOp .gtr t x y u) (hg:o.guard=none):
  T P ops o L (Pd.rep En.bool (decide (b<a))):=t_cmp .gtr (fun a b=>decide (b<a)) rfl (.inr (.inr (.inl rfl))) hx hy ho hg
theorem t_geq {k:IntKind} {x y:Operand} {a b:Int} (hx:Opn L x (Pd.rep (En.int k) a)) (hy:Opn L y (Pd.rep (En.int k) b)) {t u:TypeId} (ho:o.op = .binOp .geq t x y u) (hg:o.guard=none):
  T P ops o L (Pd.rep En.bool (decide (b≤a))):=t_cmp .geq (fun a b=>decide (b≤a)) rfl (.inr (.inr (.inr (.inl rfl)))) hx hy ho hg
theorem t_eqi {k:IntKind} {x y:Operand} {a b:Int} (hx:Opn L x (Pd.rep (En.int k) a)) (hy:Opn L y (Pd.rep (En.int k) b)) {t u:TypeId} (ho:o.op = .binOp .eql t x y u) (hg:o.guard=none):
  T P ops o L (Pd.rep En.bool (a==b)):=t_cmp .eql (fun a b=>a==b) rfl (.inr (.inr (.inr (.inr (.inl rfl))))) hx hy ho hg
theorem t_nei {k:IntKind} {x y:Operand} {a b:Int} (hx:Opn L x (Pd.rep (En.int k) a)) (hy:Opn L y (Pd.rep (En.int k) b)) {t u:TypeId} (ho:o.op = .binOp .neq t x y u) (hg:o.guard=none):
  T P ops o L (Pd.rep En.bool (a != b)):=t_cmp .neq (fun a b=>a != b) rfl (.inr (.inr (.inr (.inr (.inr rfl))))) hx hy ho hg
theorem t_not {x:Operand} {a:Bool} (hx:Opn L x (Pd.rep En.bool a)) {t:TypeId} (ho:o.op = .unOp .not t x) (hg:o.guard=none):T P ops o L (Pd.rep En.bool (!a)):=
 T.pure hg fun M n s0 ac s hL=>by
  have h1:=z8.1 (hx M n s0 ac s hL);refine ⟨.bool (!a), ?_,z8.2 rfl⟩;unfold execOp;rw [ho];simp [h1,Op.unary]
theorem t_eqb {x y:Operand} {a b:Bool} (hx:Opn L x (Pd.rep En.bool a)) (hy:Opn L y (Pd.rep En.bool b)) {t u:TypeId} (hu:P.underlying t=some .bool) (ho:o.op = .binOp .eql t x y u) (hg:o.guard=none):
  T P ops o L (Pd.rep En.bool (a==b)):=
 T.pure hg fun M n s0 ac s hL=>by
  have h1:=z8.1 (hx M n s0 ac s hL);have h2:=z8.1 (hy M n s0 ac s hL);refine ⟨.bool (a==b), ?_,z8.2 rfl⟩;unfold execOp;rw [ho];have:=run_equal_bool (P:=P) s.w t a b hu;simp [h1,h2,eqGuard,binOp,this]
structure Ty {α:Type} (P:Program) (t:TypeId) (E:En α):Prop where
 info:∃i z,P.info? t=some i∧i.size=E.sz∧i.zero=some z∧z.cells.size=E.sz∧i.bytes≤65536
 agg:∃d,P.underlying t=some d∧(match d with | .struct _ | .array _ _=>true | _=>false)=E.agg
theorem run_isAgg {α:Type} {t:TypeId} {E:En α} (h:Ty P t E) (w:World):(isAgg t).run P w = .ok E.agg w:=by
 obtain ⟨d,hd,he⟩:=h.agg;unfold isAgg;simp only [Sem.run_bind,run_underlying hd,Result.andThen_ok];rw [← he];cases d <;> rfl
theorem zbp {α:Type} {t:TypeId} {E:En α} (h:Ty P t E) (w:World):(sizeOf t).run P w = .ok E.sz w:=by
 obtain ⟨i,z,hi,he,_⟩:=h.info;simp [sizeOf,typeInfo,hi,he]
theorem zbs {α:Type} {t:TypeId} {E:En α} (h:Ty P t E) {w w':World} {S:Nat→Prop} {cs:List Value} {x:α} (hR:E.R w' S cs x) {b o:Nat} (hc:zbx w b o cs):
  (loadVar t ⟨b,o,none⟩).run P w = .ok (E.val cs) w:=by
 unfold loadVar;simp only [Sem.run_bind,run_isAgg h,Result.andThen_ok];have hl:=E.len hR;cases ha:E.agg
 ·have h1:=E.sc ha;rw [h1] at hl
  match cs,hl with
  | [u],_=>
   have:=hc 0 u rfl;simp [En.val,ha,show w.cell? ⟨b,o,none⟩=some u from this]
 ·simp only [if_true,Sem.run_bind,zbp h,Result.andThen_ok];have:(loadCells ⟨b,o,none⟩ E.sz).run P w = .ok cs.toArray w:=by
   rw [← hl];exact run_loadCells_list w ⟨b,o,none⟩ cs (fun j v hv=>by rw [zd4];exact hc j v hv)
  simp [this,En.val,ha]
theorem zce {α:Type} {E:En α} {x:α} {y:Operand} {t:TypeId} (ht:Ty P t E) (hy:Opn L y (Pd.ptr E x)) (ho:o.op = .load t y) (hg:o.guard=none):T P ops o L (Pd.rep E x):=
 T.pure hg fun M n s0 ac s hL=>by
  obtain ⟨b,off,cs,hv,hb,hc,hR⟩:=hy M n s0 ac s hL;refine ⟨E.val cs, ?_,cs,rfl,hR⟩;unfold execOp;rw [ho];simp [hv,Instr.loadAt,Instr.sureAddr,zbs ht hR hc]
theorem t_loado {α:Type} {E:En α} {x:α} {y:Operand} {t:TypeId} {N off:Nat} {og:Option Nat} (ht:Ty P t E) (hy:Opn L y (Pd.optr E N og off x)) (ho:o.op = .load t y) (hg:o.guard=none):T P ops o L (Pd.rep E x):=
 T.pure hg fun M n s0 ac s hL=>by
  obtain ⟨g,_,hv,_,_,_,cs,hc,hR⟩:=hy M n s0 ac s hL;refine ⟨E.val cs, ?_,cs,rfl,hR⟩;unfold execOp;rw [ho];simp [hv,Instr.loadAt,Instr.sureAddr,zbs ht hR hc]
theorem zba {w:World} {g:Nat} {cs:List Value} {t:TypeId} {fr:Nat × Nat} (h:w.heap[g]?=some (.cells cs.toArray t fr)):zbx w g 0 cs:=
 fun j u hu=>by rw [Nat.zero_add,cell_of_row w g j cs.toArray t fr h];simpa using hu
theorem t_loadb {α:Type} {E:En α} {x:α} {y:Operand} {t:TypeId} {N g:Nat} (ht:Ty P t E) (hy:Opn L y (Pd.box E N g x)) (ho:o.op = .load t y) (hg:o.guard=none):T P ops o L (Pd.rep E x):=
 T.pure hg fun M n s0 ac s hL=>by
  obtain ⟨hv,_,_,cs,t',hc,hR⟩:=hy M n s0 ac s hL;refine ⟨E.val cs, ?_,cs,rfl,hR⟩;unfold execOp;rw [ho];simp [hv,Instr.loadAt,Instr.sureAddr,zbs ht hR (zba hc)]
theorem run_conv {k k':IntKind} {t u:TypeId} {x:Int} (ht:P.underlying t=some (.int k)) (hu:P.underlying u=some (.int k')) (w:World):(convert t u (.int k x)).run P w = .ok (.int k' (k'.wrap x)) w:=by
 simp [convert,run_underlying ht,run_underlying hu,go_sem]
theorem t_u8 {k:IntKind} {x:Int} {y:Operand} {t u:TypeId} (hy:Opn L y (Pd.rep (En.int k) x)) (ht:P.underlying t=some (.int k)) (hu:P.underlying u=some (.int .u8)) (ho:o.op = .convert t u y) (hg:o.guard=none):T P ops o L (Pd.rep (En.int .u8) (x % 256)):=
 T.pure hg fun M n s0 ac s hL=>by
  have h1:=(zg.1 (hy M n s0 ac s hL)).1;refine ⟨.int .u8 (x % 256), ?_,zg.2 ⟨rfl, ?_⟩⟩
  ·unfold execOp;rw [ho];have:=run_conv (k:=k) (k':=.u8) (x:=x) ht hu s.w;simp only [h1,Sem.run_bind,this,Result.andThen_ok,Sem.run_pure];simp [IntKind.wrap,IntKind.signed,IntKind.bits]
  ·simp [InR,IntKind.min,IntKind.max,IntKind.signed,IntKind.bits];omega
theorem t_up {k k':IntKind} {x:Int} {y:Operand} {t u:TypeId} (hy:Opn L y (Pd.rep (En.int k) x)) (hk:k'.min≤k.min∧k.max≤k'.max) (ht:P.underlying t=some (.int k)) (hu:P.underlying u=some (.int k')) (ho:o.op = .convert t u y) (hg:o.guard=none):
  T P ops o L (Pd.rep (En.int k') x):=
 T.pure hg fun M n s0 ac s hL=>by
  obtain ⟨h1,h2⟩:=zg.1 (hy M n s0 ac s hL);have hr:InR k' x:=⟨Int.le_trans hk.1 h2.1,Int.le_trans h2.2 hk.2⟩;refine ⟨.int k' x, ?_,zg.2 ⟨rfl,hr⟩⟩;unfold execOp;rw [ho];have:=run_conv (k:=k) (k':=k') (x:=x) ht hu s.w;simp only [h1,Sem.run_bind,this,Result.andThen_ok,Sem.run_pure,zfi hr]
theorem t_g {c0:Prop} {b want:Bool} {j d:Nat} {q:Pd} (hg:o.guard=some (j,want)) (hj:(ops[j]?).bind (·.dst)=some d) (hl:lk L d=some (Pd.when c0 (Pd.rep En.bool b))) (h:c0∧b=want→T P ops { o with guard:=none } L q):
  T P ops o L (Pd.when (c0∧b=want) q):=fun M n s0 a s hL Q k hk=>by
 have hd:=hL.get d hl;have hw:Region.wanted o (yielded ops a.tmps)=true↔c0∧b=want:=by
  simp only [Region.wanted,hg];have:yielded ops a.tmps j=match a.eval (.tmp d) with | .bool x=>some x | _=>none:=by
   unfold yielded;cases ho:ops[j]? with
   | none=>rw [ho] at hj;cases hj
   | some oj=>
    rw [ho] at hj;simp only [Option.bind_some] at hj;simp only [hj,Act.eval,Option.bind_some,Array.getD_eq_getD_getElem?];cases a.tmps[d]? with
    | none=>simp [undef]
    | some v=>cases v <;> rfl
  rw [this]
  by_cases h0:c0
  ·rw [z8.1 (hd.1 h0)];simp [h0]
  ·rw [hd.2 h0];simp [h0,undef]
 by_cases hc:c0∧b=want
 ·rw [if_pos (hw.2 hc)];have:=h hc M n s0 a s hL Q k (fun v s' ⟨e,hq⟩=>hk v s' ⟨e,fun _=>hq,fun hn=>absurd hc hn⟩);obtain ⟨dst,op,type,pos,after,guard⟩:=o;exact this
 ·rw [if_neg (fun h=>hc (hw.1 h))];exact hk undef s ⟨Ex.refl s,fun h=>absurd h hc,fun _=>rfl⟩
theorem zdj {b want:Bool} {j d:Nat} {q:Pd} (hg:o.guard=some (j,want)) (hj:(ops[j]?).bind (·.dst)=some d) (hl:lk L d=some (Pd.rep En.bool b)) (h:b=want→T P ops { o with guard:=none } L q):
  T P ops o L (Pd.when (b=want) q):=fun M n s0 a s hL Q k hk=>by
 have hd:=z8.1 (hL.get d hl);have hw:Region.wanted o (yielded ops a.tmps)=true↔b=want:=by
  simp only [Region.wanted,hg];have:yielded ops a.tmps j=match a.eval (.tmp d) with | .bool x=>some x | _=>none:=by
   unfold yielded;cases ho:ops[j]? with
   | none=>rw [ho] at hj;cases hj
   | some oj=>
    rw [ho] at hj;simp only [Option.bind_some] at hj;simp only [hj,Act.eval,Option.bind_some,Array.getD_eq_getD_getElem?];cases a.tmps[d]? with
    | none=>simp [undef]
    | some v=>cases v <;> rfl
  rw [this,hd];simp
 by_cases hc:b=want
 ·rw [if_pos (hw.2 hc)];have:=h hc M n s0 a s hL Q k (fun v s' ⟨e,hq⟩=>hk v s' ⟨e,fun _=>hq,fun hn=>absurd hc hn⟩);obtain ⟨dst,op,type,pos,after,guard⟩:=o;exact this
 ·rw [if_neg (fun h=>hc (hw.1 h))];exact hk undef s ⟨Ex.refl s,fun h=>absurd h hc,fun _=>rfl⟩
theorem o_w {c:Prop} (hc:c) (t:Nat) {q:Pd} (h:lk L t=some (Pd.when c q)):Opn L (.tmp t) q:=fun _ _ _ _ _ hL=>(hL.get t h).1 hc
theorem t_and {x y:Operand} {a b:Bool} (hx:Opn L x (Pd.rep En.bool a)) (hy:a=true→Opn L y (Pd.rep En.bool b)) (ho:o.op = .pick x y (.const (.bool false))) (hg:o.guard=none):T P ops o L (Pd.rep En.bool (a&&b)):=
 T.pure hg fun M n s0 ac s hL=>by
  have h1:=z8.1 (hx M n s0 ac s hL);refine ⟨.bool (a&&b), ?_,z8.2 rfl⟩;unfold execOp;rw [ho];cases a
  ·have hcn:ac.eval (.const (.bool false)) = .bool false:=rfl;simp [h1,asBool,hcn]
  ·have h2:=z8.1 (hy rfl M n s0 ac s hL);simp [h1,h2,asBool]
theorem t_or {x y:Operand} {a b:Bool} (hx:Opn L x (Pd.rep En.bool a)) (hy:a=false→Opn L y (Pd.rep En.bool b)) (ho:o.op = .pick x (.const (.bool true)) y) (hg:o.guard=none):T P ops o L (Pd.rep En.bool (a||b)):=
 T.pure hg fun M n s0 ac s hL=>by
  have h1:=z8.1 (hx M n s0 ac s hL);refine ⟨.bool (a||b), ?_,z8.2 rfl⟩;unfold execOp;rw [ho];cases a
  ·have h2:=z8.1 (hy rfl M n s0 ac s hL);simp [h1,h2,asBool]
  ·have hcn:ac.eval (.const (.bool true)) = .bool true:=rfl;simp [h1,asBool,hcn]
def St.push (s:St) (ob:Obj):St:=⟨s.w.alloc ob,s.X,fun b hb=>Nat.lt_of_lt_of_le (s.lt b hb) (by simp)⟩
theorem Ex.push (s:St) (ob:Obj):Ex s (s.push ob):=
 ⟨⟨DR.eq rfl,rfl,rfl,rfl,by simp [St.push],fun b hb _=>Go.RowKit.Below.heap_alloc s.w ob b hb,fun _ h=>h.elim,fun _ h=>.inl h⟩,fun _ h=>h⟩
end
end
end Go.Proofs.YtamjkbneebghmaaDoor.V
namespace Go.Proofs.YtamjkbneebghmaaDoor.V
open Go
set_option linter.unusedVariables false
section
variable {u : Bool} [Dr u]
def at? {α:Type} (xs:List α) (i:Int):Option α:=if 0≤i then xs[i.toNat]? else none
def Els {α:Type} (E:En α) (w:World) (S:Nat→Prop) (css:List (List Value)) (xs:List α):Prop:=
 css.length=xs.length∧∀(i:Nat) (cs:List Value) (x:α),css[i]?=some cs→xs[i]?=some x→E.R w S cs x
theorem Els.lens {α:Type} {E:En α} {w S css} {xs:List α} (h:Els E w S css xs):∀cs∈css,cs.length=E.sz:=by
 intro cs hcs;obtain ⟨i,hi⟩:=List.getElem?_of_mem hcs;have hlt:i<css.length:=(List.getElem?_eq_some_iff.1 hi).1;have hx:xs[i]?=some (xs[i]'(h.1 ▸ hlt)):=by simp
 exact E.len (h.2 i cs _ hi hx)
theorem zft {css:List (List Value)} {n:Nat} (h:∀cs∈css,cs.length=n):css.flatten.length=css.length*n:=by
 induction css with
 | nil=>simp
 | cons c r ih=>
  simp only [List.flatten_cons,List.length_append,List.length_cons];rw [ih (fun x hx=>h x (by simp [hx])),h c (by simp),Nat.add_mul];omega
theorem flat_get {css:List (List Value)} {n:Nat} (h:∀cs∈css,cs.length=n):∀{i:Nat} {cs:List Value} {j:Nat} {u:Value},css[i]?=some cs→cs[j]?=some u→css.flatten[i*n+j]?=some u:=by
 induction css with
 | nil=>intro i cs j u hi;simp at hi
 | cons c r ih=>
  intro i cs j u hi hj;have hc:c.length=n:=h c (by simp);cases i with
  | zero=>
   simp at hi;subst hi;rw [List.flatten_cons,Nat.zero_mul,Nat.zero_add,List.getElem?_append_left (List.getElem?_eq_some_iff.1 hj).1];exact hj
  | succ i=>
   simp at hi;rw [List.flatten_cons,List.getElem?_append_right (by rw [hc,Nat.succ_mul];omega)];rw [show (i+1)*n+j-c.length=i*n+j by rw [hc,Nat.succ_mul];omega];exact ih (fun x hx=>h x (by simp [hx])) hi hj
def lim:Nat:=9223372036854775807
def SlV {α:Type} (E:En α) (w:World) (S:Nat→Prop) (v:Value) (xs:List α):Prop:=
 ∃ad cap,v = .slice ad xs.length cap∧xs.length≤cap∧(ad=none→cap=0)∧xs.length≤lim ∧
  (xs≠[]→∃b off css,ad=some ⟨b,off,none⟩∧S b∧Els E w S css xs∧zbx w b off css.flatten)
def En.slice {α:Type} (E:En α):En (List α) where
 sz:=1
 agg:=false
 R:=fun w S cs xs=>∃v,cs=[v]∧SlV E w S v xs
 sc:=fun _=>rfl
 pos:=Nat.one_pos
 len:=by rintro _ _ _ _ ⟨v,rfl,_⟩;rfl
 one:=by rintro _ _ _ _ ⟨v,rfl,ad,cap,rfl,_⟩ u hu;simp at hu;subst hu;rfl
 mono:=by
  rintro w S S' cs xs h ⟨v,rfl,ad,cap,hv,h1,h2,h3,h4⟩
  refine ⟨v,rfl,ad,cap,hv,h1,h2,h3,fun hne=>?_⟩
  obtain ⟨b,off,css,e,hb,hE,hc⟩:=h4 hne
  exact ⟨b,off,css,e,h b hb,⟨hE.1,fun i cs x a b=>E.mono h (hE.2 i cs x a b)⟩,hc⟩
 move:=by
  rintro w w' S cs xs h ⟨v,rfl,ad,cap,hv,h1,h2,h3,h4⟩
  refine ⟨v,rfl,ad,cap,hv,h1,h2,h3,fun hne=>?_⟩
  obtain ⟨b,off,css,e,hb,hE,hc⟩:=h4 hne
  exact ⟨b,off,css,e,hb,⟨hE.1,fun i cs x a b=>E.move h (hE.2 i cs x a b)⟩,hc.same (h b hb)⟩
theorem zb1 {α:Type} {E:En α} {xs:List α} {s:St} {v:Value}:(Pd.rep (En.slice E) xs).p s v↔SlV E s.w (zcz s) v xs:=
 ⟨fun ⟨_,hv,u,hc,h⟩=>by subst hc;subst hv;exact h,fun h=>⟨[v],rfl,v,rfl,h⟩⟩
theorem slV_nil {α:Type} (E:En α) (w:World) (S:Nat→Prop):SlV E w S (.slice none 0 0) ([]:List α):=⟨none,0,rfl,Nat.le_refl _,fun _=>rfl,Nat.zero_le _,fun h=>absurd rfl h⟩
def Pd.row {α:Type} (E:En α) (N:Nat) (te:TypeId) (og:Option Nat) (xs:List α):Pd:=
 ⟨fun s v=>v.ownBlock=og∧(∀g,og=some g→s.X g)∧xs.length≤lim∧∃css,Els E s.w (zcz s) css xs∧s.w.ownsRow N te E.sz v xs.length css.flatten,fun b=>og=some b,
  by
   rintro T s s' v h hb ⟨h1,h2,h3,css,h4,h5⟩
   refine ⟨h1,fun g hg=>(hb g hg).2 (h2 g hg),h3,css,⟨h4.1,fun i cs x a b=>E.go h (h4.2 i cs x a b)⟩,h5.1, ?_⟩
   rcases h5.2 with hn | ⟨g,cap,cur,e,hN,hg,rest⟩
   ·exact .inl hn
   ·subst e
    have hog:og=some g:=by rw [← h1];rfl
    refine .inr ⟨g,cap,cur,rfl,hN, ?_,rest⟩
    rw [h.blk g (Array.getElem?_eq_some_iff.1 hg).1 (hb g hog).1];exact hg⟩
theorem own_nil {α:Type} (E:En α) (N:Nat) (te:TypeId) (s:St):(Pd.row E N te none ([]:List α)).p s (.slice none 0 0):=by
 refine ⟨rfl, ?_,Nat.zero_le _,[],⟨rfl, ?_⟩,World.ownsRow_nil _ _ _ _⟩
 ·intro g h;cases h
 ·intro i cs x h;simp at h
theorem own_slV {α:Type} {E:En α} {N:Nat} {te:TypeId} {og:Option Nat} {xs:List α} {s s':St} {v:Value} (h:(Pd.row E N te og xs).p s v) (hw:s'.w=s.w)
  (hX:∀b,s'.X b→s.X b∧og≠some b):SlV E s'.w (zcz s') v xs:=by
 obtain ⟨h1,h2,h3,css,h4,h5⟩:=h;have hf:∀b,zcz s b→zcz s' b:=fun b hb=>⟨by rw [hw];exact hb.1,fun hx=>hb.2 (hX b hx).1⟩;have h4':Els E s'.w (zcz s') css xs:=⟨h4.1,fun i cs x a b=>by rw [hw];exact E.mono hf (h4.2 i cs x a b)⟩;rcases h5.2 with ⟨e,hn⟩ | ⟨g,cap,cur,e,hN,hg,hnc,hcm,hcs,ht⟩
 ·have:xs=[]:=List.eq_nil_of_length_eq_zero hn;subst this;rw [e];exact slV_nil E _ _
 ·subst e;refine ⟨some ⟨g,0,none⟩,cap,rfl,hnc,(fun e=>by cases e),h3,fun _=>⟨g,0,css,rfl,⟨?_,fun hx=>(hX g hx).2 (by rw [← h1];rfl)⟩,h4',fun j u hu=>?_⟩⟩
  ·rw [hw];exact (Array.getElem?_eq_some_iff.1 hg).1
  ·rw [hw,Nat.zero_add,cell_of_row s.w g j cur te (0,0) hg];rw [← ht,List.getElem?_take] at hu;split at hu
   ·simpa using hu
   ·cases hu
section
variable {P : Program} {ops : Array Oper} {o : Oper} {L : Lst}
theorem t_len {α:Type} {E:En α} {xs:List α} {y:Operand} {t te:TypeId} (hy:Opn L y (Pd.rep (En.slice E) xs)) (ht:P.underlying t=some (.slice te)) (ho:o.op = .call { callee:=.builtin .len,args:=#[y],argTypes:=#[t] }) (hg:o.guard=none):
  T P ops o L (Pd.rep (En.int .i64) xs.length):=
 T.pure hg fun M n s0 ac s hL=>by
  obtain ⟨ad,cap,hv,h1,h2,h3,h4⟩:=zb1.1 (hy M n s0 ac s hL);refine ⟨.int .i64 xs.length, ?_,zg.2 ⟨rfl, ?_⟩⟩
  ·unfold execOp;rw [ho];simp [resolve,invoke,builtin,hv,Builtin.len_,run_underlying ht,goInt]
  ·simp only [lim] at h3;simp [InR,IntKind.min,IntKind.max,IntKind.signed,IntKind.bits];omega
theorem t_idx {α:Type} {E:En α} {xs:List α} {e:α} {k:IntKind} {i:Int} {x y:Operand} {t te:TypeId} (hx:Opn L x (Pd.rep (En.slice E) xs)) (hy:Opn L y (Pd.rep (En.int k) i)) (he:at? xs i=some e)
  (ht:P.underlying t=some (.slice te)) (hE:Ty P te E) (ho:o.op = .indexAddr t x y) (hg:o.guard=none):T P ops o L (Pd.ptr E e):=
 T.pure hg fun M n s0 ac s hL=>by
  obtain ⟨ad,cap,hv,h1,h2,h3,h4⟩:=zb1.1 (hx M n s0 ac s hL);have hi:=(zg.1 (hy M n s0 ac s hL)).1;unfold at? at he;split at he
  case isFalse=>cases he
  rename_i h0
  have hlt:i.toNat<xs.length:=(List.getElem?_eq_some_iff.1 he).1;obtain ⟨b,off,css,e1,hb,hEl,hc⟩:=h4 (by intro h;simp [h] at hlt);obtain ⟨cs,hcs⟩:∃cs,css[i.toNat]?=some cs:=⟨css[i.toNat]'(by rw [hEl.1];exact hlt),by simp⟩;refine ⟨.pointer (some ⟨b,off+i.toNat*E.sz,none⟩), ?_,b,off+i.toNat*E.sz,cs,rfl,hb, ?_,hEl.2 _ _ _ hcs he⟩
  ·unfold execOp;rw [ho];simp only [hv,hi,Instr.indexAt,asIntOf,Sem.run_bind,Sem.run_pure,Result.andThen_ok,run_underlying ht,e1];rw [if_pos (by omega)];simp [zbp hE,zd4]
  ·intro j u hu;rw [Nat.add_assoc];exact hc _ u (flat_get hEl.lens hcs hu)
theorem t_idxo {α:Type} {E:En α} {xs:List α} {e:α} {k:IntKind} {i:Int} {N:Nat} {og:Option Nat} {x y:Operand} {t te te':TypeId} (hx:Opn L x (Pd.row E N te' og xs)) (hy:Opn L y (Pd.rep (En.int k) i)) (he:at? xs i=some e)
  (ht:P.underlying t=some (.slice te)) (hE:Ty P te E) (ho:o.op = .indexAddr t x y) (hg:o.guard=none):T P ops o L (Pd.optr E N og (i.toNat*E.sz) e):=
 T.pure hg fun M n s0 ac s hL=>by
  obtain ⟨h1,h2,h3,css,h4,h5⟩:=hx M n s0 ac s hL;have hi:=(zg.1 (hy M n s0 ac s hL)).1;unfold at? at he;split at he
  case isFalse=>cases he
  rename_i h0
  have hlt:i.toNat<xs.length:=(List.getElem?_eq_some_iff.1 he).1;rcases h5.2 with ⟨e',hn⟩ | ⟨g',cap,cur,ev,hN,hgb,hnc,hcm,hcs',htk⟩
  ·omega
  ·have hgg:og=some g':=by rw [← h1,ev];rfl
   obtain ⟨cs,hcs⟩:∃cs,css[i.toNat]?=some cs:=⟨css[i.toNat]'(by rw [h4.1];exact hlt),by simp⟩;refine ⟨.pointer (some ⟨g',i.toNat*E.sz,none⟩), ?_,g',hgg,rfl,hN,(Array.getElem?_eq_some_iff.1 hgb).1,h2 _ hgg,cs, ?_,h4.2 _ _ _ hcs he⟩
   ·unfold execOp;rw [ho];simp only [ev,hi,Instr.indexAt,asIntOf,Sem.run_bind,Sem.run_pure,Result.andThen_ok,run_underlying ht];rw [if_pos (by omega)];simp [zbp hE,zd4]
   ·intro j u hu;have hf:=flat_get h4.lens hcs hu;rw [cell_of_row s.w g' _ cur te' (0,0) hgb];rw [← htk,List.getElem?_take] at hf;split at hf
    ·simpa using hf
    ·cases hf
theorem En.psh {α:Type} (E:En α) {s:St} {ob:Obj} {cs:List Value} {x:α} (h:E.R s.w (zcz s) cs x):E.R (s.push ob).w (zcz (s.push ob)) cs x:=E.go (Ex.push s ob).mv h
theorem ze3 (s:St) (cs:List Value) (t:TypeId):zbx (s.push (.cells cs.toArray t)).w s.w.heap.size 0 cs:=
 zba (w:=(s.push (.cells cs.toArray t)).w) (t:=t) (fr:=(0,0)) (heap_alloc_new s.w _)
theorem t_box {α:Type} {E:En α} {x:α} {y:Operand} {t:TypeId} (hy:Opn L y (Pd.rep E x)) (ho:o.op = .box t y) (hg:o.guard=none):T P ops o L (Pd.ptr E x):=
 T.mk hg fun M n s0 ac s hL=>by
  obtain ⟨cs,hv,hR⟩:=hy M n s0 ac s hL;refine ⟨.pointer (some ⟨s.w.heap.size,0,none⟩),s.push (.cells cs.toArray t), ?_,Ex.push s _,s.w.heap.size,0,cs,rfl,⟨by simp [St.push],fun h=>by have:=s.lt _ h;omega⟩,ze3 s cs t,E.psh hR⟩;unfold execOp;rw [ho];simp only [hv,Instr.box,newVar,newRow,En.val_cells hR,Sem.run_bind,run_newObj,Result.andThen_ok,Sem.run_pure];rfl
end
end
end Go.Proofs.YtamjkbneebghmaaDoor.V
namespace Go.Proofs.YtamjkbneebghmaaDoor.V
open Go
set_option linter.unusedVariables false
section
variable {u : Bool} [Dr u]
structure Ef (T:Nat→Prop) (s s':St):Prop where
 mv:Mv T s s'
 keep:∀b,s.X b→¬ T b→s'.X b
theorem Ef.ex {M T:Nat→Prop} {s0 s s':St} (h:Fr M s0 s) (e:Ef T s s') (hT:∀b,T b→s0.w.heap.size≤b):Fr M s0 s':=
 ⟨⟨h.mv.dr.trans e.mv.dr,e.mv.os.trans h.mv.os,e.mv.tape.trans h.mv.tape,e.mv.output.trans h.mv.output,Nat.le_trans h.mv.size e.mv.size,
  fun b hb hn=>(e.mv.blk b (Nat.lt_of_lt_of_le hb h.mv.size) (fun ht=>by have:=hT b ht;omega)).trans (h.mv.blk b hb hn),h.mv.tx,
  fun b hb=>(e.mv.xx b hb).elim (fun j=>h.mv.xx b j) (fun j=>.inr (Nat.le_trans h.mv.size j))⟩,
  fun b hb=>e.keep b (h.keep b hb) (fun ht=>by have:=hT b ht;have:=s0.lt b hb;omega)⟩
def Kp (T:Nat→Prop) (L L':Lst):Prop:=∀t q,lk L' t=some q→q=Pd.any∨lk L t=some q∧∀b,q.own b→¬ T b
theorem zdh {d:Nat} {q:Pd} {L:Lst} {t:Nat}:lk ((d,q)::L) t=if d=t then some q else lk L t:=by
 rw [lk]
 by_cases h:d=t
 ·subst h;simp
 ·rw [zfh h,if_neg h];rfl
theorem Kp.nil {T:Nat→Prop} {L:Lst}:Kp T L []:=fun t q h=>by cases h
theorem Kp.cons {T:Nat→Prop} {L:Lst} {t:Nat} {q:Pd} {r:Lst} (hl:lk L t=some q) (hq:∀b,q.own b→¬ T b) (hr:Kp T L r):Kp T L ((t,q)::r):=fun d p h=>by
 rw [zdh] at h;split at h
 ·rename_i e;cases h;subst e;exact .inr ⟨hl,hq⟩
 ·exact hr d p h
theorem Kp.k {T:Nat→Prop}{L:Lst}(t:Nat){q:Pd}{r:Lst}(hr:Kp T L r)(hl:lk L t=some q:=by exact rfl)(hq:∀b,q.own b→¬T b:=by exact nE):Kp T L ((t,q)::r):=.cons hl hq hr
theorem Kp.a0 {T:Nat→Prop}:Kp T [] []:=.nil
theorem Kp.ak {T:Nat→Prop} {L L':Lst} {t:Nat} {q:Pd} (hq:∀b,q.own b→¬ T b) (h:Kp T L L'):Kp T ((t,q)::L) ((t,q)::L'):=fun d p e=>by
 rw [zdh] at e ⊢;split at e
 ·rename_i e';cases e;exact .inr ⟨if_pos e',hq⟩
 ·rename_i e';rw [if_neg e'];exact h d p e
theorem Kp.ad {T:Nat→Prop} {L L':Lst} {t:Nat} {q:Pd} (h:Kp T L L'):Kp T ((t,q)::L) ((t,Pd.any)::L'):=fun d p e=>by
 rw [zdh] at e ⊢;split at e
 ·cases e;exact .inl rfl
 ·rename_i e';rw [if_neg e'];exact h d p e
theorem Kp.p {T:Nat→Prop} {L L':Lst} (h:Kp T L L') {s s':St} {a:Act} (hL:∀t q,lk L t=some q→q.p s (a.eval (.tmp t))) (m:∀(q:Pd) v,(∀b,q.own b→¬ T b)→q.p s v→q.p s' v):∀t q,lk L' t=some q→q.p s' (a.eval (.tmp t)):=fun t q hl=>
 (h t q hl).elim (fun e=>by subst e;trivial) fun ⟨h1,h2⟩=>m q _ h2 (hL t q h1)
theorem Has.ef {M:Nat→Prop} {n:Nat} {s0:St} {a:Act} {s s':St} {L L':Lst} {T:Nat→Prop} (h:Has M n s0 a s L) (e:Ef T s s') (hT:∀b,T b→s0.w.heap.size≤b) (hk:Kp T L L'):Has M n s0 a s' L' where
 size:=h.size
 defers:=h.defers
 ent:=e.ex h.ent hT
 gl:=h.gl
 at_:=hk.p h.at_ fun q v h2=>q.mv e.mv fun b hb=>⟨h2 b hb,fun hx=>e.keep b hx (h2 b hb)⟩
theorem Ef.exm {M T:Nat→Prop} {s0 s s':St} (h:Fr M s0 s) (e:Ef T s s') (hT:∀b,T b→M b) (hk:∀b,s.X b→s'.X b):Fr M s0 s':=
 ⟨⟨h.mv.dr.trans e.mv.dr,e.mv.os.trans h.mv.os,e.mv.tape.trans h.mv.tape,e.mv.output.trans h.mv.output,Nat.le_trans h.mv.size e.mv.size,
  fun b hb hn=>(e.mv.blk b (Nat.lt_of_lt_of_le hb h.mv.size) (fun ht=>hn (hT b ht))).trans (h.mv.blk b hb hn),h.mv.tx,
  fun b hb=>(e.mv.xx b hb).elim (fun j=>h.mv.xx b j) (fun j=>.inr (Nat.le_trans h.mv.size j))⟩,fun b hb=>hk b (h.keep b hb)⟩
theorem Has.efm {M:Nat→Prop} {n:Nat} {s0:St} {a:Act} {s s':St} {L L':Lst} {T:Nat→Prop} (h:Has M n s0 a s L) (e:Ef T s s') (hT:∀b,T b→M b) (hX:∀b,s.X b→s'.X b) (hk:Kp T L L'):Has M n s0 a s' L' where
 size:=h.size
 defers:=h.defers
 ent:=e.exm h.ent hT hX
 gl:=h.gl
 at_:=hk.p h.at_ fun q v h2=>q.mv e.mv fun b hb=>⟨h2 b hb,fun hx=>e.keep b hx (h2 b hb)⟩
theorem Has.efw {M:Nat→Prop} {n:Nat} {s0:St} {a:Act} {s s':St} {L L':Lst} {T:Nat→Prop} (h:Has M n s0 a s L) (e:Ef T s s') (hT:(∀b,T b→s0.w.heap.size≤b)∨∀b,T b→M b) (hX:∀b,s.X b→s'.X b) (hk:Kp T L L'):Has M n s0 a s' L':=
 hT.elim (fun hT=>h.ef e hT hk) (fun hT=>h.efm e hT hX hk)
def Kw (T:Nat→Prop) (L:Lst) (q q':Pd) (L':Lst):Prop:=∀t r,lk L' t=some r→(r=Pd.any∨lk L t=some r∧∀b,r.own b→¬ T b)∨r=q'∧lk L t=some q
section
variable {T : Nat → Prop} {L : Lst} {q q' : Pd} {t : Nat} {r : Pd} {l : Lst}
theorem Kw.nil:Kw T L q q' []:=fun t q h=>by cases h
theorem Kw.cons (hl:lk L t=some r) (hq:∀b,r.own b→¬ T b) (hr:Kw T L q q' l):Kw T L q q' ((t,r)::l):=fun d p h=>by
 rw [zdh] at h;split at h
 ·rename_i e;cases h;subst e;exact .inl (.inr ⟨hl,hq⟩)
 ·exact hr d p h
theorem Kw.k {T:Nat→Prop}{L:Lst}{q q':Pd}(t:Nat){r:Pd}{l:Lst}(hr:Kw T L q q' l)(hl:lk L t=some r:=by exact rfl)(hq:∀b,r.own b→¬T b:=by exact nE):Kw T L q q' ((t,r)::l):=.cons hl hq hr
theorem Kw.a0:Kw T [] q q' []:=.nil
theorem Kw.ak (hq:∀b,r.own b→¬ T b) (h:Kw T L q q' l):Kw T ((t,r)::L) q q' ((t,r)::l):=fun d p e=>by
 rw [zdh] at e ⊢;split at e
 ·rename_i e';cases e;exact .inl (.inr ⟨if_pos e',hq⟩)
 ·rename_i e';rw [if_neg e'];exact h d p e
theorem Kw.ad (h:Kw T L q q' l):Kw T ((t,r)::L) q q' ((t,Pd.any)::l):=fun d p e=>by
 rw [zdh] at e ⊢;split at e
 ·cases e;exact .inl (.inl rfl)
 ·rename_i e';rw [if_neg e'];exact h d p e
theorem Kw.aw (h:Kw T L q q' l):Kw T ((t,q)::L) q q' ((t,q')::l):=fun d p e=>by
 rw [zdh] at e ⊢;split at e
 ·rename_i e';cases e;exact .inr ⟨rfl,if_pos e'⟩
 ·rename_i e';rw [if_neg e'];exact h d p e
end
theorem Has.turn {M:Nat→Prop} {n:Nat} {s0:St} {a:Act} {s s':St} {L L':Lst} {T:Nat→Prop} {q q':Pd} (h:Has M n s0 a s L) (e:Ef T s s') (hT:(∀b,T b→s0.w.heap.size≤b)∨∀b,T b→M b) (hX:∀b,s.X b→s'.X b) (hk:Kw T L q q' L')
  (ht:∀v,q.p s v→q'.p s' v):Has M n s0 a s' L':=
 (h.efw e hT hX .nil).sub fun t r hl=>(hk t r hl).elim (fun h1=>h1.elim (fun e=>by subst e;trivial) fun ⟨h1,h2⟩=>r.mv e.mv (fun b hb=>⟨h2 b hb,fun hx=>e.keep b hx (h2 b hb)⟩) (h.at_ t r h1)) fun ⟨h1,h2⟩=>by subst h1;exact ht _ (h.at_ t q h2)
theorem Has.put' {M:Nat→Prop} {n:Nat} {s0:St} {a:Act} {s:St} {L:Lst} (h:Has M n s0 a s L) {d:Nat} (hd:Nat.blt d n=true) {v:Value} {q:Pd} (hq:q.p s v):Has M n s0 (a.put (some d) v) s ((d,q)::L):=h.put (Ex.refl s) hd hq
theorem Has.keep {M:Nat→Prop} {n:Nat} {s0:St} {a:Act} {s:St} {L L':Lst} (h:Has M n s0 a s L) (hk:Kp (fun _=>False) L L'):Has M n s0 a s L':=h.sub (hk.p h.at_ fun _ _ _ h=>h)
theorem Has.freeze {α:Type} {E:En α} {te:TypeId} {og:Option Nat} {xs:List α} {M:Nat→Prop} {n:Nat} {s0:St} {a:Act} {s:St} {L L':Lst} (h:Has M n s0 a s L) (t:Nat) (hl:lk L t=some (Pd.row E s0.w.heap.size te og xs))
  (hk:Kp (fun b=>og=some b) L L'):∃s',s'.w=s.w∧Has M n s0 a s' ((t,Pd.rep (En.slice E) xs)::L'):=by
 have ho:=h.get t hl;have hlt:∀b,og=some b→s0.w.heap.size≤b:=by
  intro b hb;obtain ⟨h1,h2,h3,css,h4,h5⟩:=ho;exact (h5.lt b (by rw [h1];exact hb)).1
 refine ⟨⟨s.w,fun b=>s.X b∧og≠some b,fun b hb=>s.lt b hb.1⟩,rfl, ?_⟩;have e:Ef (fun b=>og=some b) s ⟨s.w,fun b=>s.X b∧og≠some b,fun b hb=>s.lt b hb.1⟩:=
  ⟨⟨DR.eq rfl,rfl,rfl,rfl,Nat.le_refl _,fun _ _ _=>rfl,fun b hb=>ho.2.1 b hb,fun b hb=>.inl hb.1⟩,fun b hb hn=>⟨hb,hn⟩⟩
 exact (h.ef e hlt hk).cons t (zb1.2 (own_slV ho rfl fun b hb=>hb))
section
variable {P : Program} {ops : Array Oper} {o : Oper} {L : Lst}
def spl (cells:List Value) (off:Nat) (cs:List Value):List Value:=cells.take off++cs++cells.drop (off+cs.length)
theorem zfm {cells cs:List Value} {off:Nat} (h:off+cs.length≤cells.length):(spl cells off cs).length=cells.length:=by simp [spl];omega
theorem fill_step {place:Nat→Option (Nat × Nat)} {cells cs:List Value} {v:Value} {i off size:Nat} {rest:List (Nat × Value)} (hp:place i=some (off,size)) (hv:v.cells=cs.toArray) (hs:cs.length=size)
  (hl:off+size≤cells.length):Instr.fill place cells.toArray ((i,v)::rest)=Instr.fill place (spl cells off cs).toArray rest:=by
 conv=>lhs;unfold Instr.fill
 simp only [hp,hv];rw [if_neg (by simp [hs];omega)]
 congr 1
 apply Array.ext_getElem?;intro j;rw [← Array.foldl_toList,Array.toList_zipIdx];have key:∀(l:List Value) (k:Nat) (acc:Array Value),off+k+l.length≤acc.size→(List.foldl (fun cs (x:Value × Nat)=>match x with | (c,j)=>cs.setIfInBounds (off+j) c) acc (l.zipIdx k))[j]?=if off+k≤j∧j<off+k+l.length then l[j-(off+k)]? else acc[j]?:=by
  intro l
  induction l with
  | nil=>intro k acc _;simp;omega
  | cons u r ih=>
   intro k acc hk;simp only [List.zipIdx_cons,List.foldl_cons];rw [ih (k+1) _ (by simp at hk ⊢;omega)]
   by_cases h1:off+(k+1)≤j∧j<off+(k+1)+r.length
   ·rw [if_pos h1,if_pos (by simp;omega),show j-(off+k)=(j-(off+(k+1)))+1 by omega];simp
   ·rw [if_neg h1]
    by_cases h2:j=off+k
    ·subst h2;rw [if_pos (by simp)];simp at hk;simp [show off+k<acc.size by omega]
    ·rw [if_neg (by simp;omega),Array.getElem?_setIfInBounds_ne (Ne.symm h2)]
 rw [key cs 0 cells.toArray (by simp;omega)];simp only [Nat.add_zero,spl,List.getElem?_toArray]
 by_cases h1:j<off
 ·rw [if_neg (by omega),List.append_assoc,List.getElem?_append_left (by simp;omega),List.getElem?_take,if_pos h1]
 ·by_cases h2:j<off+cs.length
  ·rw [if_pos (by omega),List.append_assoc,List.getElem?_append_right (by simp;omega),List.getElem?_append_left (by simp;omega)]
   congr 1;simp;omega
  ·rw [if_neg (by omega),List.getElem?_append_right (by simp;omega),List.getElem?_drop]
   congr 1;simp;omega
inductive OpL {α:Type} (E:En α) (L:Lst):List Operand→List α→Prop
 | nil:OpL E L [] []
 | cons {x:Operand} {e:α} {xs:List Operand} {es:List α}:Opn L x (Pd.rep E e)→OpL E L xs es→OpL E L (x::xs) (e::es)
theorem fill_row {α:Type} {E:En α} {M:Nat→Prop} {n:Nat} {s0:St} {ac:Act} {s:St} {L:Lst} (hL:Has M n s0 ac s L):∀{xs:List Operand} {es:List α},OpL E L xs es→∀(k:Nat) (pre:List Value) (cells:List Value),pre.length=k*E.sz→cells.length=(k+xs.length)*E.sz→cells.take (k*E.sz)=pre →
  ∃css,Els E s.w (zcz s) css es∧Instr.fill (fun i=>some (i*E.sz,E.sz)) cells.toArray ((xs.zipIdx k).map fun (x,i)=>(i,ac.eval x))=some (pre++css.flatten).toArray:=by
 intro xs es h
 induction h with
 | nil=>
  intro k pre cells hp hc ht;refine ⟨[],⟨rfl,by simp⟩, ?_⟩;simp only [List.zipIdx_nil,List.map_nil,Instr.fill,List.flatten_nil,List.append_nil];rw [← ht,List.take_of_length_le (by simp at hc;omega)]
 | cons hx _ ih=>
  rename_i x e xs es _
  intro k pre cells hp hc ht;obtain ⟨cs,hv,hR⟩:=hx M n s0 ac s hL;have hlen:=E.len hR;have hsz:k*E.sz+E.sz≤cells.length:=by rw [hc,← Nat.succ_mul];exact Nat.mul_le_mul_right _ (by simp)
  obtain ⟨css,hE,hf⟩:=ih (k+1) (pre++cs) (spl cells (k*E.sz) cs) (by simp [hp,hlen,Nat.succ_mul]) (by rw [zfm (by omega),hc];congr 1;simp;omega) (by
   rw [spl,ht];rw [List.take_append_of_le_length (by simp [hp,hlen,Nat.succ_mul])];rw [List.take_of_length_le (by simp [hp,hlen,Nat.succ_mul])])
  refine ⟨cs::css,⟨by simp [hE.1], ?_⟩, ?_⟩
  ·intro i c y hi hy;cases i with
   | zero=>simp at hi hy;subst hi;subst hy;exact hR
   | succ i=>simp at hi hy;exact hE.2 i c y hi hy
  ·simp only [List.zipIdx_cons,List.map_cons];rw [fill_step (cs:=cs) (off:=k*E.sz) (size:=E.sz) rfl (by rw [hv];exact En.val_cells hR) hlen hsz,hf];simp
theorem run_lit {α:Type} {E:En α} {t te:TypeId} {xs:List Operand} {es:List α} (hx:OpL E L xs es) (ht:P.underlying t=some (.slice te)) (hE:Ty P te E) {k:Nat} {parts:Array (Nat × Operand)} (hk:k=xs.length) (hp:parts=(xs.zipIdx.map fun (x,i)=>(i,x)).toArray)
  (hs:k*E.sz≤16777216) (ho:o.op = .buildSlice t k parts) {M:Nat→Prop} {n:Nat} {s0:St} {ac:Act} {s:St} (hL:Has M n s0 ac s L):es.length=xs.length∧∃css,Els E s.w (zcz s) css es∧(execOp ac.eval o).run P s.w = .ok (.value (.slice (some ⟨s.w.heap.size,0,none⟩) es.length es.length)) (s.push (.cells css.flatten.toArray te)).w:=by
 obtain ⟨i,z,hi,he,hz,hzs,_⟩:=hE.info;have hlen:es.length=xs.length:=by clear hp hk hs ho;induction hx with | nil=>rfl | cons _ _ ih=>simp [ih]
 have hall:∀zero:Array Value,∃css,Els E s.w (zcz s) css es∧Instr.fill (fun i=>some (i*E.sz,E.sz)) ((Array.range (k*E.sz)).map (zero[· % zero.size]!)) (parts.map fun (i,x)=>(i,ac.eval x)).toList=some css.flatten.toArray:=by
  intro zero;obtain ⟨css,hEl,hf⟩:=fill_row hL hx 0 [] ((Array.range (k*E.sz)).map (zero[· % zero.size]!)).toList (by simp) (by simp [hk]) (by simp)
  refine ⟨css,hEl, ?_⟩;have e1:(parts.map fun (i,x)=>(i,ac.eval x)).toList=(xs.zipIdx 0).map fun (x,i)=>(i,ac.eval x):=by rw [hp];simp
  rw [e1];rw [Array.toArray_toList,List.nil_append] at hf;exact hf
 have hfin:∃css,Els E s.w (zcz s) css es∧(execOp ac.eval o).run P s.w = .ok (.value (.slice (some ⟨s.w.heap.size,0,none⟩) es.length es.length)) (s.push (.cells css.flatten.toArray te)).w:=by
  by_cases h:k*E.sz=0
  ·obtain ⟨css,hEl,hf⟩:=hall #[];refine ⟨css,hEl, ?_⟩;unfold execOp;rw [ho];simp only [Instr.buildSlice,Sem.run_bind,run_underlying ht,Result.andThen_ok,zbp hE];rw [if_neg (by omega),if_pos h];simp only [Sem.run_bind,Sem.run_pure,Result.andThen_ok];rw [hf];simp [newRow,St.push,hlen,hk]
  ·obtain ⟨css,hEl,hf⟩:=hall z.cells;refine ⟨css,hEl, ?_⟩;unfold execOp;rw [ho];simp only [Instr.buildSlice,Sem.run_bind,run_underlying ht,Result.andThen_ok,zbp hE];rw [if_neg (by omega),if_neg h];have hzr:(zeroValue te).run P s.w = .ok z s.w:=by simp [zeroValue,typeInfo,hi,hz]
   simp only [Sem.run_bind,hzr,Sem.run_pure,Result.andThen_ok];rw [hf];simp [newRow,St.push,hlen,hk]
 exact ⟨hlen,hfin⟩
theorem t_lit {α:Type} {E:En α} {t te:TypeId} {xs:List Operand} {es:List α} (hx:OpL E L xs es) (ht:P.underlying t=some (.slice te)) (hE:Ty P te E) {k:Nat} {parts:Array (Nat × Operand)} (hk:k=xs.length) (hp:parts=(xs.zipIdx.map fun (x,i)=>(i,x)).toArray)
  (hs:k*E.sz≤16777216) (ho:o.op = .buildSlice t k parts) (hg:o.guard=none):T P ops o L (Pd.rep (En.slice E) es):=
 T.mk hg fun M n s0 ac s hL=>by
  obtain ⟨hlen,css,hEl,hr⟩:=run_lit hx ht hE hk hp hs ho hL;refine ⟨_,_,hr,Ex.push s _,zb1.2 ⟨some ⟨s.w.heap.size,0,none⟩,es.length,rfl,Nat.le_refl _,(fun h=>by cases h), ?_,fun _=>⟨s.w.heap.size,0,css,rfl,⟨by simp [St.push],fun h=>by have:=s.lt _ h;omega⟩,⟨hEl.1,fun i cs x a b=>E.psh (hEl.2 i cs x a b)⟩,ze3 s _ te⟩⟩⟩;rw [hlen,← hk];have:k≤k*E.sz:=Nat.le_mul_of_pos_right k E.pos;simp only [lim];omega
theorem zfe {α:Type} {E:En α} {N:Nat} {te:TypeId} {og:Option Nat} {xs:List α} {s:St} {v:Value} (h:(Pd.row E N te og xs).p s v):∀b,og=some b→N≤b∧b<s.w.heap.size:=by
 obtain ⟨h1,h2,h3,css,h4,h5⟩:=h;intro b hb;exact h5.lt b (by rw [h1];exact hb)
theorem Els.append {α:Type} {E:En α} {w S css dss} {xs ys:List α} (h:Els E w S css xs) (k:Els E w S dss ys):Els E w S (css++dss) (xs++ys):=by
 refine ⟨by simp [h.1,k.1],fun i cs x hi hx=>?_⟩
 by_cases hlt:i<css.length
 ·rw [List.getElem?_append_left hlt] at hi;rw [List.getElem?_append_left (by rw [← h.1];exact hlt)] at hx;exact h.2 i cs x hi hx
 ·rw [List.getElem?_append_right (by omega)] at hi;rw [List.getElem?_append_right (by rw [← h.1];omega),← h.1] at hx;exact k.2 _ cs x hi hx
theorem Els.go {α:Type} {E:En α} {T:Nat→Prop} {s s':St} {css:List (List Value)} {xs:List α} (h:Mv T s s') (hE:Els E s.w (zcz s) css xs):Els E s'.w (zcz s') css xs:=⟨hE.1,fun i cs x a b=>E.go h (hE.2 i cs x a b)⟩
end
end
section
variable {P : Program} {ops : Array Oper} {o : Oper} {L : Lst}
theorem run_appB {α:Type} {E:En α} {t te:TypeId} (ht:P.underlying t=some (.slice te)) (hE:Ty P te E) {N:Nat} {og:Option Nat} {xs ys:List α} {s:St} {v u:Value} (hv:(Pd.row E N te og xs).p s v) (hu:SlV E s.w (zcz s) u ys)
  (hN:N≤s.w.heap.size) (m:Nat) (hm:0<m) (hbm:∃i,P.info? te=some i∧i.bytes≤m) (hlen:(xs.length+ys.length)*m≤140737488355328) (ty:TypeId):∃v' s' og',(Builtin.append_ #[t,t] ty #[v,u]).run P s.w = .ok v' s'.w∧Ef (fun b=>og=some b) s s'∧(Pd.row E N te og' (xs++ys)).p s' v' ∧
   (∀b,og'=some b→og=some b∨s.w.heap.size≤b):=by
 obtain ⟨i,z,hi,hsz,hz,hzs,_⟩:=hE.info;have hby:i.bytes≤m:=by
  obtain ⟨i',h1,h2⟩:=hbm;rw [hi] at h1;cases h1;exact h2
 have hle:xs.length+ys.length≤140737488355328:=Nat.le_trans (Nat.le_mul_of_pos_right _ hm) hlen;have hby0:(xs.length+ys.length)*i.bytes≤140737488355328:=Nat.le_trans (Nat.mul_le_mul (Nat.le_refl _) hby) hlen;obtain ⟨h1,h2,h3,css,h4,h5⟩:=hv;obtain ⟨ad,cap,rfl,hc1,hc2,hc3,hc4⟩:=hu;clear hlen hm hbm
 by_cases hys:ys=[]
 ·-- nothing is appended
  subst hys
  by_cases had:ad=none
  ·subst had;have hcap:=hc2 rfl;subst hcap;refine ⟨v,s,og,run_append_owned_none (P:=P) (w:=s.w) N t ty te i E.sz ht hi v xs.length css.flatten h5,⟨Mv.refl _ s fun b hb=>h2 b hb,fun b hb _=>hb⟩, ?_,fun b hb=>.inl hb⟩;rw [List.append_nil];exact ⟨h1,h2,h3,css,h4,h5⟩
  ·obtain ⟨a,rfl⟩:∃a,ad=some a:=by cases ad with | none=>exact absurd rfl had | some a=>exact ⟨a,rfl⟩
   obtain ⟨v',w',hr,ho,hg,hnil⟩:=run_append_own (P:=P) s.w N t ty te i z E.sz i.bytes ht hi hz hsz rfl hzs E.pos v xs.length css.flatten h5 a 0 cap [] (by simp) (by simp) (by simp) (by simp [maxLen];omega) (by simpa using hby0) hN;have hvv:v'.ownBlock=v.ownBlock:=by
    rcases h5.2 with ⟨rfl,hn⟩ | ⟨g,cp,cur,rfl,_,hgb,hnc,hcm,hcs,htk⟩
    ·rw [hnil.2 ⟨rfl,rfl⟩]
    ·have hrr:=run_append_room (P:=P) s.w t ty te i ht hi g xs.length cp cur hgb a 0 cap [] (by simp) (by simp) (by simp) (by omega) (by rw [hcs,hsz];simp;exact Nat.mul_le_mul_right _ hnc);rw [hrr] at hr;cases hr;rfl
   have hog:v'.ownBlock=og:=hvv.trans h1;have hmv:Mv (fun b=>og=some b) s ⟨w',s.X,fun b hb=>Nat.lt_of_lt_of_le (s.lt b hb) hg.size⟩:=
    ⟨DR.kit,hg.os,hg.tape,hg.output,hg.size,fun b hb hn=>hg.block b hb (fun e=>hn (by rw [← h1];exact e.symm)),fun b hb=>h2 b hb,fun b hb=>.inl hb⟩
   refine ⟨v',⟨w',s.X,fun b hb=>Nat.lt_of_lt_of_le (s.lt b hb) hg.size⟩,og,hr,⟨hmv,fun b hb _=>hb⟩,⟨hog,h2,by simpa using h3,css,by rw [List.append_nil];exact h4.go hmv,by simpa using ho⟩,fun b hb=>.inl hb⟩
 ·obtain ⟨b,off,dss,rfl,hb,hD,hcell⟩:=hc4 hys;have hpos:0<ys.length:=List.length_pos_iff.2 hys;have hdl:dss.flatten.length=ys.length*E.sz:=by rw [zft hD.lens,hD.1]
  have hone:∀u∈dss.flatten,u.oneCell'=true:=by
   intro u hu;rw [List.mem_flatten] at hu;obtain ⟨cs,hcs,hu⟩:=hu;obtain ⟨j,hj⟩:=List.getElem?_of_mem hcs;have hlt:j<dss.length:=(List.getElem?_eq_some_iff.1 hj).1;exact E.one (hD.2 j cs (ys[j]'(hD.1 ▸ hlt)) hj (by simp)) u hu
  have hby':=hby0;have hnews:∀j u,dss.flatten[j]?=some u→s.w.cell? ((⟨b,off,none⟩:Addr).add j)=some u:=fun j u hu=>by rw [zd4];exact hcell j u hu
  obtain ⟨v',w',hr,ho,hg,hnil⟩:=run_append_own (P:=P) s.w N t ty te i z E.sz i.bytes ht hi hz hsz rfl hzs E.pos v xs.length css.flatten h5 ⟨b,off,none⟩ ys.length cap dss.flatten hdl hnews hone (by simp [maxLen];omega) hby' hN;have hfresh:∀g,v'.ownBlock=some g→og=some g∨s.w.heap.size=g:=by
   intro g hgv;rcases h5.2 with ⟨rfl,hn⟩ | ⟨g',cp,cur,rfl,_,hgb,hnc,hcm,hcs,htk⟩
   ·have hrr:=run_append_nil (P:=P) s.w t ty te i z ht hi hz ⟨b,off,none⟩ ys.length cap dss.flatten (by rw [hsz];exact hdl) hnews hpos (by omega) (by
     have:ys.length*i.bytes≤(xs.length+ys.length)*i.bytes:=Nat.mul_le_mul_right _ (by omega);omega)
    rw [hrr] at hr;cases hr;simp [Value.ownBlock] at hgv;exact .inr hgv
   ·by_cases hroom:xs.length+ys.length≤cp
    ·have hrr:=run_append_room (P:=P) s.w t ty te i ht hi g' xs.length cp cur hgb ⟨b,off,none⟩ ys.length cap dss.flatten (by rw [hsz];exact hdl) hnews hone hroom (by rw [hcs,hsz,hdl,← Nat.add_mul];exact Nat.mul_le_mul_right _ hroom);rw [hrr] at hr;cases hr;left;rw [← h1];exact hgv
    ·have hrr:=run_append_grow (P:=P) s.w t ty te i z ht hi hz ⟨g',0,none⟩ xs.length cp css.flatten (by rw [hsz];exact h5.1) (h5.cells (g:=g') rfl) ⟨b,off,none⟩ ys.length cap dss.flatten (by rw [hsz];exact hdl) hnews (by omega) (by omega) (growslice_fits (by omega) hby');rw [hrr] at hr;cases hr;simp [Value.ownBlock] at hgv;exact .inr hgv
  have hlt:∀g,v'.ownBlock=some g→g<w'.heap.size:=fun g hgv=>(ho.lt g hgv).2;have hmv:Mv (fun b=>og=some b) s ⟨w',fun b=>(s.X b∧og≠some b)∨v'.ownBlock=some b,fun b hb=>hb.elim (fun h=>Nat.lt_of_lt_of_le (s.lt b h.1) hg.size) (hlt b)⟩:=
   ⟨DR.kit,hg.os,hg.tape,hg.output,hg.size,fun b hb hn=>hg.block b hb (fun e=>hn (by rw [← h1];exact e.symm)),fun b hb=>h2 b hb,
    fun b hb=>hb.elim (fun h=>.inl h.1) (fun h=>(hfresh b h).elim (fun h=>.inl (h2 b h)) (fun h=>.inr (Nat.le_of_eq h)))⟩
  refine ⟨v',_,v'.ownBlock,hr,⟨hmv,fun b hb hn=>.inl ⟨hb,hn⟩⟩,⟨rfl,fun g hg=>.inr hg, ?_,css++dss,(h4.go hmv).append (hD.go hmv), ?_⟩,fun g hg=>(hfresh g hg).imp id (fun h=>Nat.le_of_eq h)⟩
  ·simp only [List.length_append,lim];omega
  ·simpa using ho
theorem run_app {α:Type} {E:En α} {t te:TypeId} (ht:P.underlying t=some (.slice te)) (hE:Ty P te E) {N:Nat} {og:Option Nat} {xs ys:List α} {s:St} {v u:Value} (hv:(Pd.row E N te og xs).p s v) (hu:SlV E s.w (zcz s) u ys)
  (hN:N≤s.w.heap.size) (hlen:xs.length+ys.length≤2147483648) (ty:TypeId):∃v' s' og',(Builtin.append_ #[t,t] ty #[v,u]).run P s.w = .ok v' s'.w∧Ef (fun b=>og=some b) s s'∧(Pd.row E N te og' (xs++ys)).p s' v' ∧
   (∀b,og'=some b→og=some b∨s.w.heap.size≤b):=by
 obtain ⟨i,z,hi,hsz,hz,hzs,hby⟩:=hE.info;exact run_appB ht hE hv hu hN 65536 (by decide) ⟨i,hi,hby⟩ (by omega) ty
theorem zd7 {Q:Exit→Act→World→Prop} {rest:List Oper} {M:Nat→Prop} {n:Nat} {s0:St} {a:Act} {s:St} {α:Type} {E:En α} {te t:TypeId} {og:Option Nat} {xs ys:List α} {x y:Operand} {L':Lst} (d:Nat)
  (hL:Has M n s0 a s L) (hx:Opn L x (Pd.row E s0.w.heap.size te og xs)) (hy:Opn L y (Pd.rep (En.slice E) ys)) (ht:P.underlying t=some (.slice te)) (hE:Ty P te E) (hlen:xs.length+ys.length≤2147483648)
  (ho:o.op = .call { callee:=.builtin .append,args:=#[x,y],argTypes:=#[t,t] }) (hg:o.guard=none) (hd:o.dst=some d) (hn:Nat.blt d n=true) (hk:Kp (fun b=>og=some b) L L')
  (k:∀a' s' og',(∀b,og'=some b→og=some b∨s.w.heap.size≤b)→Has M n s0 a' s' ((d,Pd.row E s0.w.heap.size te og' (xs++ys))::L')→wpList P ops Q rest a' s'.w):wpList P ops Q (o::rest) a s.w:=by
 have h1:=hx M n s0 a s hL;have h2:=zb1.1 (hy M n s0 a s hL);obtain ⟨v',s',og',hr,e,hq,hf⟩:=run_app ht hE h1 h2 hL.ent.mv.size hlen o.type;refine wpList_plain hg fun K hK=>?_;unfold Oper.wp execOp;simp only [ho,resolve,invoke,builtin,Sem.run_bind,Sem.run_pure,Result.andThen_ok,List.map_toArray,List.map_cons,List.map_nil,hr];refine hK _ _ ?_;simp only [hd];exact k _ s' og' hf ((hL.ef e (fun b hb=>(zfe h1 b hb).1) hk).put' hn hq)
end
section
variable {u : Bool} [Dr u]
section
variable {P : Program} {ops : Array Oper} {o : Oper} {L : Lst}
end
end
end Go.Proofs.YtamjkbneebghmaaDoor.V
namespace Go.Proofs.YtamjkbneebghmaaDoor.V
open Go
set_option linter.unusedVariables false
section
variable {u : Bool} [Dr u]
def Vals (s:St):List Pd→List Value→Prop
 | [],[]=>True
 | q::qs,v::vs=>q.p s v∧Vals s qs vs
 | _,_=>False
structure Fn (P:Program) (f:FuncId) (qs:List Pd) (R:St→St→Value→Prop):Prop where
 call:∀(args:Array Value) (w:World),(callFunc f args).run P w = .ok (.enter f args) w
 run:∀s vs,Gl s→Vals s qs vs→Calls P f vs.toArray s.w fun e w'=>∃v s',e = .returned v∧s'.w=w'∧Ex s s'∧R s s' v
def Rq (q:Pd):St→St→Value→Prop:=fun _ s' v=>q.p s' v
def Ro {α:Type} (E:En α) (te:TypeId) (xs:List α):St→St→Value→Prop:=fun s s' v=>∃og,(Pd.row E s.w.heap.size te og xs).p s' v
inductive Opns (L:Lst):List Operand→List Pd→Prop
 | nil:Opns L [] []
 | cons {x:Operand} {q:Pd} {xs:List Operand} {qs:List Pd}:Opn L x q→Opns L xs qs→Opns L (x::xs) (q::qs)
theorem Opns.vals {L:Lst} {xs:List Operand} {qs:List Pd} (h:Opns L xs qs) {M:Nat→Prop} {n:Nat} {s0:St} {a:Act} {s:St} (hL:Has M n s0 a s L):Vals s qs (xs.map a.eval):=by
 induction h with
 | nil=>trivial
 | cons hx _ ih=>exact ⟨hx M n s0 a s hL,ih⟩
theorem row_weak {α:Type} {E:En α} {N N':Nat} {te:TypeId} {og:Option Nat} {xs:List α} {s:St} {v:Value} (hN:N'≤N) (h:(Pd.row E N te og xs).p s v):(Pd.row E N' te og xs).p s v:=by
 obtain ⟨h1,h2,h3,css,h4,h5⟩:=h;refine ⟨h1,h2,h3,css,h4,h5.1,h5.2.imp id ?_⟩;rintro ⟨g,cap,cur,e,hg,r⟩;exact ⟨g,cap,cur,e,Nat.le_trans hN hg,r⟩
theorem Fn.frz {P:Program} {f:FuncId} {qs:List Pd} {α:Type} {E:En α} {te:TypeId} {xs:List α} (h:Fn P f qs (Ro E te xs)):Fn P f qs (Rq (Pd.rep (En.slice E) xs)):=
 ⟨h.call,fun s vs hg hv=>(h.run s vs hg hv).mono fun e w' ⟨v,s',he,hw,hx,og,ho⟩=>by
  have hlt:=zfe ho;refine ⟨v,⟨s'.w,fun b=>s'.X b∧og≠some b,fun b hb=>s'.lt b hb.1⟩,he,hw, ?_,zb1.2 (own_slV ho rfl fun b hb=>hb)⟩;exact ⟨⟨hx.mv.dr,hx.mv.os,hx.mv.tape,hx.mv.output,hx.mv.size,hx.mv.blk,fun _ h=>h.elim,fun b hb=>hx.mv.xx b hb.1⟩,fun b hb=>⟨hx.keep b hb,fun e=>by have:=(hlt b e).1;have:=s.lt b hb;omega⟩⟩⟩
section
variable {P : Program} {ops : Array Oper} {o : Oper} {L : Lst}
theorem zdy {f:FuncId} {xs:List Operand} {ats:Array TypeId} {qs R} (hf:Fn P f qs R) (a:Act) (w:World) (ho:o.op = .call { callee:=.value (.func f),args:=xs.toArray,argTypes:=ats }):
  (execOp a.eval o).run P w = .ok (.enter f (xs.map a.eval).toArray) w:=by
 have h:=hf.call (xs.map a.eval).toArray w;have e:execOp a.eval o=callFunc f (#[]++(xs.toArray).map a.eval ++ #[]):=by unfold execOp;rw [ho];rfl
 rw [e];simpa using h
theorem zfc {f:FuncId} {xs:List Operand} {qs:List Pd} {q:Pd} {ats:Array TypeId} (hf:Fn P f qs (Rq q)) (hx:Opns L xs qs) (ho:o.op = .call { callee:=.value (.func f),args:=xs.toArray,argTypes:=ats }) (hg:o.guard=none):
  T P ops o L q:=fun M n s0 a s hL Q k hk=>by
 simp only [Region.wanted,hg,if_true];unfold Oper.wp;rw [zdy hf a s.w ho,Oper.upon_enter];refine (hf.run s _ hL.gls (hx.vals hL)).mono fun e w' ⟨v,s',he,hw,hx,hq⟩=>?_;subst he;subst hw;exact hk v s' ⟨hx,hq⟩
theorem st_callo {Q:Exit→Act→World→Prop} {rest:List Oper} {M:Nat→Prop} {n:Nat} {s0:St} {a:Act} {s:St} {α:Type} {E:En α} {te:TypeId} {zs:List α} {f:FuncId} {xs:List Operand} {qs:List Pd} {ats:Array TypeId} (d:Nat)
  (hL:Has M n s0 a s L) (hf:Fn P f qs (Ro E te zs)) (hx:Opns L xs qs) (ho:o.op = .call { callee:=.value (.func f),args:=xs.toArray,argTypes:=ats }) (hg:o.guard=none) (hd:o.dst=some d) (hn:Nat.blt d n=true)
  (k:∀a' s' og,(∀b,og=some b→s.w.heap.size≤b)→Has M n s0 a' s' ((d,Pd.row E s0.w.heap.size te og zs)::L)→wpList P ops Q rest a' s'.w):wpList P ops Q (o::rest) a s.w:=by
 refine wpList_plain hg fun K hK=>?_;unfold Oper.wp;rw [zdy hf a s.w ho,Oper.upon_enter];refine (hf.run s _ hL.gls (hx.vals hL)).mono fun e w' ⟨v,s',he,hw,hx,og,hq⟩=>?_;subst he;subst hw;refine hK _ _ ?_;rw [hd];exact k _ s' og (fun b hb=>(zfe hq b hb).1) (hL.put hx hn (row_weak hL.ent.mv.size hq))
end
@[reducible] def num:Nat→List Pd→Lst
 | _,[]=>[]
 | k,q::qs=>(k,q)::num (k+1) qs
def Pst (M:Nat→Prop) (R:St→St→Value→Prop) (s0:St):Ending→World→Prop:=fun e w'=>∃v s',e = .returned v∧s'.w=w'∧Fr M s0 s'∧R s0 s' v
theorem num_vals {s:St}:∀{qs:List Pd} {vs:List Value} (h:Vals s qs vs) (k t:Nat) (q:Pd),lk (num k qs) t=some q→∃v,k≤t∧vs[t-k]?=some v∧q.p s v
 | [],_,_,k,t,q,hl=>by cases hl
 | q'::qs,[],h,_,_,_,_=>h.elim
 | q'::qs,v::vs,h,k,t,q,hl=>by
  unfold num lk at hl
  by_cases ht:k=t
  ·subst ht;simp at hl;subst hl;exact ⟨v,Nat.le_refl _,by simp,h.1⟩
  ·rw [zfh ht] at hl;obtain ⟨u,h1,h2,h3⟩:=num_vals h.2 (k+1) t q hl;refine ⟨u,by omega, ?_,h3⟩;rw [show t-k=(t-(k+1))+1 by omega];simpa using h2
theorem vals_len {s:St}:∀{qs:List Pd} {vs:List Value},Vals s qs vs→vs.length=qs.length
 | [],[],_=>rfl
 | [],_::_,h=>h.elim
 | _::_,[],h=>h.elim
 | _::_,_::_,h=>by simp [vals_len h.2]
structure Fm (P:Program) (f:FuncId) (M:Nat→Prop) (qs:List Pd) (R:St→St→Value→Prop):Prop where
 call:∀(args:Array Value) (w:World),(callFunc f args).run P w = .ok (.enter f args) w
 run:∀s vs,Gl s→(∀b,M b→s.X b)→Vals s qs vs→Calls P f vs.toArray s.w fun e w'=>∃v s',e = .returned v∧s'.w=w'∧Fr M s s'∧R s s' v
theorem fm_of {P:Program} {f:FuncId} {fn:Func} {c:Code} {n:Nat} {M:Nat→Prop} {qs:List Pd} {R:St→St→Value→Prop} (hf:P.funcs[f]?=some fn) (hb:fn.body=some c) (hn:fn.ntmps=n) (hm:(fn.name == "runtime.NumGoroutine")=false) (hq:qs.length≤n)
  (h:∀s0 a,Has M n s0 a s0 (num 0 qs)→c.wp P (bodyPost P fn (Pst M R s0)) a s0.w):Fm P f M qs R where
 call:=fun args w=>by
  have hm':¬ fn.name = "runtime.NumGoroutine":=by simpa using hm
  simp [callFunc,hf,hm',hb]
 run:=fun s vs hg hM hv=>by
  refine calls_of_wp hf hb ?_;have hl:=vals_len hv;refine h s _ ⟨?_,rfl,Fr.refl hM,hg,fun t q ht=>?_⟩
  ·simp [hn,hl];omega
  ·obtain ⟨v,_,h2,h3⟩:=num_vals hv 0 t q ht;have:(({ tmps:=vs.toArray++Array.replicate (fn.ntmps-vs.toArray.size) undef,defers:=[] }:Act).eval (.tmp t))=v:=by
    simp only [Nat.sub_zero] at h2;have hlt:t<vs.length:=(List.getElem?_eq_some_iff.1 h2).1;simp only [Act.eval];rw [Array.getD_eq_getD_getElem?,Array.getElem?_append_left (by simpa using hlt)];simp [h2]
   rw [this];exact h3
theorem Fm.fn {P:Program} {f:FuncId} {qs:List Pd} {R:St→St→Value→Prop} (h:Fm P f N0 qs R):Fn P f qs R:=
 ⟨h.call,fun s vs hg hv=>(h.run s vs hg (fun _ h=>h.elim) hv).mono fun e w' ⟨v,s',he,hw,hx,hr⟩=>⟨v,s',he,hw,hx.ex,hr⟩⟩
theorem zbe {P:Program} {f:FuncId} {fn:Func} {c:Code} {n:Nat} {qs:List Pd} {R:St→St→Value→Prop} (hf:P.funcs[f]?=some fn) (hb:fn.body=some c) (hn:fn.ntmps=n) (hm:(fn.name == "runtime.NumGoroutine")=false) (hq:qs.length≤n)
  (h:∀s0 a,Has N0 n s0 a s0 (num 0 qs)→c.wp P (bodyPost P fn (Pst N0 R s0)) a s0.w):Fn P f qs R:=(fm_of hf hb hn hm hq h).fn
section
variable {P : Program} {fn : Func} {M : Nat → Prop} {n : Nat} {s0 : St} {a : Act} {s : St} {L : Lst} {R : St → St → Value → Prop}
theorem ret1 {t:Nat} (hr:fn.results = #[.tmp t]) (hL:Has M n s0 a s L) (hR:R s0 s (a.eval (.tmp t))):bodyPost P fn (Pst M R s0) .ret a s.w:=
 ⟨hL.defers,_,results_tmp hr a.tmps P s.w,_,s,rfl,rfl,hL.ent,hR⟩
theorem zeh {t:Nat} {q:Pd} (hr:fn.results = #[.tmp t]) (hL:Has M n s0 a s L) (hl:lk L t=some q):bodyPost P fn (Pst M (Rq q) s0) .ret a s.w:=ret1 hr hL (hL.get t hl)
theorem reto {α:Type} {E:En α} {te:TypeId} {og:Option Nat} {xs:List α} {t:Nat} (hr:fn.results = #[.tmp t]) (hL:Has M n s0 a s L) (hl:lk L t=some (Pd.row E s0.w.heap.size te og xs)):bodyPost P fn (Pst M (Ro E te xs) s0) .ret a s.w:=
 ret1 hr hL ⟨og,hL.get t hl⟩
def Rq2 (q r:Pd):St→St→Value→Prop:=fun _ s' v=>∃x y,v = .tuple #[x,y]∧q.p s' x∧r.p s' y
theorem ret2 {t u:Nat} {q r:Pd} (hr:fn.results = #[.tmp t,.tmp u]) (hL:Has M n s0 a s L) (hl:lk L t=some q) (hm:lk L u=some r):bodyPost P fn (Pst M (Rq2 q r) s0) .ret a s.w:=
 ⟨hL.defers,_,results_tmp2 hr a.tmps P s.w,_,s,rfl,rfl,hL.ent,_,_,rfl,hL.get t hl,hL.get u hm⟩
theorem results_cell {a0 t0:Nat} (hr:fn.results = #[.cell a0 t0]) {α:Type} {E:En α} {x:α} (hE:Ty P t0 E) {b o:Nat} {cs:List Value} {S:Nat→Prop} {w w':World} {tmps:Array Value} (hv:tmps.getD a0 undef = .pointer (some ⟨b,o,none⟩)) (hR:E.R w' S cs x) (hc:zbx w b o cs):
  (results fn tmps).run P w = .ok (E.val cs) w:=by
 have:=zbs hE hR hc;rw [Array.getD_eq_getD_getElem?] at hv;simp [results,hr,hv,asAddr,this]
theorem retb {a0 t0:Nat} {α:Type} {E:En α} {x:α} {N g:Nat} (hr:fn.results = #[.cell a0 t0]) (hE:Ty P t0 E) (hL:Has M n s0 a s L) (hl:lk L a0=some (Pd.box E N g x)):bodyPost P fn (Pst M (Rq (Pd.rep E x)) s0) .ret a s.w:=by
 obtain ⟨hv,_,_,cs,t',hc,hR⟩:=hL.get a0 hl;exact ⟨hL.defers,_,results_cell hr hE hv hR (zba hc),_,s,rfl,rfl,hL.ent,cs,rfl,hR⟩
end
section
variable {P : Program} {Q : Exit → Act → World → Prop} {M : Nat → Prop} {n : Nat} {s0 : St} {a : Act} {s : St} {L : Lst}
theorem cnd {t:Nat} {b:Bool} {x y:Code} (hL:Has M n s0 a s L) (hl:lk L t=some (Pd.rep En.bool b)) (h1:b=true→x.wp P Q a s.w) (h2:b=false→y.wp P Q a s.w):(Code.cond (.tmp t) x y).wp P Q a s.w:=
 wp_cond_split (z8.1 (hL.get t hl)) h1 h2
theorem lpg {c:Code} (I:Nat→Act→St→Prop) (k0:Nat) (h0:I k0 a s)
  (round:∀k a s,I k a s→∀K:Act→World→Prop,(∀k' a' s',k' < k→I k' a' s'→K a' s'.w)→c.wp P (Exit.then K Q) a s.w):(Code.loop c).wp P Q a s.w:=by
 refine wp_loop_ghost (fun k a w=>∃s,s.w=w∧I k a s) k0 ⟨s,rfl,h0⟩ ?_;rintro k a w ⟨s,rfl,hI⟩;exact round k a s hI _ fun k' a' s' hk hI'=>⟨k',hk,s',rfl,hI'⟩
end
end
end Go.Proofs.YtamjkbneebghmaaDoor.V
namespace Go.Proofs.YtamjkbneebghmaaDoor.V
set_option linter.unusedVariables false
abbrev Cl:=BitVec 256
def Cl.word (x:Cl) (i:Nat):Nat:=x.toNat / 2 ^ (64*i) % 2 ^ 64
def Cl.has (x:Cl) (c:Nat):Bool:=x.getLsbD c
def Cl.ofWords (a b c d:Nat):Cl:=BitVec.ofNat 256 (a+2 ^ 64*b+2 ^ 128*c+2 ^ 192*d)
def zbj (f:Nat→Bool):Nat→Nat
 | 0=>0
 | n+1=>bif f n then 2 ^ n+zbj f n else zbj f n
def Cl.of (f:Nat→Bool):Cl:=BitVec.ofNat 256 (zbj f 256)
theorem Cl.word_lt (x:Cl) (i:Nat):x.word i<2 ^ 64:=Nat.mod_lt _ (by decide)
theorem Cl.word_bit (x:Cl) (i j:Nat):(x.word i).testBit j=(decide (j<64)&&x.has (64*i+j)):=by
 unfold Cl.word Cl.has;rw [Nat.testBit_mod_two_pow,Nat.testBit_div_two_pow];rw [BitVec.getLsbD,Nat.add_comm]
theorem Cl.ext {x y:Cl} (h:∀c,c<256→x.has c=y.has c):x=y:=BitVec.eq_of_getLsbD_eq h
theorem Cl.ext_words {x y:Cl} (h:∀i,i<4→x.word i=y.word i):x=y:=by
 apply Cl.ext;intro c hc;have h1:=Cl.word_bit x (c / 64) (c % 64);have h2:=Cl.word_bit y (c / 64) (c % 64);rw [h (c / 64) (by omega)] at h1;rw [h1] at h2;simpa [Nat.mod_lt,Nat.div_add_mod] using h2
theorem ze4 (f:Nat→Bool) (n:Nat):zbj f n<2 ^ n:=by
 induction n with
 | zero=>simp [zbj]
 | succ n ih=>
  unfold zbj;rw [Nat.pow_succ];cases f n <;> simp <;> omega
theorem zfg (f:Nat→Bool) (n j:Nat):(zbj f n).testBit j=(decide (j<n)&&f j):=by
 induction n with
 | zero=>simp [zbj]
 | succ n ih=>
  have hlt:=ze4 f n;unfold zbj
  by_cases hj:j=n
  ·subst hj;cases hf:f j
   ·simp [Nat.testBit_lt_two_pow hlt]
   ·simp only [cond_true,Nat.testBit_two_pow_add_eq,Nat.testBit_lt_two_pow hlt];simp
  ·by_cases hlt':j<n
   ·cases hf:f n
    ·simp [ih,hlt',show j<n+1 by omega]
    ·simp only [cond_true,Nat.testBit_two_pow_add_gt hlt',ih];simp [hlt',show j<n+1 by omega]
   ·have h2:(bif f n then 2 ^ n+zbj f n else zbj f n)<2 ^ (n+1):=by rw [Nat.pow_succ];cases f n <;> simp <;> omega
    have h3:2 ^ (n+1)≤2 ^ j:=Nat.pow_le_pow_right (by omega) (by omega);rw [Nat.testBit_lt_two_pow (by omega)];simp [show ¬ j<n+1 by omega]
theorem Cl.of_has (f:Nat→Bool) {c:Nat} (hc:c<256):(Cl.of f).has c=f c:=by
 unfold Cl.of Cl.has;rw [BitVec.getLsbD_ofNat,zfg];simp [hc]
theorem Cl.ofWords_word {a b c d:Nat} (ha:a<2 ^ 64) (hb:b<2 ^ 64) (hc:c<2 ^ 64) (hd:d<2 ^ 64):
  (Cl.ofWords a b c d).word 0=a∧(Cl.ofWords a b c d).word 1=b∧(Cl.ofWords a b c d).word 2=c∧(Cl.ofWords a b c d).word 3=d:=by
 have h:(Cl.ofWords a b c d).toNat=a+2 ^ 64*b+2 ^ 128*c+2 ^ 192*d:=by
  unfold Cl.ofWords;rw [BitVec.toNat_ofNat];exact Nat.mod_eq_of_lt (by omega)
 unfold Cl.word;rw [h];simp only [Nat.mul_zero,Nat.mul_one,Nat.pow_zero,Nat.reduceMul];omega
open Go
def zx (x:Cl):List Value:=[.int .u64 (x.word 0),.int .u64 (x.word 1),.int .u64 (x.word 2),.int .u64 (x.word 3)]
def En.cls:En Cl where
 sz:=4
 agg:=true
 R:=fun _ _ cs x=>cs=zx x
 sc:=fun h=>by cases h
 pos:=by decide
 len:=by rintro _ _ _ _ rfl;rfl
 one:=by rintro _ _ _ _ rfl u hu;simp [zx] at hu;rcases hu with rfl | rfl | rfl | rfl <;> rfl
 mono:=fun _ h=>h
 move:=fun _ h=>h
theorem rep_cls {x:Cl} {s:St} {v:Value}:(Pd.rep En.cls x).p s v↔v = .agg (zx x).toArray:=
 ⟨fun ⟨_,hv,hc⟩=>by cases hc;exact hv,fun hv=>⟨zx x,hv,rfl⟩⟩
section
variable {u : Bool} [Dr u]
structure TyZ {α:Type} (P:Program) (t:TypeId) (E:En α) (z:α):Prop where
 zero:∃i v cs,P.info? t=some i∧i.zero=some v∧v.cells=cs.toArray∧∀w S,E.R w S cs z
def Sub {α β:Type} (E:En α) (off:Nat) (E':En β) (x x':α) (y:β):Prop:=
 off+E'.sz≤E.sz∧∀w S cs cs',E.R w S cs x→E'.R w S cs' y→E.R w S (spl cs off cs') x'
theorem zq {α:Type} (E:En α) (x y:α):Sub E 0 E x y y:=
 ⟨by simp,fun w S cs cs' h h'=>by
  have:spl cs 0 cs'=cs':=by
   have h1:=E.len h;have h2:=E.len h';simp [spl,List.drop_of_length_le (show cs.length≤cs'.length by omega)]
  rw [this];exact h'⟩
def St.pushX (s:St) (ob:Obj):St:=⟨s.w.alloc ob,fun b=>s.X b∨b=s.w.heap.size,fun b hb=>hb.elim (fun h=>Nat.lt_of_lt_of_le (s.lt b h) (by simp)) (fun h=>by subst h;simp)⟩
theorem Ex.pushX (s:St) (ob:Obj):Ex s (s.pushX ob):=
 ⟨⟨DR.eq rfl,rfl,rfl,rfl,by simp [St.pushX],fun b hb _=>Go.RowKit.Below.heap_alloc s.w _ b hb,fun _ h=>h.elim,fun b hb=>hb.imp id (fun h=>Nat.le_of_eq h.symm)⟩,fun b hb=>.inl hb⟩
section
variable {P : Program} {ops : Array Oper} {o : Oper} {L L' : Lst} {Q : Exit → Act → World → Prop} {rest : List Oper} {M : Nat → Prop} {n : Nat} {s0 : St} {a : Act} {s : St}
theorem zw {α:Type} (E:En α) {z:α} {t:TypeId} (d:Nat) (hL:Has M n s0 a s L) (hz:TyZ P t E z) (ho:o.op = .alloc t) (hg:o.guard=none) (hd:o.dst=some d) (hn:Nat.blt d n=true)
  (k:∀a' s' g,s.w.heap.size≤g→Has M n s0 a' s' ((d,Pd.box E s0.w.heap.size g z)::L)→wpList P ops Q rest a' s'.w):wpList P ops Q (o::rest) a s.w:=by
 obtain ⟨i,v,cs,h1,h2,h3,h4⟩:=hz.zero;have hr:(execOp a.eval o).run P s.w = .ok (.value (.pointer (some ⟨s.w.heap.size,0,none⟩))) (s.pushX (.cells cs.toArray t)).w:=by
  unfold execOp;rw [ho];simp [Instr.alloc,zeroValue,typeInfo,h1,h2,newVar,newRow,h3,St.pushX]
 refine wpList_plain hg fun K hK=>?_;unfold Oper.wp;rw [hr];refine hK _ _ ?_;simp only [hd];exact k _ _ s.w.heap.size (Nat.le_refl _) (hL.put (Ex.pushX s _) hn ⟨rfl,hL.ent.mv.size,.inr rfl,cs,t,heap_alloc_new s.w _,h4 _ _⟩)
theorem zfd {α:Type} {E:En α} {x:α} {t:TypeId} (ht:Ty P t E) {w w':World} {S:Nat→Prop} {cs:List Value} (hR:E.R w' S cs x) {g off:Nat} {cur:List Value} {te:TypeId} (hg:w.heap[g]?=some (.cells cur.toArray te (0,0))) (hl:off+E.sz≤cur.length):
  (Instr.storeAt t (.pointer (some ⟨g,off,none⟩)) (E.val cs)).run P w = .ok () (w.setRow g (spl cur off cs).toArray):=by
 have hlen:=E.len hR;have:=run_storeCells_at P g off te cs 0 cur.toArray w hg (by simp;omega) (E.one hR);simp only [Instr.storeAt,Instr.sureAddr,Sem.run_bind,Sem.run_pure,Result.andThen_ok,storeVar,zbp ht,En.val_cells hR];rw [if_neg (by simp [hlen])];simpa [spl] using this
def St.set (s:St) (g:Nat) (cs:List Value):St:=⟨s.w.setRow g cs.toArray,s.X,fun b hb=>by simpa [World.setRow] using s.lt b hb⟩
theorem Ef.set (s:St) {g:Nat} (cs:List Value) {T:Nat→Prop} (hT:∀b,T b↔b=g) (hx:s.X g):Ef T s (s.set g cs):=
 ⟨⟨DR.eq rfl,rfl,rfl,rfl,by simp [St.set,World.setRow],fun b _ hn=>setRow_other s.w g b _ (fun e=>hn ((hT b).2 e)),fun b hb=>by rw [(hT b).1 hb];exact hx,fun b hb=>.inl hb⟩,fun b hb _=>hb⟩
theorem wp_store {t:TypeId} {x y:Operand} {w':World} (hr:(Instr.storeAt t (a.eval x) (a.eval y)).run P s.w = .ok () w') (ho:o.op = .store t x y) (hg:o.guard=none) (hd:o.dst=none) (k:wpList P ops Q rest a w'):wpList P ops Q (o::rest) a s.w:=by
 refine wpList_plain hg fun K hK=>?_;unfold Oper.wp execOp;simp only [ho,Sem.run_bind,hr,Result.andThen_ok,Sem.run_pure];refine hK _ _ ?_;simp only [hd];exact k
theorem zbt {α β:Type} {E:En α} {E':En β} {x0 x1:α} {y0 y1:β} {g off:Nat} {x y:Operand} {t:TypeId} (c:Nat) (hL:Has M n s0 a s L) (hc:lk L c=some (Pd.box E s0.w.heap.size g x0)) (hx:Opn L x (Pd.optr E' s0.w.heap.size (some g) off y0)) (hy:Opn L y (Pd.rep E' y1))
  (hs:Sub E off E' x0 x1 y1) (ht:Ty P t E') (ho:o.op = .store t x y) (hg:o.guard=none) (hd:o.dst=none) (hk:Kp (fun b=>some g=some b) L L')
  (k:∀s',Has M n s0 a s' ((c,Pd.box E s0.w.heap.size g x1)::L')→wpList P ops Q rest a s'.w):wpList P ops Q (o::rest) a s.w:=by
 obtain ⟨hv,hN,hX,cur,te,hgb,hR⟩:=hL.get c hc;obtain ⟨g',hgg,hxv,_⟩:=hx M n s0 a s hL;cases hgg;obtain ⟨cs,hyv,hR'⟩:=hy M n s0 a s hL;have hlen:=E.len hR;have hr:=zfd (P:=P) ht hR' (g:=g) (off:=off) hgb (by rw [hlen];exact hs.1);refine wp_store (s:=s) (by rw [hxv,hyv];exact hr) ho hg hd ?_;have e:Ef (fun b=>some g=some b) s (s.set g (spl cur off cs)):=Ef.set s _ (fun b=>by simp [eq_comm]) hX;refine k (s.set g (spl cur off cs)) ((hL.ef e (fun b hb=>by cases hb;exact hN) hk).cons c ⟨hv,hN,hX,_,te,setRow_heap s.w g _ _ te (0,0) hgb, ?_⟩);exact E.go e.mv (hs.2 _ _ _ _ hR hR')
theorem st_stb {α:Type} {E:En α} {x0 x1:α} {g:Nat} {y:Operand} {t:TypeId} (c:Nat) (hL:Has M n s0 a s L) (hc:lk L c=some (Pd.box E s0.w.heap.size g x0)) (hy:Opn L y (Pd.rep E x1))
  (ht:Ty P t E) (ho:o.op = .store t (.tmp c) y) (hg:o.guard=none) (hd:o.dst=none) (hk:Kp (fun b=>some g=some b) L L')
  (k:∀s',Has M n s0 a s' ((c,Pd.box E s0.w.heap.size g x1)::L')→wpList P ops Q rest a s'.w):wpList P ops Q (o::rest) a s.w:=by
 refine zbt (off:=0) (y0:=x0) (E':=E) c hL hc ?_ hy (zq E x0 x1) ht ho hg hd hk k;intro M' n' s0' a' s' hL';obtain ⟨hv,hN,hX,cur,te,hgb,hR⟩:=hL'.get c hc;exact ⟨g,rfl,hv,hN,(Array.getElem?_eq_some_iff.1 hgb).1,hX,cur,zba hgb,hR⟩
theorem spl_flat {css:List (List Value)} {m i off:Nat} {cs cs':List Value} (h:∀c∈css,c.length=m) (hi:css[i]?=some cs) (ho:off+cs'.length≤m):spl css.flatten (i*m+off) cs'=(css.set i (spl cs off cs')).flatten:=by
 induction css generalizing i with
 | nil=>simp at hi
 | cons c r ih=>
  have hc:c.length=m:=h c (by simp);cases i with
  | zero=>
   simp at hi;subst hi;simp only [List.set_cons_zero,List.flatten_cons,Nat.zero_mul,Nat.zero_add,spl];rw [List.take_append_of_le_length (by omega),List.drop_append_of_le_length (by omega)];simp
  | succ i=>
   simp at hi;simp only [List.set_cons_succ,List.flatten_cons];rw [← ih (fun x hx=>h x (by simp [hx])) hi];simp only [spl];have e1:(i+1)*m+off=c.length+(i*m+off):=by rw [hc,Nat.succ_mul];omega
   rw [e1,List.take_length_add_append,Nat.add_assoc,List.drop_length_add_append];simp
theorem at_some {α:Type} {xs:List α} {i:Int} {e:α} (h:at? xs i=some e):0≤i∧xs[i.toNat]?=some e:=by
 unfold at? at h;split at h
 ·exact ⟨by assumption,h⟩
 ·cases h
theorem row_uniq {α:Type} {E:En α} {N N':Nat} {te:TypeId} {og:Option Nat} {xs:List α} {u v:Value} (h:(Pd.row E N te og xs).p s u) (k:(Pd.row E N' te og xs).p s v):u=v:=by
 obtain ⟨h1,_,_,css,h4,h5⟩:=h;obtain ⟨k1,_,_,dss,k4,k5⟩:=k;rcases h5.2 with ⟨e,hn⟩ | ⟨g,cap,cur,e,hN,hg,hnc,hcm,hcz,ht⟩
 ·subst e;rcases k5.2 with ⟨e',_⟩ | ⟨g',cap',cur',e',hN',hg',_,_,hcz',_⟩
  ·exact e'.symm
  ·subst e';rw [← h1] at k1;cases k1
 ·subst e;rcases k5.2 with ⟨e',_⟩ | ⟨g',cap',cur',e',hN',hg',_,_,hcz',_⟩
  ·subst e';rw [← h1] at k1;cases k1
  ·subst e';have hgg:g'=g:=by rw [← h1] at k1;simpa [Value.ownBlock] using k1
   subst hgg;rw [hg] at hg';simp only [Option.some.injEq,Obj.cells.injEq] at hg';have:cap*E.sz=cap'*E.sz:=by rw [← hcz,← hcz',hg'.1]
   have:=Nat.eq_of_mul_eq_mul_right E.pos this;rw [this]
theorem st_storC {α β:Type} {E:En α} {E':En β} {xs:List α} {e0 e1:α} {y0 y1:β} {og:Option Nat} {off:Nat} {N:Nat} {i:Int} {x y:Operand} {t te:TypeId} {vc:Value} (hrow:(Pd.row E N te og xs).p s vc) (hi:at? xs i=some e0)
  (hx:(Pd.optr E' N og (i.toNat*E.sz+off) y0).p s (a.eval x)) (hy:(Pd.rep E' y1).p s (a.eval y)) (hs:Sub E off E' e0 e1 y1) (ht:Ty P t E') (ho:o.op = .store t x y) (hg:o.guard=none) (hd:o.dst=none)
  (k:∀s',Ef (fun b=>og=some b) s s'→(∀b,s.X b→s'.X b)→(Pd.row E N te og (xs.set i.toNat e1)).p s' vc→wpList P ops Q rest a s'.w):wpList P ops Q (o::rest) a s.w:=by
 obtain ⟨h1,h2,h3,css,h4,h5⟩:=hrow;obtain ⟨g,hog,hxv,hN,hgl,hX,_⟩:=hx;obtain ⟨cs',hyv,hR'⟩:=hy;obtain ⟨hi0,hie⟩:=at_some hi;have hlt:i.toNat<xs.length:=(List.getElem?_eq_some_iff.1 hie).1;obtain ⟨cs,hcs⟩:∃cs,css[i.toNat]?=some cs:=⟨css[i.toNat]'(by rw [h4.1];exact hlt),by simp⟩;have hR:=h4.2 _ _ _ hcs hie;rcases h5.2 with ⟨e',hn⟩ | ⟨g',cap,cur,ev,hN',hgb,hnc,hcm,hcz,htk⟩
 ·omega
 ·have hgg:g'=g:=by rw [← h1,ev] at hog;simpa [Value.ownBlock] using hog
  subst hgg;have hfl:css.flatten.length=xs.length*E.sz:=by rw [zft h4.lens,h4.1]
  have hlen':=E'.len hR';have hin:i.toNat*E.sz+E.sz≤xs.length*E.sz:=by rw [← Nat.succ_mul];exact Nat.mul_le_mul_right _ hlt
  have hcap:xs.length*E.sz≤cur.size:=by rw [hcz];exact Nat.mul_le_mul_right _ hnc
  have hb:i.toNat*E.sz+off+E'.sz≤cur.toList.length:=by have:=hs.1;simp;omega
  have hr:=zfd (P:=P) ht hR' (g:=g') (off:=i.toNat*E.sz+off) (cur:=cur.toList) (te:=te) (by simpa using hgb) hb;refine wp_store (s:=s) (by rw [hxv,hyv];exact hr) ho hg hd ?_;have hT:∀b,og=some b↔b=g':=fun b=>by rw [hog];simp [eq_comm]
  have e:Ef (fun b=>og=some b) s (s.set g' (spl cur.toList (i.toNat*E.sz+off) cs')):=Ef.set s _ hT hX;refine k (s.set g' (spl cur.toList (i.toNat*E.sz+off) cs')) e (fun b h=>h) ⟨h1,h2,by simpa using h3,css.set i.toNat (spl cs off cs'), ?_, ?_,.inr ⟨g',cap,(spl cur.toList (i.toNat*E.sz+off) cs').toArray,by simpa using ev,hN',setRow_heap s.w g' cur _ te (0,0) hgb,by simpa using hnc,hcm, ?_, ?_⟩⟩
  ·refine ⟨by simp [h4.1],fun j c' x' hj hx'=>E.go e.mv ?_⟩
   by_cases hji:j=i.toNat
   ·subst hji;rw [List.getElem?_set_self (by rw [h4.1];exact hlt)] at hj;rw [List.getElem?_set_self hlt] at hx';cases hj;cases hx';exact hs.2 _ _ _ _ hR hR'
   ·rw [List.getElem?_set_ne (Ne.symm hji)] at hj hx';exact h4.2 j c' x' hj hx'
  ·rw [zft (n:=E.sz),List.length_set,List.length_set,h4.1];intro c' hc';rcases List.mem_or_eq_of_mem_set hc' with h | h
   ·exact h4.lens c' h
   ·subst h;rw [zfm (by rw [E.len hR,hlen'];exact hs.1)];exact E.len hR
  ·have:(spl cur.toList (i.toNat*E.sz+off) cs').length=cur.toList.length:=zfm (by rw [hlen'];exact hb);simp [this,hcz]
  ·rw [← spl_flat h4.lens hcs (by rw [hlen'];exact hs.1)];simp only [List.length_set];have h6:cur.toList=css.flatten++cur.toList.drop (xs.length*E.sz):=by rw [← htk];exact (List.take_append_drop _ _).symm
   have h7:spl cur.toList (i.toNat*E.sz+off) cs'=spl css.flatten (i.toNat*E.sz+off) cs'++cur.toList.drop (xs.length*E.sz):=by
    have hsz:=hs.1
    conv=>lhs;rw [h6]
    simp only [spl];rw [List.take_append_of_le_length (by rw [hfl];omega),List.drop_append_of_le_length (by rw [hfl,hlen'];omega)];simp
   have h8:(spl css.flatten (i.toNat*E.sz+off) cs').length=xs.length*E.sz:=by
    rw [zfm (by rw [hfl,hlen'];have:=hs.1;omega),hfl]
   rw [h7,List.take_append_of_le_length (Nat.le_of_eq h8.symm),List.take_of_length_le (Nat.le_of_eq h8)]
theorem st_storN {α β:Type} {E:En α} {E':En β} {xs:List α} {e0 e1:α} {y0 y1:β} {og:Option Nat} {off:Nat} {N:Nat} {i:Int} {x y:Operand} {t te:TypeId} (c:Nat) (hw:(∀b,og=some b→s0.w.heap.size≤b)∨∀b,og=some b→M b) (hL:Has M n s0 a s L) (hc:lk L c=some (Pd.row E N te og xs)) (hi:at? xs i=some e0)
  (hx:Opn L x (Pd.optr E' N og (i.toNat*E.sz+off) y0)) (hy:Opn L y (Pd.rep E' y1)) (hs:Sub E off E' e0 e1 y1) (ht:Ty P t E') (ho:o.op = .store t x y) (hg:o.guard=none) (hd:o.dst=none) (hk:Kw (fun b=>og=some b) L (Pd.row E N te og xs) (Pd.row E N te og (xs.set i.toNat e1)) L')
  (k:∀s',Has M n s0 a s' L'→wpList P ops Q rest a s'.w):wpList P ops Q (o::rest) a s.w:=by
 exact st_storC (hL.get c hc) hi (hx M n s0 a s hL) (hy M n s0 a s hL) hs ht ho hg hd fun s' e hX hr=>k s' (hL.turn e hw hX hk fun v hv=>by rw [row_uniq hv (hL.get c hc)];exact hr)
theorem st_stor {α β:Type} {E:En α} {E':En β} {xs:List α} {e0 e1:α} {y0 y1:β} {og:Option Nat} {off:Nat} {i:Int} {x y:Operand} {t te:TypeId} (c:Nat) (hL:Has M n s0 a s L) (hc:lk L c=some (Pd.row E s0.w.heap.size te og xs)) (hi:at? xs i=some e0)
  (hx:Opn L x (Pd.optr E' s0.w.heap.size og (i.toNat*E.sz+off) y0)) (hy:Opn L y (Pd.rep E' y1)) (hs:Sub E off E' e0 e1 y1) (ht:Ty P t E') (ho:o.op = .store t x y) (hg:o.guard=none) (hd:o.dst=none) (hk:Kw (fun b=>og=some b) L (Pd.row E s0.w.heap.size te og xs) (Pd.row E s0.w.heap.size te og (xs.set i.toNat e1)) L')
  (k:∀s',Has M n s0 a s' L'→wpList P ops Q rest a s'.w):wpList P ops Q (o::rest) a s.w:=by
 refine st_storN c (.inl fun b hb=>?_) hL hc hi hx hy hs ht ho hg hd hk k;exact (zfe (hL.get c hc) b hb).1
theorem made_flat {z:Value} {cs:List Value} (hz:z.cells=cs.toArray) (n:Nat) (hpos:0<cs.length):(madeCells z.cells (n*cs.length)).toList=(List.replicate n cs).flatten:=by
 induction n with
 | zero=>simp [madeCells]
 | succ n ih=>
  have h1:(madeCells z.cells ((n+1)*cs.length)).toList=(madeCells z.cells (n*cs.length)).toList++cs:=by
   simp only [madeCells,Nat.succ_mul];simp only [Array.toList_map,Array.toList_range];rw [List.range_add,List.map_append,List.map_map]
   congr 1
   apply List.ext_getElem?;intro j
   by_cases hj:j<cs.length
   ·simp only [List.getElem?_map,List.getElem?_range hj,Option.map_some,Function.comp,hz,List.size_toArray];rw [Nat.mul_comm,Nat.mul_add_mod,Nat.mod_eq_of_lt hj];simp [hj]
   ·rw [List.getElem?_eq_none (by simp;omega),List.getElem?_eq_none (by omega)]
  rw [h1,ih,List.replicate_succ',List.flatten_append];simp
end
end
section
variable {P : Program} {ops : Array Oper} {o : Oper} {L L' : Lst} {Q : Exit → Act → World → Prop} {rest : List Oper} {M : Nat → Prop} {n : Nat} {s0 : St} {a : Act} {s : St}
theorem st_make {α:Type} (E:En α) {z:α} {t te:TypeId} {l c:Operand} {kl kc:IntKind} {m:Nat} (d:Nat) (hL:Has M n s0 a s L) (hl:Opn L l (Pd.rep (En.int kl) m)) (hc:Opn L c (Pd.rep (En.int kc) m)) (hm:m≤2147483648)
  (ht:P.underlying t=some (.slice te)) (hE:Ty P te E) (hz:TyZ P te E z) (ho:o.op = .makeSlice t l c) (hg:o.guard=none) (hd:o.dst=some d) (hn:Nat.blt d n=true)
  (k:∀a' s' g,s.w.heap.size≤g→Has M n s0 a' s' ((d,Pd.row E s0.w.heap.size te (some g) (List.replicate m z))::L)→wpList P ops Q rest a' s'.w):wpList P ops Q (o::rest) a s.w:=by
 obtain ⟨i,zv,hi,hsz,hzv,hzs,hby⟩:=hE.info;obtain ⟨i',v,cs,h1,h2,h3,h4⟩:=hz.zero;rw [hi] at h1;cases h1;rw [hzv] at h2;cases h2;have e1:=(zg.1 (hl M n s0 a s hL)).1;have e2:=(zg.1 (hc M n s0 a s hL)).1;have hcl:cs.length=E.sz:=E.len (h4 s.w (zcz s));obtain ⟨w',hr,ho',hgr⟩:=run_make_full (P:=P) s.w s0.w.heap.size t te i zv E.sz ht hi hzv hsz kl kc m (by
  have:=Nat.mul_le_mul hby hm;omega) (by simp [maxLen];omega) hL.ent.mv.size
 refine wpList_plain hg fun K hK=>?_;unfold Oper.wp execOp;simp only [ho,e1,e2,Sem.run_bind,hr,Result.andThen_ok,Sem.run_pure];refine hK _ _ ?_;simp only [hd];have hlt:=(ho'.lt s.w.heap.size rfl).2;have e:Ex s ⟨w',fun b=>s.X b∨b=s.w.heap.size,fun b hb=>hb.elim (fun h=>Nat.lt_of_lt_of_le (s.lt b h) hgr.size) (fun h=>by subst h;exact hlt)⟩:=
  ⟨⟨DR.kit,hgr.os,hgr.tape,hgr.output,hgr.size,fun b hb _=>hgr.block b hb (by simp),fun _ h=>h.elim,fun b hb=>hb.imp id (fun h=>Nat.le_of_eq h.symm)⟩,fun b hb=>.inl hb⟩
 refine k _ _ s.w.heap.size (Nat.le_refl _) (hL.put e hn ⟨rfl,fun g hg=>?_,by simp [lim];omega,List.replicate m cs,⟨by simp,fun j c x hj hx=>?_⟩, ?_⟩)
 ·cases hg;exact .inr rfl
 ·have hj':=List.mem_of_getElem? hj;have hx':=List.mem_of_getElem? hx;rw [List.mem_replicate] at hj' hx';rw [hj'.2,hx'.2];exact h4 _ _
 ·have hmf:=made_flat h3 m (by rw [hcl];exact E.pos);rw [hcl] at hmf;rw [← hmf];simpa using ho'
end
section
variable {u : Bool} [Dr u]
section
variable {P : Program} {ops : Array Oper} {o : Oper} {L L' : Lst} {Q : Exit → Act → World → Prop} {rest : List Oper} {M : Nat → Prop} {n : Nat} {s0 : St} {a : Act} {s : St}
end
def Dis (a b:Option Nat):Prop:=∀k,a=some k→b=some k→False
theorem Dis.symm {a b:Option Nat} (h:Dis a b):Dis b a:=fun k h1 h2=>h k h2 h1
theorem Dis.none {b:Option Nat}:Dis none b:=fun _ h _=>by cases h
theorem Dis.new {a b:Option Nat} {N:Nat} (h:∀k,a=some k→N≤k) (hb:∀k,b=some k→k<N):Dis a b:=fun k h1 h2=>by have:=h k h1;have:=hb k h2;omega
theorem Dis.newg {g:Nat} {b:Option Nat} {N:Nat} (h:N≤g) (hb:∀k,b=some k→k<N):Dis (some g) b:=fun k h1 h2=>by cases h1;have:=hb g h2;omega
theorem Dis.app {a a' b:Option Nat} {N:Nat} (h:∀k,a'=some k→a=some k∨N≤k) (hd:Dis a b) (hb:∀k,b=some k→k<N):Dis a' b:=fun k h1 h2=>(h k h1).elim (fun h=>hd k h h2) (fun h=>by have:=hb k h2;omega)
theorem Has.rlt {α:Type} {E:En α} {N:Nat} {te:TypeId} {og:Option Nat} {xs:List α} {M:Nat→Prop} {n:Nat} {s0:St} {a:Act} {s:St} {L:Lst} (h:Has M n s0 a s L) (t:Nat) (hl:lk L t=some (Pd.row E N te og xs)):∀k,og=some k→k<s.w.heap.size:=fun k hk=>(zfe (h.get t hl) k hk).2
theorem Has.blt {α:Type} {E:En α} {N g:Nat} {x:α} {M:Nat→Prop} {n:Nat} {s0:St} {a:Act} {s:St} {L:Lst} (h:Has M n s0 a s L) (t:Nat) (hl:lk L t=some (Pd.box E N g x)):∀k,some g=some k→k<s.w.heap.size:=fun k hk=>by
 cases hk;obtain ⟨_,_,_,_,_,hc,_⟩:=h.get t hl;exact (Array.getElem?_eq_some_iff.1 hc).1
theorem rdl {P:Program} {id:Nat} {l:List Oper} {Q:Exit→Act→World→Prop} {M:Nat→Prop} {n:Nat} {s0:St} {a:Act} {s:St} {L:Lst} (hf:P.follows .mixedOrders=true) (m:Nat) (qs:List Pd)
  (hL:Has M n s0 a s L) (hok:zdf l.toArray m n (L.map (·.1)) []=true) (hq:qs.length=m) (hm:m≤l.length)
  (hT:∀i o q,i<m→l[i]?=some o→qs[i]?=some q→T P l.toArray o (depL l.toArray qs o.after.toList L) q)
  (hB:∀a' s',Ex s s'→Has M n s0 a' s' (newL l.toArray qs m L)→wpList P l.toArray Q (l.drop m) a' s'.w):(Code.region id l.toArray true).wp P Q a s.w:=by
 refine rd hf m qs hL hok hq (by simpa using hm) (fun i o q hi ho=>hT i o q hi (by simpa using ho)) fun a' s' e h=>?_;have:=hB a' s' e h;rw [← wpOps_eq_wpList (l.drop m) m (fun j=>by simp)] at this;simpa using this
def z7 (P:Program) (ops:Array Oper) (qs0:List Pd) (L:Lst):List Oper→List Pd→Prop
 | _,[]=>True
 | [],_::_=>False
 | o::l,q::qs=>T P ops o (depL ops qs0 o.after.toList L) q∧z7 P ops qs0 L l qs
theorem z7.at {P:Program} {ops:Array Oper} {qs0:List Pd} {L:Lst}:∀(l:List Oper) (qs:List Pd),z7 P ops qs0 L l qs→∀(i:Nat) (o:Oper) (q:Pd),l[i]?=some o→qs[i]?=some q→T P ops o (depL ops qs0 o.after.toList L) q
 | _,[],_,i,o,q,_,hq=>by simp at hq
 | [],_::_,h,_,_,_,_,_=>h.elim
 | o'::l,q'::qs,h,i,o,q,ho,hq=>by
  cases i with
  | zero=>simp only [List.getElem?_cons_zero,Option.some.injEq] at ho hq;subst ho;subst hq;exact h.1
  | succ i=>simp only [List.getElem?_cons_succ] at ho hq;exact z7.at l qs h.2 i o q ho hq
theorem z7.cons {P:Program} {ops:Array Oper} {qs0:List Pd} {L:Lst} {o:Oper} {l:List Oper} {q:Pd} {qs:List Pd} (h:T P ops o (depL ops qs0 o.after.toList L) q) (h2:z7 P ops qs0 L l qs):z7 P ops qs0 L (o::l) (q::qs):=⟨h,h2⟩
theorem z7.nil {P:Program} {ops:Array Oper} {qs0:List Pd} {L:Lst} {l:List Oper}:z7 P ops qs0 L l []:=by cases l <;> trivial
theorem rda {P:Program} {id:Nat} {l:List Oper} {Q:Exit→Act→World→Prop} {M:Nat→Prop} {n:Nat} {s0:St} {a:Act} {s:St} {L:Lst} (hf:P.follows .mixedOrders=true) (m:Nat) (qs:List Pd)
  (hL:Has M n s0 a s L) (hok:zdf l.toArray m n (L.map (·.1)) []=true) (hq:Nat.beq qs.length m=true) (hm:Nat.ble m l.length=true)
  (hT:z7 P l.toArray qs L l qs)
  (hB:∀a' s',Ex s s'→Has M n s0 a' s' (newL l.toArray qs m L)→wpList P l.toArray Q (l.drop m) a' s'.w):(Code.region id l.toArray true).wp P Q a s.w:=
 rdl hf m qs hL hok (Nat.eq_of_beq_eq_true hq) (Nat.le_of_ble_eq_true hm) (fun i o q _ ho hq=>z7.at l qs hT i o q ho hq) hB
theorem o_nil {α:Type} {E:En α} {N:Nat} {te:TypeId} {L:Lst}:Opn L (.const (.slice none 0 0)) (Pd.row E N te none ([]:List α)):=o_c fun s=>own_nil E N te s
theorem o_nilr {α:Type} {E:En α} {L:Lst}:Opn L (.const (.slice none 0 0)) (Pd.rep (En.slice E) ([]:List α)):=o_c fun s=>zb1.2 (slV_nil E _ _)
def Pd.tup2 (q r:Pd):Pd:=⟨fun s v=>∃x y,v = .tuple #[x,y]∧q.p s x∧r.p s y,fun b=>q.own b∨r.own b,fun h hb ⟨x,y,hv,h1,h2⟩=>⟨x,y,hv,q.mv h (fun b hq=>hb b (.inl hq)) h1,r.mv h (fun b hr=>hb b (.inr hr)) h2⟩⟩
theorem Fn.tup {P:Program} {f:FuncId} {qs:List Pd} {q r:Pd} (h:Fn P f qs (Rq2 q r)):Fn P f qs (Rq (Pd.tup2 q r)):=h
section
variable {P : Program} {ops : Array Oper} {o : Oper} {L : Lst}
theorem t_ext0 {q r:Pd} {x:Operand} (hx:Opn L x (Pd.tup2 q r)) (ho:o.op = .extract x 0) (hg:o.guard=none):T P ops o L q:=
 T.pure hg fun M n s0 a s hL=>by
  obtain ⟨u,v,hv,h1,h2⟩:=hx M n s0 a s hL;refine ⟨u, ?_,h1⟩;unfold execOp;rw [ho];simp [hv,Instr.extract]
theorem t_ext1 {q r:Pd} {x:Operand} (hx:Opn L x (Pd.tup2 q r)) (ho:o.op = .extract x 1) (hg:o.guard=none):T P ops o L r:=
 T.pure hg fun M n s0 a s hL=>by
  obtain ⟨u,v,hv,h1,h2⟩:=hx M n s0 a s hL;refine ⟨v, ?_,h2⟩;unfold execOp;rw [ho];simp [hv,Instr.extract]
end
end
end Go.Proofs.YtamjkbneebghmaaDoor.V
namespace Go.Proofs.YtamjkbneebghmaaDoor.V
open Go
set_option linter.unusedVariables false
section
variable {u : Bool} [Dr u]
structure Eqv {α:Type} [BEq α] (P:Program) (t:TypeId) (E:En α):Prop where
 eql:∀(w:World) (S:Nat→Prop) (cs ds:List Value) (x y:α) (a b:Operand),E.R w S cs x→E.R w S ds y →
  (do eqGuard .eql t a b (E.val cs) (E.val ds);binOp .eql t (E.val cs) (E.val ds):Sem Value).run P w = .ok (.bool (x==y)) w
 neq:∀(w:World) (S:Nat→Prop) (cs ds:List Value) (x y:α) (a b:Operand),E.R w S cs x→E.R w S ds y →
  (do eqGuard .neq t a b (E.val cs) (E.val ds);binOp .neq t (E.val cs) (E.val ds):Sem Value).run P w = .ok (.bool (x != y)) w
section
variable {P : Program} {ops : Array Oper} {o : Oper} {L : Lst}
theorem t_eqv {α:Type} [BEq α] {E:En α} {t u:TypeId} (he:Eqv P t E) {x y:Operand} {a b:α} (hx:Opn L x (Pd.rep E a)) (hy:Opn L y (Pd.rep E b)) (ho:o.op = .binOp .eql t x y u) (hg:o.guard=none):T P ops o L (Pd.rep En.bool (a==b)):=
 T.pure hg fun M n s0 ac s hL=>by
  obtain ⟨cs,h1,hR⟩:=hx M n s0 ac s hL;obtain ⟨ds,h2,hS⟩:=hy M n s0 ac s hL;refine ⟨.bool (a==b), ?_,z8.2 rfl⟩;have:=he.eql s.w _ cs ds a b x y hR hS;unfold execOp;rw [ho];simp only [h1,h2,Sem.run_bind] at this ⊢;rw [this];rfl
theorem t_nev {α:Type} [BEq α] {E:En α} {t u:TypeId} (he:Eqv P t E) {x y:Operand} {a b:α} (hx:Opn L x (Pd.rep E a)) (hy:Opn L y (Pd.rep E b)) (ho:o.op = .binOp .neq t x y u) (hg:o.guard=none):T P ops o L (Pd.rep En.bool (a != b)):=
 T.pure hg fun M n s0 ac s hL=>by
  obtain ⟨cs,h1,hR⟩:=hx M n s0 ac s hL;obtain ⟨ds,h2,hS⟩:=hy M n s0 ac s hL;refine ⟨.bool (a != b), ?_,z8.2 rfl⟩;have:=he.neq s.w _ cs ds a b x y hR hS;unfold execOp;rw [ho];simp only [h1,h2,Sem.run_bind] at this ⊢;rw [this];rfl
end
theorem equalIn_int1 {P:Program} (d:Nat) (e:TypeId) (k:IntKind) (he:P.underlying e=some (.int k)) (a b:Int) (w:World):(Op.equalIn (d+1) e (.int k a) (.int k b)).run P w = .ok (a==b) w:=by
 unfold Op.equalIn;simp [run_underlying he]
theorem ze2 {P:Program} (d:Nat) (t e:TypeId) (ht:P.underlying t=some (.array 4 e)) (he:P.underlying e=some (.int .u64)) (hi:(P.info? e).map (·.size)=some 1) (a0 a1 a2 a3 b0 b1 b2 b3:Int) (w:World):
  (Op.equalIn (d+2) t (.agg #[.int .u64 a0,.int .u64 a1,.int .u64 a2,.int .u64 a3]) (.agg #[.int .u64 b0,.int .u64 b1,.int .u64 b2,.int .u64 b3])).run P w = .ok (a0==b0&&(a1==b1&&(a2==b2&&a3==b3))) w:=by
 obtain ⟨i,h1,h2⟩:∃i,P.info? e=some i∧i.size=1:=by
  cases h:P.info? e with
  | none=>rw [h] at hi;cases hi
  | some i=>rw [h] at hi;exact ⟨i,rfl,by simpa using hi⟩
 have hsz:∀w:World,(sizeOf e).run P w = .ok 1 w:=fun w=>by simp [sizeOf,typeInfo,h1,h2]
 have hagg:∀w:World,(isAgg e).run P w = .ok false w:=fun w=>by simp [isAgg,run_underlying he]
 unfold Op.equalIn;simp only [Sem.run_bind,run_underlying ht,Result.andThen_ok,hsz];simp only [Std.Legacy.Range.forIn_eq_forIn_range',Std.Legacy.Range.size,Nat.sub_zero,Nat.div_one,List.range',List.forIn_cons,List.forIn_nil,Sem.run_bind,part,hagg,Result.andThen_ok,Bool.false_eq_true,if_false,Nat.mul_one,Nat.reduceAdd];have h0:=hagg w;have he1:=fun x y=>equalIn_int1 (P:=P) d e .u64 he x y w
 by_cases e0:a0=b0
 ·by_cases e1:a1=b1
  ·by_cases e2:a2=b2
   ·by_cases e3:a3=b3 <;> simp [e0,e1,e2,e3,he1,h0]
   ·simp [e0,e1,e2,he1,h0]
  ·simp [e0,e1,he1,h0]
 ·simp [e0,he1]
theorem eqv_cls {P:Program} {t e:TypeId} (ht:P.underlying t=some (.array 4 e)) (he:P.underlying e=some (.int .u64)) (hi:(P.info? e).map (·.size)=some 1) (hg:P.eqGuardType P.depth t=false):Eqv P t En.cls:=by
 have key:∀x y:Cl,(((x.word 0:Int)==(y.word 0:Int))&&(((x.word 1:Int)==(y.word 1:Int))&&(((x.word 2:Int)==(y.word 2:Int))&&((x.word 3:Int)==(y.word 3:Int)))))=(x==y):=by
  intro x y;rw [Bool.eq_iff_iff];simp only [Bool.and_eq_true,beq_iff_eq,Int.ofNat_inj];constructor
  ·rintro ⟨h0,h1,h2,h3⟩;apply Cl.ext_words;intro i hi
   match i,hi with
   | 0,_=>exact h0
   | 1,_=>exact h1
   | 2,_=>exact h2
   | 3,_=>exact h3
  ·rintro rfl;simp
 constructor
 ·intro w S cs ds x y a b h1 h2;cases h1;cases h2;have hq:=ze2 (P:=P) 9998 t e ht he hi (x.word 0) (x.word 1) (x.word 2) (x.word 3) (y.word 0) (y.word 1) (y.word 2) (y.word 3) w;rw [key] at hq;simp only [En.val,En.cls,zx,cond_true,Sem.run_bind];have hgd:(eqGuard .eql t a b (.agg #[.int .u64 (x.word 0),.int .u64 (x.word 1),.int .u64 (x.word 2),.int .u64 (x.word 3)]) (.agg #[.int .u64 (y.word 0),.int .u64 (y.word 1),.int .u64 (y.word 2),.int .u64 (y.word 3)])).run P w = .ok () w:=by
   simp [eqGuard,hg]
  rw [hgd];simp only [Result.andThen_ok,binOp,Sem.run_bind,Op.equal,Op.maxDepth];rw [hq];rfl
 ·intro w S cs ds x y a b h1 h2;cases h1;cases h2;have hq:=ze2 (P:=P) 9998 t e ht he hi (x.word 0) (x.word 1) (x.word 2) (x.word 3) (y.word 0) (y.word 1) (y.word 2) (y.word 3) w;rw [key] at hq;simp only [En.val,En.cls,zx,cond_true,Sem.run_bind];have hgd:(eqGuard .neq t a b (.agg #[.int .u64 (x.word 0),.int .u64 (x.word 1),.int .u64 (x.word 2),.int .u64 (x.word 3)]) (.agg #[.int .u64 (y.word 0),.int .u64 (y.word 1),.int .u64 (y.word 2),.int .u64 (y.word 3)])).run P w = .ok () w:=by
   simp [eqGuard,hg]
  rw [hgd];simp only [Result.andThen_ok,binOp,Sem.run_bind,Op.equal,Op.maxDepth];rw [hq];rfl
section
variable {P : Program} {ops : Array Oper} {o : Oper} {L : Lst}
theorem t_bcls {x:Cl} {t e:TypeId} {parts:Array (Nat × Operand)} (ht:P.underlying t=some (.array 4 e)) (hi:(P.info? e).map (·.size)=some 1) (hz:TyZ P t En.cls 0#256)
  (hp:∀a:Act,Instr.fill (fun i=>some (i*1,1)) (zx 0#256).toArray (parts.map fun (i,x)=>(i,a.eval x)).toList=some (zx x).toArray) (ho:o.op = .build t parts) (hg:o.guard=none):T P ops o L (Pd.rep En.cls x):=
 T.pure hg fun M n s0 a s hL=>by
  obtain ⟨i,h1,h2⟩:∃i,P.info? e=some i∧i.size=1:=by
   cases h:P.info? e with
   | none=>rw [h] at hi;cases hi
   | some i=>rw [h] at hi;exact ⟨i,rfl,by simpa using hi⟩
  obtain ⟨i',v,cs,h3,h4,h5,h6⟩:=hz.zero;have hc:cs=zx 0#256:=h6 s.w (zcz s);subst hc;refine ⟨.agg (zx x).toArray, ?_,rep_cls.2 rfl⟩;have hsz:(sizeOf e).run P s.w = .ok 1 s.w:=by simp [sizeOf,typeInfo,h1,h2]
  have hzv:(zeroValue t).run P s.w = .ok v s.w:=by simp [zeroValue,typeInfo,h3,h4]
  unfold execOp;rw [ho];simp only [Instr.build,Sem.run_bind,hzv,Result.andThen_ok,run_underlying ht,hsz,h5,hp a];rfl
end
end
end Go.Proofs.YtamjkbneebghmaaDoor.V
namespace Go.Proofs.YtamjkbneebghmaaDoor.V
open Go
set_option linter.unusedVariables false
section
variable {u : Bool} [Dr u]
def shrI (x c:Int):Int:=x / 2 ^ min c.toNat 64
def andI (x y:Int):Int:=((x.toNat &&& y.toNat:Nat):Int)
def Cl.w (c:Cl) (i:Int):Int:=(c.word i.toNat:Int)
def Cl.setw (c:Cl) (i v:Int):Cl:=Cl.ofWords (if i=0 then v.toNat else c.word 0) (if i=1 then v.toNat else c.word 1) (if i=2 then v.toNat else c.word 2) (if i=3 then v.toNat else c.word 3)
theorem zd2 {x:Int}:InR .u64 x↔0≤x∧x≤18446744073709551615:=by simp [InR,IntKind.min,IntKind.max,IntKind.signed,IntKind.bits]
theorem zed {x:Int}:InR .u8 x↔0≤x∧x≤255:=by simp [InR,IntKind.min,IntKind.max,IntKind.signed,IntKind.bits]
theorem inR_i64 {x:Int}:InR .i64 x↔-9223372036854775808≤x∧x≤9223372036854775807:=by simp [InR,IntKind.min,IntKind.max,IntKind.signed,IntKind.bits]
theorem wrap_u64 (x:Int):IntKind.u64.wrap x=x % 18446744073709551616:=by simp [IntKind.wrap,IntKind.signed,IntKind.bits]
theorem bv_u64 {x:Int} (h:InR .u64 x):(BitVec.ofInt 64 x).toNat=x.toNat:=by
 rw [zd2] at h;rw [BitVec.toNat_ofInt]
 congr 1
 exact Int.emod_eq_of_lt h.1 (by simp;omega)
theorem bits_lt {a b:Nat} (ha:a<2 ^ 64) (hb:b<2 ^ 64):(a &&& b)<2 ^ 64∧(a ||| b)<2 ^ 64∧(a ^^^ b)<2 ^ 64:=⟨Nat.and_lt_two_pow a hb,Nat.or_lt_two_pow ha hb,Nat.xor_lt_two_pow ha hb⟩
theorem zej {x:Int} (h:InR .u64 x):x.toNat<2 ^ 64:=by rw [zd2] at h;omega
section
variable {P : Program} {ops : Array Oper} {o : Oper} {L : Lst}
theorem t_shr {yk:IntKind} {x y:Operand} {a c:Int} (hx:Opn L x (Pd.rep (En.int .u64) a)) (hy:Opn L y (Pd.rep (En.int yk) c)) (hk:0≤yk.min) {t u:TypeId} (ho:o.op = .binOp .shr t x y u) (hg:o.guard=none):T P ops o L (Pd.rep (En.int .u64) (shrI a c)):=
 T.pure hg fun M n s0 ac s hL=>by
  obtain ⟨h1,r1⟩:=zg.1 (hx M n s0 ac s hL);obtain ⟨h2,r2⟩:=zg.1 (hy M n s0 ac s hL);have hc:0≤c:=Int.le_trans hk r2.1;refine ⟨.int .u64 (shrI a c), ?_,zg.2 ⟨rfl, ?_⟩⟩
  ·unfold execOp;rw [ho];simp [h1,h2,eqGuard,binOp,shift_shr_any _ _ _ _ hc,shrI,IntKind.bits]
  ·rw [zd2] at r1 ⊢;unfold shrI;have hp:(0:Int)<2 ^ min c.toNat 64:=Int.pow_pos (by decide);refine ⟨Int.ediv_nonneg r1.1 (Int.le_of_lt hp),Int.le_trans (Int.ediv_le_self _ r1.1) r1.2⟩
theorem t_bits {x y:Operand} {a b:Int} (op:BinOp) (f:Int→Int→Int) (hf:∀a b:Int,InR .u64 a→InR .u64 b→(Op.intBits op .u64 a b:Sem Value)=Pure.pure (.int .u64 (f a b))∧InR .u64 (f a b)) (hop:op = .and∨op = .or∨op = .xor)
  (hx:Opn L x (Pd.rep (En.int .u64) a)) (hy:Opn L y (Pd.rep (En.int .u64) b)) {t u:TypeId} (ho:o.op = .binOp op t x y u) (hg:o.guard=none):T P ops o L (Pd.rep (En.int .u64) (f a b)):=
 T.pure hg fun M n s0 ac s hL=>by
  obtain ⟨h1,r1⟩:=zg.1 (hx M n s0 ac s hL);obtain ⟨h2,r2⟩:=zg.1 (hy M n s0 ac s hL);obtain ⟨e,r⟩:=hf a b r1 r2;refine ⟨.int .u64 (f a b), ?_,zg.2 ⟨rfl,r⟩⟩;unfold execOp;rw [ho];simp only [h1,h2];rcases hop with rfl | rfl | rfl <;> simp [eqGuard,binOp,e]
theorem and_ok {a b:Int} (ha:InR .u64 a) (hb:InR .u64 b):(Op.intBits .and .u64 a b:Sem Value)=Pure.pure (.int .u64 (andI a b))∧InR .u64 (andI a b):=by
 have hl:=(bits_lt (zej ha) (zej hb)).1;have hr:InR .u64 (andI a b):=by rw [zd2];unfold andI;omega
 refine ⟨?_,hr⟩;have e:((BitVec.ofInt 64 a &&& BitVec.ofInt 64 b).toNat:Int)=andI a b:=by rw [BitVec.toNat_and,bv_u64 ha,bv_u64 hb];rfl
 show (Pure.pure (.int .u64 (IntKind.u64.wrap ((BitVec.ofInt 64 a &&& BitVec.ofInt 64 b).toNat:Int))):Sem Value)=_;rw [e,zfi hr]
theorem t_andb {x y:Operand} {a b:Int} (hx:Opn L x (Pd.rep (En.int .u64) a)) (hy:Opn L y (Pd.rep (En.int .u64) b)) {t u:TypeId} (ho:o.op = .binOp .and t x y u) (hg:o.guard=none):T P ops o L (Pd.rep (En.int .u64) (andI a b)):=
 t_bits .and andI (fun _ _=>and_ok) (.inl rfl) hx hy ho hg
theorem t_wr {k:IntKind} {x y:Operand} {a b:Int} (op:BinOp) (f:Int→Int→Int) (hf:∀a b,(Op.intArith op k a b:Sem Value)=Pure.pure (.int k (k.wrap (f a b)))) (hop:op = .add∨op = .sub∨op = .mul)
  (hx:Opn L x (Pd.rep (En.int k) a)) (hy:Opn L y (Pd.rep (En.int k) b)) {t u:TypeId} (ho:o.op = .binOp op t x y u) (hg:o.guard=none):T P ops o L (Pd.rep (En.int k) (k.wrap (f a b))):=
 T.pure hg fun M n s0 ac s hL=>by
  have h1:=(zg.1 (hx M n s0 ac s hL)).1;have h2:=(zg.1 (hy M n s0 ac s hL)).1;refine ⟨.int k (k.wrap (f a b)), ?_,zg.2 ⟨rfl,wrap_inR k _⟩⟩;unfold execOp;rw [ho];simp only [h1,h2];rcases hop with rfl | rfl | rfl <;> simp [eqGuard,binOp,hf]
theorem t_addw {k:IntKind} {x y:Operand} {a b:Int} (hx:Opn L x (Pd.rep (En.int k) a)) (hy:Opn L y (Pd.rep (En.int k) b)) {t u:TypeId} (ho:o.op = .binOp .add t x y u) (hg:o.guard=none):T P ops o L (Pd.rep (En.int k) (IntKind.wrap k (a+b))):=t_wr .add (· + ·) (fun _ _=>rfl) (.inl rfl) hx hy ho hg
theorem t_mulw {k:IntKind} {x y:Operand} {a b:Int} (hx:Opn L x (Pd.rep (En.int k) a)) (hy:Opn L y (Pd.rep (En.int k) b)) {t u:TypeId} (ho:o.op = .binOp .mul t x y u) (hg:o.guard=none):T P ops o L (Pd.rep (En.int k) (IntKind.wrap k (a*b))):=t_wr .mul (· * ·) (fun _ _=>rfl) (.inr (.inr rfl)) hx hy ho hg
theorem div_in {k:IntKind} {a b:Int} (h0:0≤a) (hb:0<b) (hr:InR k a) (hk:k.min≤0):InR k (a / b)∧InR k (a % b):=by
 have h1:0≤a / b:=Int.ediv_nonneg h0 (Int.le_of_lt hb);have h2:a / b≤a:=Int.ediv_le_self _ h0;have h3:0≤a % b:=Int.emod_nonneg _ (by omega);have h4:a % b≤a:=by
  have:=Int.mul_ediv_add_emod a b;have:0≤b*(a / b):=Int.mul_nonneg (Int.le_of_lt hb) h1;omega
 exact ⟨⟨Int.le_trans hk h1,Int.le_trans h2 hr.2⟩,⟨Int.le_trans hk h3,Int.le_trans h4 hr.2⟩⟩
theorem t_quo {k:IntKind} {x y:Operand} {a b:Int} (hx:Opn L x (Pd.rep (En.int k) a)) (hy:Opn L y (Pd.rep (En.int k) b)) (h0:0≤a) (hb:0<b) {t u:TypeId} (ho:o.op = .binOp .quo t x y u) (hg:o.guard=none):T P ops o L (Pd.rep (En.int k) (a / b)):=
 T.pure hg fun M n s0 ac s hL=>by
  obtain ⟨h1,r1⟩:=zg.1 (hx M n s0 ac s hL);obtain ⟨h2,r2⟩:=zg.1 (hy M n s0 ac s hL);have hr:=(div_in (k:=k) h0 hb r1 (by cases k <;> decide)).1;refine ⟨.int k (a / b), ?_,zg.2 ⟨rfl,hr⟩⟩;unfold execOp;rw [ho];simp [h1,h2,eqGuard,binOp,Op.intDiv,show b≠0 by omega,Int.tdiv_eq_ediv_of_nonneg h0,zfi hr]
theorem t_rem {k:IntKind} {x y:Operand} {a b:Int} (hx:Opn L x (Pd.rep (En.int k) a)) (hy:Opn L y (Pd.rep (En.int k) b)) (h0:0≤a) (hb:0<b) {t u:TypeId} (ho:o.op = .binOp .rem t x y u) (hg:o.guard=none):T P ops o L (Pd.rep (En.int k) (a % b)):=
 T.pure hg fun M n s0 ac s hL=>by
  obtain ⟨h1,r1⟩:=zg.1 (hx M n s0 ac s hL);obtain ⟨h2,r2⟩:=zg.1 (hy M n s0 ac s hL);have hr:=(div_in (k:=k) h0 hb r1 (by cases k <;> decide)).2;refine ⟨.int k (a % b), ?_,zg.2 ⟨rfl,hr⟩⟩;unfold execOp;rw [ho];simp [h1,h2,eqGuard,binOp,Op.intDiv,show b≠0 by omega,Int.tmod_eq_emod_of_nonneg h0]
theorem t_quou {k:IntKind} {x y:Operand} {a b:Int} (hx:Opn L x (Pd.rep (En.int k) a)) (hy:Opn L y (Pd.rep (En.int k) b)) (hk:0≤k.min) (hb:0<b) {t u:TypeId} (ho:o.op = .binOp .quo t x y u) (hg:o.guard=none):T P ops o L (Pd.rep (En.int k) (a / b)):=
 fun M n s0 ac s hL=>t_quo hx hy (Int.le_trans hk (zg.1 (hx M n s0 ac s hL)).2.1) hb ho hg M n s0 ac s hL
theorem t_remu {k:IntKind} {x y:Operand} {a b:Int} (hx:Opn L x (Pd.rep (En.int k) a)) (hy:Opn L y (Pd.rep (En.int k) b)) (hk:0≤k.min) (hb:0<b) {t u:TypeId} (ho:o.op = .binOp .rem t x y u) (hg:o.guard=none):T P ops o L (Pd.rep (En.int k) (a % b)):=
 fun M n s0 ac s hL=>t_rem hx hy (Int.le_trans hk (zg.1 (hx M n s0 ac s hL)).2.1) hb ho hg M n s0 ac s hL
theorem word_in (c:Cl) (i:Int):InR .u64 (c.w i):=by
 have:=c.word_lt i.toNat;rw [zd2];unfold Cl.w;omega
theorem cls_cell {c:Cl} {i:Int} (h0:0≤i) (h4:i<4):(zx c)[i.toNat]?=some (.int .u64 (c.w i)):=by
 have:i=0∨i=1∨i=2∨i=3:=by omega
 rcases this with rfl | rfl | rfl | rfl <;> rfl
theorem run_idxc {t te:TypeId} {k:IntKind} {i:Int} {b off:Nat} (h:0≤i∧i<4) (ht:P.underlying t=some (.array 4 te)) (hi:(P.info? te).map (·.size)=some 1) (w:World):
  (Instr.indexAt t (.pointer (some ⟨b,off,none⟩)) (.int k i)).run P w = .ok (.pointer (some ⟨b,off+i.toNat,none⟩)) w:=by
 obtain ⟨inf,h1,h2⟩:∃i,P.info? te=some i∧i.size=1:=by
  cases h:P.info? te with
  | none=>rw [h] at hi;cases hi
  | some i=>rw [h] at hi;exact ⟨i,rfl,by simpa using hi⟩
 have hsz:∀w:World,(sizeOf te).run P w = .ok 1 w:=fun w=>by simp [sizeOf,typeInfo,h1,h2]
 simp only [Instr.indexAt,asIntOf,Sem.run_bind,Sem.run_pure,Result.andThen_ok,run_underlying ht,Instr.sureAddr];rw [if_pos (by omega)];simp [hsz,zd4]
theorem t_idxc {c:Cl} {k:IntKind} {i:Int} {x y:Operand} {t te:TypeId} (hx:Opn L x (Pd.ptr En.cls c)) (hy:Opn L y (Pd.rep (En.int k) i)) (h:0≤i∧i<4)
  (ht:P.underlying t=some (.array 4 te)) (hi:(P.info? te).map (·.size)=some 1) (ho:o.op = .indexAddr t x y) (hg:o.guard=none):T P ops o L (Pd.ptr (En.int .u64) (c.w i)):=
 T.pure hg fun M n s0 ac s hL=>by
  obtain ⟨b,off,cs,hv,hb,hc,hR⟩:=hx M n s0 ac s hL;cases hR;have hi':=(zg.1 (hy M n s0 ac s hL)).1;refine ⟨.pointer (some ⟨b,off+i.toNat,none⟩), ?_,b,off+i.toNat,[.int .u64 (c.w i)],rfl,hb, ?_,rfl,word_in c i⟩
  ·unfold execOp;rw [ho];have:=run_idxc (P:=P) (b:=b) (off:=off) (k:=k) h ht hi s.w;simp [hv,hi',this]
  ·intro j u hj;cases j with
   | zero=>simp at hj;subst hj;exact hc _ _ (cls_cell h.1 h.2)
   | succ j=>simp at hj
theorem t_idxcb {c:Cl} {k:IntKind} {i:Int} {N g:Nat} {x y:Operand} {t te:TypeId} (hx:Opn L x (Pd.box En.cls N g c)) (hy:Opn L y (Pd.rep (En.int k) i)) (h:0≤i∧i<4)
  (ht:P.underlying t=some (.array 4 te)) (hi:(P.info? te).map (·.size)=some 1) (ho:o.op = .indexAddr t x y) (hg:o.guard=none):T P ops o L (Pd.optr (En.int .u64) N (some g) i.toNat (c.w i)):=
 T.pure hg fun M n s0 ac s hL=>by
  obtain ⟨hv,hN,hX,cs,t',hc,hR⟩:=hx M n s0 ac s hL;cases hR;have hi':=(zg.1 (hy M n s0 ac s hL)).1;refine ⟨.pointer (some ⟨g,0+i.toNat,none⟩), ?_,g,rfl,by rw [Nat.zero_add],hN,(Array.getElem?_eq_some_iff.1 hc).1,hX,[.int .u64 (c.w i)], ?_,rfl,word_in c i⟩
  ·unfold execOp;rw [ho];have:=run_idxc (P:=P) (b:=g) (off:=0) (k:=k) h ht hi s.w;simp only [hv,hi',Sem.run_bind,this,Result.andThen_ok,Sem.run_pure]
  ·intro j u hj;cases j with
   | zero=>
    simp at hj;subst hj;have:=zba hc i.toNat _ (cls_cell h.1 h.2);simpa using this
   | succ j=>simp at hj
theorem sub_cls {c:Cl} {i v:Int} (h:0≤i∧i<4):Sub En.cls i.toNat (En.int .u64) c (c.setw i v) v:=by
 refine ⟨by show i.toNat+1≤4;omega, ?_⟩;rintro w S cs cs' hR ⟨hc,hr⟩;cases hR;subst hc;show spl (zx c) i.toNat [.int .u64 v]=zx (c.setw i v);have hv:((v.toNat:Nat):Int)=v:=by rw [zd2] at hr;omega
 have hl:=zej hr;have h0:=c.word_lt 0;have h1:=c.word_lt 1;have h2:=c.word_lt 2;have h3:=c.word_lt 3;have:i=0∨i=1∨i=2∨i=3:=by omega
 rcases this with rfl | rfl | rfl | rfl
 ·obtain ⟨e0,e1,e2,e3⟩:=Cl.ofWords_word hl h1 h2 h3;simp [zx,spl,Cl.setw,e0,e1,e2,e3,hv]
 ·obtain ⟨e0,e1,e2,e3⟩:=Cl.ofWords_word h0 hl h2 h3;simp [zx,spl,Cl.setw,e0,e1,e2,e3,hv]
 ·obtain ⟨e0,e1,e2,e3⟩:=Cl.ofWords_word h0 h1 hl h3;simp [zx,spl,Cl.setw,e0,e1,e2,e3,hv]
 ·obtain ⟨e0,e1,e2,e3⟩:=Cl.ofWords_word h0 h1 h2 hl;simp [zx,spl,Cl.setw,e0,e1,e2,e3,hv]
end
end
end Go.Proofs.YtamjkbneebghmaaDoor.V
namespace Go.Proofs.YtamjkbneebghmaaDoor.V
open Go
theorem zdi:Tryd.prog.follows .mixedOrders=true:=by kernel_rfl
theorem laid:laidOutB Tryd.prog=true:=by kernel_rfl
theorem own:ownKnob Tryd.prog.godebug=none:=by kernel_rfl
set_option linter.unusedVariables false
section
variable {u : Bool} [Dr u]
section
variable {P : Program} {ops : Array Oper} {o : Oper} {L L' : Lst} {Q : Exit → Act → World → Prop} {rest : List Oper} {M : Nat → Prop} {n : Nat} {s0 : St} {a : Act} {s : St}
end
theorem t_min {P:Program} {ops:Array Oper} {o:Oper} {L:Lst} {k:IntKind} {x y:Int} {u v:Operand} {ats:Array TypeId} (hx:Opn L u (Pd.rep (En.int k) x)) (hy:Opn L v (Pd.rep (En.int k) y)) (ho:o.op = .call { callee:=.builtin .min,args:=#[u,v],argTypes:=ats }) (hg:o.guard=none):
  T P ops o L (Pd.rep (En.int k) (min x y)):=
 T.pure hg fun M n s0 ac s hL=>by
  obtain ⟨h1,h2⟩:=zg.1 (hx M n s0 ac s hL);obtain ⟨h3,h4⟩:=zg.1 (hy M n s0 ac s hL);refine ⟨.int k (min x y), ?_,zg.2 ⟨rfl,by unfold InR at *;omega⟩⟩;unfold execOp;rw [ho];simp only [resolve,invoke,builtin,Builtin.min_,Sem.run_bind,Sem.run_pure,Result.andThen_ok];simp [h1,h3,Builtin.min2]
  by_cases h:x≤y
  ·simp [Int.min_eq_left h,Int.not_lt.2 h]
  ·have h':y≤x:=by omega
   simp [Int.min_eq_right h',Int.not_le.1 h]
theorem t_max {P:Program} {ops:Array Oper} {o:Oper} {L:Lst} {k:IntKind} {x y:Int} {u v:Operand} {ats:Array TypeId} (hx:Opn L u (Pd.rep (En.int k) x)) (hy:Opn L v (Pd.rep (En.int k) y)) (ho:o.op = .call { callee:=.builtin .max,args:=#[u,v],argTypes:=ats }) (hg:o.guard=none):
  T P ops o L (Pd.rep (En.int k) (max x y)):=
 T.pure hg fun M n s0 ac s hL=>by
  obtain ⟨h1,h2⟩:=zg.1 (hx M n s0 ac s hL);obtain ⟨h3,h4⟩:=zg.1 (hy M n s0 ac s hL);refine ⟨.int k (max x y), ?_,zg.2 ⟨rfl,by unfold InR at *;omega⟩⟩;unfold execOp;rw [ho];simp only [resolve,invoke,builtin,Builtin.max_,Sem.run_bind,Sem.run_pure,Result.andThen_ok];simp [h1,h3,Builtin.max2]
  by_cases h:x≤y
  ·simp [Int.max_eq_right h];omega
  ·have h':y≤x:=by omega
   simp [Int.max_eq_left h'];omega
def En.fun (P:Program) {β:Type} (qs:β→List Pd) (R:β→St→St→Value→Prop):En (β→Prop) where
 sz:=1
 agg:=false
 R:=fun w S cs F=>(cs=[.nilFunc]∧∀q,¬ F q)∨∃(f:FuncId) (first cap:Array Value),cs=[.func (.func f) first cap]∧(∀(args:Array Value) (w:World),(callFunc f args).run P w = .ok (.enter f args) w) ∧
  ∀s:St,Gl s→(∀b,S b→zcz s b)→Same S w s.w→∀q,F q→∀vs,Vals s (qs q) vs→Calls P f (first++vs.toArray++cap) s.w fun e w'=>∃(v:Value) (s':St),e = .returned v∧s'.w=w'∧Ex s s'∧R q s s' v
 sc:=fun _=>rfl
 pos:=Nat.one_pos
 len:=by rintro _ _ _ _ (⟨rfl,_⟩ | ⟨_,_,_,rfl,_⟩) <;> rfl
 one:=by rintro _ _ _ _ (⟨rfl,_⟩ | ⟨_,_,_,rfl,_⟩) u hu <;> (simp at hu;subst hu;rfl)
 mono:=by
  rintro w S S' cs F h (h0 | ⟨f,first,cap,hc,h1,h2⟩)
  ·exact .inl h0
  ·exact .inr ⟨f,first,cap,hc,h1,fun s hg ha hb=>h2 s hg (fun b hS=>ha b (h b hS)) fun b hS=>hb b (h b hS)⟩
 move:=by
  rintro w w' S cs F h (h0 | ⟨f,first,cap,hc,h1,h2⟩)
  ·exact .inl h0
  ·exact .inr ⟨f,first,cap,hc,h1,fun s hg ha hb=>h2 s hg ha fun b hS=>(hb b hS).trans (h b hS)⟩
def Pd.Enc (q:Pd):Prop:=∀s s' v,(∀b,zcz s b→zcz s' b)→Same (zcz s) s.w s'.w→q.p s v→q.p s' v
theorem zbu {α:Type} {E:En α} {x:α}:(Pd.ptr E x).Enc:=fun s s' v hf hs ⟨b,o,cs,hv,hb,hc,hR⟩=>⟨b,o,cs,hv,hf b hb,hc.same (hs b hb),E.mono hf (E.move hs hR)⟩
theorem vals_enc {s s':St} (hf:∀b,zcz s b→zcz s' b) (hs:Same (zcz s) s.w s'.w):∀{qs:List Pd} {vs:List Value},(∀q∈qs,q.Enc)→Vals s qs vs→Vals s' qs vs
 | [],[],_,h=>h
 | [],_::_,_,h=>h.elim
 | _::_,[],_,h=>h.elim
 | q::qs,v::vs,ho,h=>⟨ho q (by simp) s s' v hf hs h.1,vals_enc hf hs (fun q' hq'=>ho q' (by simp [hq'])) h.2⟩
theorem vals_app {s:St}:∀{qs qs':List Pd} {vs vs':List Value},Vals s qs vs→Vals s qs' vs'→Vals s (qs++qs') (vs++vs')
 | [],_,[],_,_,h=>h
 | [],_,_::_,_,h,_=>h.elim
 | _::_,_,[],_,h,_=>h.elim
 | _::_,_,_::_,_,h,k=>⟨h.1,vals_app h.2 k⟩
section
variable {P : Program} {ops : Array Oper} {o : Oper} {L : Lst} {β : Type} {qs : β → List Pd} {R : β → St → St → Value → Prop} {F : β → Prop}
theorem o_fun {f:FuncId} (hc:∀(args:Array Value) (w:World),(callFunc f args).run P w = .ok (.enter f args) w) (h:∀q,F q→Fn P f (qs q) (R q)):Opn L (.func f) (Pd.rep (En.fun P qs R) F):=
 fun M n s0 a s hL=>⟨[.func (.func f) #[] #[]],rfl,.inr ⟨f,#[],#[],rfl,hc,fun s1 hgl _ _ q hq vs hv=>by simpa using (h q hq).run s1 vs hgl hv⟩⟩
theorem zca {f:FuncId} {cs:List Operand} {qc:List Pd} (hx:Opns L cs qc) (hc:∀(args:Array Value) (w:World),(callFunc f args).run P w = .ok (.enter f args) w)
  (henc:∀q∈qc,q.Enc) (h:∀q,F q→Fn P f (qs q++qc) (R q)) (ho:o.op = .makeFunc (.func f) #[] cs.toArray) (hg:o.guard=none):T P ops o L (Pd.rep (En.fun P qs R) F):=
 T.pure hg fun M n s0 a s hL=>by
  refine ⟨.func (.func f) #[] (cs.map a.eval).toArray, ?_,[.func (.func f) #[] (cs.map a.eval).toArray],rfl,.inr ⟨f,#[],(cs.map a.eval).toArray,rfl,hc,fun s1 hgl hf hs q hq vs hv=>?_⟩⟩
  ·unfold execOp;rw [ho];simp [Instr.makeFunc]
  ·have:=(h q hq).run s1 (vs++cs.map a.eval) hgl (vals_app hv (vals_enc hf hs henc (hx.vals hL)));simpa using this
theorem zc2 {t:Nat} {xs:List Operand} {q:β} {q':Pd} {ats:Array TypeId} (hf:Opn L (.tmp t) (Pd.rep (En.fun P qs R) F)) (hq:F q) (hx:Opns L xs (qs q)) (hR:∀s s' v,R q s s' v→q'.p s' v)
  (ho:o.op = .call { callee:=.value (.tmp t),args:=xs.toArray,argTypes:=ats }) (hg:o.guard=none):T P ops o L q':=fun M n s0 a s hL Q k hk=>by
 simp only [Region.wanted,hg,if_true];obtain ⟨cs,hv,h⟩:=hf M n s0 a s hL;rcases h with ⟨_,h0⟩ | ⟨f,first,cap,hcs,hc,hr⟩
 ·exact (h0 q hq).elim
 subst hcs;have hv:a.eval (.tmp t) = .func (.func f) first cap:=hv
 have e:(execOp a.eval o).run P s.w = .ok (.enter f (first++(xs.map a.eval).toArray++cap)) s.w:=by
  have e1:execOp a.eval o=(do let d ← Deferred.ofValue (a.eval (.tmp t)) (xs.toArray.map a.eval);invoke d.target d.args):=by
   unfold execOp;rw [ho];rfl
  rw [e1,hv];have:=hc (first++(xs.map a.eval).toArray++cap) s.w;simpa [Deferred.ofValue,invoke] using this
 unfold Oper.wp;rw [e,Oper.upon_enter];refine (hr s hL.gls (fun _ h=>h) (fun _ _=>rfl) q hq _ (hx.vals hL)).mono fun e w' ⟨v,s',he,hw,hx,hq⟩=>?_;subst he;subst hw;exact hk v s' ⟨hx,hR _ _ _ hq⟩
end
theorem zcc:∀q∈([]:List Pd),q.Enc:=fun q h=>by cases h
theorem zbf {q:Pd} {qs:List Pd} (h:q.Enc) (k:∀q∈qs,q.Enc):∀q'∈q::qs,q'.Enc:=fun q' hq=>(List.mem_cons.1 hq).elim (fun e=>e ▸ h) (k q')
theorem zbw {P:Program} {f:FuncId} {fn:Func} {c:Code} (hf:P.funcs[f]?=some fn) (hb:fn.body=some c) (hm:(fn.name == "runtime.NumGoroutine")=false):∀(args:Array Value) (w:World),(callFunc f args).run P w = .ok (.enter f args) w:=fun args w=>by
 have hm':¬ fn.name = "runtime.NumGoroutine":=by simpa using hm
 simp [callFunc,hf,hm',hb]
theorem o_q {L:Lst} {x:Operand} (q:Pd) (h:Opn L x q):Opn L x q:=h
theorem t_q {P:Program} {ops:Array Oper} {o:Oper} {L:Lst} (q:Pd) (h:T P ops o L q):T P ops o L q:=h
theorem Has.freezeb {α:Type} {E:En α} {g:Nat} {x:α} {M:Nat→Prop} {n:Nat} {s0:St} {a:Act} {s:St} {L L':Lst} (h:Has M n s0 a s L) (t:Nat) (hl:lk L t=some (Pd.box E s0.w.heap.size g x))
  (hk:Kp (fun b=>some g=some b) L L'):∃s',s'.w=s.w∧Has M n s0 a s' ((t,Pd.ptr E x)::L'):=by
 obtain ⟨hv,hN,hX,cs,te,hg,hR⟩:=h.get t hl;refine ⟨⟨s.w,fun b=>s.X b∧¬ some g=some b,fun b hb=>s.lt b hb.1⟩,rfl, ?_⟩;have e:Ef (fun b=>some g=some b) s ⟨s.w,fun b=>s.X b∧¬ some g=some b,fun b hb=>s.lt b hb.1⟩:=
  ⟨⟨DR.eq rfl,rfl,rfl,rfl,Nat.le_refl _,fun _ _ _=>rfl,fun b hb=>by cases hb;exact hX,fun b hb=>.inl hb.1⟩,fun b hb hn=>⟨hb,hn⟩⟩
 refine (h.ef e (fun b hb=>by cases hb;exact hN) hk).cons t ⟨g,0,cs,hv,⟨(Array.getElem?_eq_some_iff.1 hg).1,fun hx=>hx.2 rfl⟩,zba hg, ?_⟩;exact E.mono (fun b hb=>⟨hb.1,fun hx=>hb.2 hx.1⟩) hR
end
end Go.Proofs.YtamjkbneebghmaaDoor.V
namespace Go.Proofs.YtamjkbneebghmaaDoor.V
open Go
set_option linter.unusedVariables false
section
variable {u : Bool} [Dr u]
def Pd.ge (K:Nat):Pd:=⟨fun s _=>K≤s.w.heap.size,fun _=>False,fun h _ hp=>Nat.le_trans hp h.size⟩
def Pd.erow {α:Type} (E:En α) (N K:Nat) (te:TypeId) (xs:List α):Pd:=
 ⟨fun s v=>∃og,(∀b,og=some b→K≤b)∧(Pd.row E N te og xs).p s v,fun b=>K≤b,fun h hb ⟨og,hg,hp⟩=>⟨og,hg,(Pd.row E N te og xs).mv h (fun b hbg=>hb _ (hg b hbg)) hp⟩⟩
section
variable {M : Nat → Prop} {n : Nat} {s0 : St} {a : Act} {s : St} {L : Lst}
theorem Has.mark (h:Has M n s0 a s L) (t:Nat):∃K,K=s.w.heap.size∧s0.w.heap.size≤K∧Has M n s0 a s ((t,Pd.ge K)::L):=⟨_,rfl,h.ent.mv.size,h.cons t (Nat.le_refl _)⟩
theorem Has.openr {α:Type} {E:En α} {N K:Nat} {te:TypeId} {xs:List α} (h:Has M n s0 a s L) (t:Nat) (hl:lk L t=some (Pd.erow E N K te xs)):∃og,(∀b,og=some b→K≤b)∧Has M n s0 a s ((t,Pd.row E N te og xs)::L):=by
 obtain ⟨og,hg,hp⟩:=h.get t hl;exact ⟨og,hg,h.cons t hp⟩
end
section
variable {P : Program} {ops : Array Oper} {o : Oper} {L : Lst}
theorem t_callox {α:Type} {E:En α} {te:TypeId} {zs:List α} {f:FuncId} {xs:List Operand} {qs:List Pd} {ats:Array TypeId} {N K m:Nat} (hk:lk L m=some (Pd.ge K)) (hN:N≤K) (hf:Fn P f qs (Ro E te zs)) (hx:Opns L xs qs)
  (ho:o.op = .call { callee:=.value (.func f),args:=xs.toArray,argTypes:=ats }) (hg:o.guard=none):T P ops o L (Pd.erow E N K te zs):=fun M n s0 a s hL Q k hkk=>by
 have hK:K≤s.w.heap.size:=hL.get m hk;simp only [Region.wanted,hg,if_true];unfold Oper.wp;rw [zdy hf a s.w ho,Oper.upon_enter];refine (hf.run s _ hL.gls (hx.vals hL)).mono fun e w' ⟨v,s',he,hw,hx,og,hq⟩=>?_;subst he;subst hw;exact hkk v s' ⟨hx,og,fun b hb=>Nat.le_trans hK (zfe hq b hb).1,row_weak (Nat.le_trans hN hK) hq⟩
end
end
end Go.Proofs.YtamjkbneebghmaaDoor.V
namespace Go.Proofs.YtamjkbneebghmaaDoor.V
open Go
set_option linter.unusedVariables false
section
variable {u : Bool} [Dr u]
def En.cat {α β:Type} (E:En α) (F:En β):En (α × β) where
 sz:=E.sz+F.sz
 agg:=true
 R:=fun w S cs x=>∃a b,cs=a++b∧E.R w S a x.1∧F.R w S b x.2
 sc:=fun h=>by cases h
 pos:=Nat.add_pos_left E.pos _
 len:=by rintro _ _ _ _ ⟨a,b,rfl,h1,h2⟩;rw [List.length_append,E.len h1,F.len h2]
 one:=by
  rintro _ _ _ _ ⟨a,b,rfl,h1,h2⟩ u hu
  rcases List.mem_append.1 hu with h | h
  ·exact E.one h1 u h
  ·exact F.one h2 u h
 mono:=by rintro w S S' cs x h ⟨a,b,rfl,h1,h2⟩;exact ⟨a,b,rfl,E.mono h h1,F.mono h h2⟩
 move:=by rintro w w' S cs x h ⟨a,b,rfl,h1,h2⟩;exact ⟨a,b,rfl,E.move h h1,F.move h h2⟩
def En.solo {α:Type} (E:En α):En α:=⟨E.sz,true,E.R,fun h=>(by cases h),E.pos,E.len,E.one,E.mono,E.move⟩
structure Prt {α β:Type} (E:En α) (off:Nat) (E':En β) (x:α) (y:β):Prop where
 le:off+E'.sz≤E.sz
 get:∀w S cs,E.R w S cs x→E'.R w S ((cs.drop off).take E'.sz) y
section
variable {α β γ : Type} {E : En α} {E' : En β} {F : En γ} {off off' : Nat} {y : β}
theorem zbd (E:En α) (x:α):Prt E 0 E x x:=⟨by simp,fun w S cs h=>by rw [List.drop_zero,List.take_of_length_le (by rw [E.len h];exact Nat.le_refl _)];exact h⟩
theorem zdb {x:α} (h:Prt E off E' x y):Prt E.solo off E' x y:=⟨h.le,h.get⟩
theorem zb4 {x:α × γ} (h:Prt E off E' x.1 y):Prt (E.cat F) off E' x y:=
 ⟨Nat.le_trans h.le (Nat.le_add_right _ _),fun w S cs ⟨a,b,e,h1,h2⟩=>by
  subst e;have hl:=E.len h1;have:=h.le;have e:((a++b).drop off).take E'.sz=(a.drop off).take E'.sz:=by
   rw [List.drop_append_of_le_length (by omega),List.take_append_of_le_length (by simp;omega)]
  rw [e];exact h.get w S a h1⟩
theorem zl {x:γ × α} (h:Prt E off E' x.2 y) (ho:off'=F.sz+off):Prt (F.cat E) off' E' x y:=
 ⟨by rw [ho,Nat.add_assoc];exact Nat.add_le_add_left h.le _,fun w S cs ⟨a,b,e,h1,h2⟩=>by
  subst e;rw [ho,← F.len h1,List.drop_length_add_append];exact h.get w S b h2⟩
theorem zfl {x x':α} (h:Sub E off E' x x' y):Sub E.solo off E' x x' y:=⟨h.1,h.2⟩
theorem zbb {x:α × γ} {a:α} (h:Sub E off E' x.1 a y):Sub (E.cat F) off E' x (a,x.2) y:=
 ⟨Nat.le_trans h.1 (Nat.le_add_right _ _),fun w S cs cs' ⟨a',b,e,h1,h2⟩ h3=>by
  subst e;have hl:=E.len h1;have hl':=E'.len h3;have:=h.1;refine ⟨spl a' off cs',b, ?_,h.2 w S a' cs' h1 h3,h2⟩;simp only [spl];rw [List.take_append_of_le_length (by omega),List.drop_append_of_le_length (by omega)];simp⟩
theorem zk {x:γ × α} {b:α} (h:Sub E off E' x.2 b y) (ho:off'=F.sz+off):Sub (F.cat E) off' E' x (x.1,b) y:=
 ⟨by rw [ho,Nat.add_assoc];exact Nat.add_le_add_left h.1 _,fun w S cs cs' ⟨a',b',e,h1,h2⟩ h3=>by
  subst e;refine ⟨a',spl b' off cs', ?_,h1,h.2 w S b' cs' h2 h3⟩;simp only [spl];rw [ho,← F.len h1,List.take_length_add_append,Nat.add_assoc,List.drop_length_add_append];simp⟩
end
theorem zbx.sub {w:World} {b o:Nat} {cs:List Value} (h:zbx w b o cs) (off n:Nat):zbx w b (o+off) ((cs.drop off).take n):=fun j u hu=>by
 rw [Nat.add_assoc];refine h (off+j) u ?_;rw [List.getElem?_take] at hu;split at hu
 ·rwa [List.getElem?_drop] at hu
 ·cases hu
section
variable {P : Program} {ops : Array Oper} {o : Oper} {L : Lst}
theorem zen {β:Type} {E':En β} {t:TypeId} {fs:Array Field} {f:Nat} {fd:Field} (ht:P.underlying t=some (.struct fs)) (hf:fs[f]?=some fd) (hE:Ty P fd.type E') (b o:Nat) (w:World):
  (Instr.fieldAt t (.pointer (some ⟨b,o,none⟩)) f).run P w = .ok (.pointer (some ⟨b,o+fd.offset,none⟩)) w:=by
 unfold Instr.fieldAt;simp only [Sem.run_bind,run_underlying ht,Result.andThen_ok,hf,Instr.sureAddr,Sem.run_pure,fieldPlace,zbp hE];rw [if_neg (by have:=E'.pos;omega)];simp [zd4]
theorem t_fa {α β:Type} {E:En α} {E':En β} {a:α} {y:β} {x:Operand} {t:TypeId} {fs:Array Field} {f off:Nat} {fd:Field} (hx:Opn L x (Pd.ptr E a)) (ht:P.underlying t=some (.struct fs)) (hf:fs[f]?=some fd) (hp:Prt E off E' a y) (hq:fd.offset=off) (hE:Ty P fd.type E')
  (ho:o.op = .fieldAddr t x f) (hg:o.guard=none):T P ops o L (Pd.ptr E' y):=
 T.pure hg fun M n s0 ac s hL=>by
  obtain ⟨b,o',cs,hv,hb,hc,hR⟩:=hx M n s0 ac s hL;refine ⟨.pointer (some ⟨b,o'+fd.offset,none⟩), ?_,b,o'+fd.offset,_,rfl,hb,hq ▸ hc.sub off E'.sz,hp.get _ _ _ hR⟩;unfold execOp;rw [ho];simp only [hv,Sem.run_bind,zen ht hf hE,Result.andThen_ok,Sem.run_pure]
theorem t_fab {α β:Type} {E:En α} {E':En β} {a:α} {y:β} {x:Operand} {t:TypeId} {fs:Array Field} {f off N g:Nat} {fd:Field} (hx:Opn L x (Pd.box E N g a)) (ht:P.underlying t=some (.struct fs)) (hf:fs[f]?=some fd) (hp:Prt E off E' a y) (hq:fd.offset=off) (hE:Ty P fd.type E')
  (ho:o.op = .fieldAddr t x f) (hg:o.guard=none):T P ops o L (Pd.optr E' N (some g) off y):=
 T.pure hg fun M n s0 ac s hL=>by
  obtain ⟨hv,h2,h4,cs,t',hc,hR⟩:=hx M n s0 ac s hL;have hcs:zbx s.w g (0+off) ((cs.drop off).take E'.sz):=(zba hc).sub off E'.sz;refine ⟨.pointer (some ⟨g,0+fd.offset,none⟩), ?_,g,rfl,by rw [hq,Nat.zero_add],h2,(Array.getElem?_eq_some_iff.1 hc).1,h4,_,by rw [Nat.zero_add] at hcs;exact hcs,hp.get _ _ _ hR⟩;unfold execOp;rw [ho];simp only [hv,Sem.run_bind,zen ht hf hE,Result.andThen_ok,Sem.run_pure]
inductive Bld {α:Type} (E:En α) (pl:List (Nat × Nat)) (L:Lst):List (Nat × Operand)→α→α→Prop
 | nil {x:α}:Bld E pl L [] x x
 | cons {β:Type} {E':En β} {i off:Nat} {v:Operand} {y:β} {x0 x1 x2:α} {r:List (Nat × Operand)} (hv:Opn L v (Pd.rep E' y)) (hp:pl[i]?=some (off,E'.sz)) (hs:Sub E off E' x0 x1 y) (h:Bld E pl L r x1 x2):Bld E pl L ((i,v)::r) x0 x2
theorem Bld.fill {α:Type} {E:En α} {pl:List (Nat × Nat)} {ps:List (Nat × Operand)} {x0 x2:α} (h:Bld E pl L ps x0 x2) {M:Nat→Prop} {n:Nat} {s0:St} {a:Act} {s:St} (hL:Has M n s0 a s L):
  ∀cs,E.R s.w (zcz s) cs x0→∃cs',Instr.fill (fun i=>pl.toArray[i]?) cs.toArray (ps.map fun (i,x)=>(i,a.eval x))=some cs'.toArray∧E.R s.w (zcz s) cs' x2:=by
 induction h with
 | nil=>intro cs hR;exact ⟨cs,rfl,hR⟩
 | cons hv hp hs _ ih=>
  intro cs hR;obtain ⟨cs1,hv1,hR1⟩:=hv M n s0 a s hL;have hl:=E.len hR;obtain ⟨cs2,h1,h2⟩:=ih (spl cs _ cs1) (hs.2 _ _ _ _ hR hR1);refine ⟨cs2, ?_,h2⟩;simp only [List.map_cons];rw [fill_step (by simpa using hp) (by rw [hv1];exact En.val_cells hR1) (En.len _ hR1) (by rw [hl];exact hs.1)];exact h1
def Stt (P:Program) (t:TypeId) (pl:List (Nat × Nat)):Prop:=∃fs,P.underlying t=some (.struct fs)∧fs.toList.mapM (fun f=>(P.info? f.type).map fun i=>(f.offset,i.size))=some pl
theorem zc3 {α:Type} {E:En α} {z x:α} {t:TypeId} {pl:List (Nat × Nat)} {ps:List (Nat × Operand)} (hz:TyZ P t E z) (ha:E.agg=true) (ht:Stt P t pl) (hb:Bld E pl L ps z x) (ho:o.op = .build t ps.toArray) (hg:o.guard=none):T P ops o L (Pd.rep E x):=
 T.pure hg fun M n s0 a s hL=>by
  obtain ⟨i,v,cs,h1,h2,h3,h4⟩:=hz.zero;obtain ⟨fs,h5,h6⟩:=ht;obtain ⟨cs',h7,h8⟩:=hb.fill hL cs (h4 _ _);refine ⟨.agg cs'.toArray, ?_,cs',by unfold En.val;rw [ha];rfl,h8⟩;unfold execOp;rw [ho];have:=run_build (P:=P) s.w t (ps.toArray.map fun (i,x)=>(i,a.eval x)) cs'.toArray (by
   unfold Program.built;simp only [h1,h5,h2,h6,h3];simpa using h7)
  simp only [Sem.run_bind,this,Result.andThen_ok,Sem.run_pure]
theorem zd3 {t:TypeId}:Eqv P t En.str:=by
 constructor
 ·rintro w S cs ds x y a b ⟨rfl,_⟩ ⟨rfl,_⟩;simp [En.val,En.str,eqGuard,binOp,Op.stringOp]
 ·rintro w S cs ds x y a b ⟨rfl,_⟩ ⟨rfl,_⟩;simp [En.val,En.str,eqGuard,binOp,Op.stringOp,bne]
theorem t_slen {x:Str} {y:Operand} {t:TypeId} (hy:Opn L y (Pd.rep En.str x)) (ht:P.underlying t=some .string) (ho:o.op = .call { callee:=.builtin .len,args:=#[y],argTypes:=#[t] }) (hg:o.guard=none):
  T P ops o L (Pd.rep (En.int .i64) x.length):=
 T.pure hg fun M n s0 ac s hL=>by
  obtain ⟨hv,hl⟩:=zby.1 (hy M n s0 ac s hL);refine ⟨.int .i64 x.length, ?_,zg.2 ⟨rfl, ?_⟩⟩
  ·unfold execOp;rw [ho];have:(⟨x.toArray⟩:ByteArray).size=x.length:=by simp [ByteArray.size]
   simp [resolve,invoke,builtin,hv,Builtin.len_,run_underlying ht,goInt,this]
  ·simp [InR,IntKind.min,IntKind.max,IntKind.signed,IntKind.bits];omega
def zbk (x:Str) (i:Int):Option Int:=(at? x i).map fun b=>(b.toNat:Int)
theorem t_sidx {x:Str} {k:IntKind} {i e:Int} {y z:Operand} {t:TypeId} (hy:Opn L y (Pd.rep En.str x)) (hz:Opn L z (Pd.rep (En.int k) i)) (he:zbk x i=some e) (ht:P.underlying t=some .string) (ho:o.op = .index t y z) (hg:o.guard=none):T P ops o L (Pd.rep (En.int .u8) e):=
 T.pure hg fun M n s0 ac s hL=>by
  obtain ⟨hv,hl⟩:=zby.1 (hy M n s0 ac s hL);have hi:=(zg.1 (hz M n s0 ac s hL)).1;unfold zbk at he;cases ha:at? x i with
  | none=>rw [ha] at he;cases he
  | some b=>
   rw [ha] at he;simp only [Option.map_some,Option.some.injEq] at he;subst he;obtain ⟨h0,h1⟩:=at_some ha;refine ⟨.int .u8 (b.toNat:Int), ?_,zg.2 ⟨rfl, ?_⟩⟩
   ·unfold execOp;rw [ho];have:(⟨x.toArray⟩:ByteArray)[i.toNat]?=some b:=by
     have hlt:i.toNat<x.length:=(List.getElem?_eq_some_iff.1 h1).1;have hsz:(⟨x.toArray⟩:ByteArray).size=x.length:=by simp [ByteArray.size]
     rw [getElem?_pos _ _ (by rw [hsz];exact hlt)];have h2:=(List.getElem?_eq_some_iff.1 h1).2;rw [← h2];rfl
    simp only [hv,hi,Instr.index,asIntOf,Sem.run_bind,Sem.run_pure,Result.andThen_ok,run_underlying ht,if_pos h0,this]
   ·have:=b.toNat_lt;simp [InR,IntKind.min,IntKind.max,IntKind.signed,IntKind.bits];omega
end
section
variable {P : Program} {ops : Array Oper} {o : Oper} {L : Lst}
end
end
end Go.Proofs.YtamjkbneebghmaaDoor.V
namespace Go.Proofs.YtamjkbneebghmaaDoor.V
open Go Go.MapKept
set_option linter.unusedVariables false
section
variable {u : Bool} [Dr u]
structure KeyT {κ:Type} (P:Program) (kt:TypeId) (K:En κ) (kv:κ→Value):Prop where
 val:∀{w S cs x},K.R w S cs x→K.val cs=kv x
 inj:∀{x y},kv x=kv y→x=y
 check:∀(w:World) (em:Bool) (x:κ),(Instr.checkKey em 10000 kt (kv x)).run P w = .ok () w
 find:∀(w:World) (x:κ) (es:List MapEntry),(∀e∈es,∃y,e.key=kv y) →
  ((Instr.findKey kt (kv x) es).run P w = .ok none w∧∀e∈es,e.key≠kv x)∨∃j e,(Instr.findKey kt (kv x) es).run P w = .ok (some (j,e.val)) w∧es[j]?=some e∧e.key=kv x
 stays:∀(w:World) (x:κ),(Instr.keyThatStays (kv x) (kv x)).run P w = .ok (kv x) w
theorem key_plain {κ:Type} {P:Program} {kt:TypeId} {K:En κ} {kv:κ→Value} {d:TypeDesc} (hd:P.underlying kt=some d) (hk:∀x,IsKey d (kv x)) (hv:∀{w S cs x},K.R w S cs x→K.val cs=kv x) (hi:∀{x y},kv x=kv y→x=y):KeyT P kt K kv where
 val:=hv
 inj:=hi
 check:=fun w em x=>run_checkKey hd (hk x) em 9999
 find:=fun w x es hes=>by
  have hks:∀y∈es,IsKey d y.key:=fun y hy=>by
   obtain ⟨z,hz⟩:=hes y hy;rw [hz];exact hk z
  rcases findNow_spec (hk x) es 0 hks with ⟨h1,h2⟩ | ⟨j,e0,h1,h2,h3⟩
  ·exact .inl ⟨run_findKey hd h1,h2⟩
  ·exact .inr ⟨j,e0,by simpa using run_findKey hd h1,h2,h3⟩
 stays:=fun w x=>run_keyThatStays (hk x)
def zcn {κ ν:Type} [DecidableEq κ] (xs:List (κ × ν)) (k:κ) (z:ν):ν:=match xs.find? (fun p=>p.1==k) with | some p=>p.2 | none=>z
def zey {κ ν:Type} [DecidableEq κ] (xs:List (κ × ν)) (k:κ):Bool:=xs.any (fun p=>p.1==k)
def z1 {κ ν:Type} [DecidableEq κ] (xs:List (κ × ν)) (k:κ) (v:ν):List (κ × ν):=bif zey xs k then xs.map (fun p=>bif p.1==k then (k,v) else p) else xs++[(k,v)]
structure MpR {κ ν:Type} (K:En κ) (kv:κ→Value) (E:En ν) (w:World) (S:Nat→Prop) (es:Array MapEntry) (clock:Nat) (xs:List (κ × ν)):Prop where
 st:Stamped es clock
 len:es.toList.length=xs.length
 ent:∀(i:Nat) (e:MapEntry) (p:κ × ν),es.toList[i]?=some e→xs[i]?=some p→e.key=kv p.1∧(∃cs,K.R w S cs p.1)∧∃cs,e.val=E.val cs∧E.R w S cs p.2
section
variable {κ ν : Type} {K : En κ} {kv : κ → Value} {E : En ν}
theorem MpR.go {T:Nat→Prop} {s s':St} {es clock} {xs:List (κ × ν)} (h:Mv T s s') (hM:MpR K kv E s.w (zcz s) es clock xs):MpR K kv E s'.w (zcz s') es clock xs:=
 ⟨hM.st,hM.len,fun i e p a b=>let ⟨h1,⟨cs,h2⟩,cs',h3,h4⟩:=hM.ent i e p a b;⟨h1,⟨cs,K.go h h2⟩,cs',h3,E.go h h4⟩⟩
def Pd.map (K:En κ) (kv:κ→Value) (E:En ν) (N:Nat) (og:Option Nat) (xs:List (κ × ν)):Pd:=
 ⟨fun s v=>∃g,og=some g∧v = .map (some g)∧N≤g∧s.X g∧∃es clock ys,s.w.heap[g]?=some (.map es clock)∧MpR K kv E s.w (zcz s) es clock ys∧ys.Perm xs,fun b=>og=some b,
  fun {T s s' v} h hb ⟨g,ho,hv,hN,hx,es,clock,ys,hg,hM,hp⟩=>⟨g,ho,hv,hN,(hb g ho).2 hx,es,clock,ys,by
   rw [h.blk g (Array.getElem?_eq_some_iff.1 hg).1 (hb g ho).1];exact hg,hM.go h,hp⟩⟩
theorem MpR.keys {w S es clock} {xs:List (κ × ν)} (hM:MpR K kv E w S es clock xs):∀e∈es.toList,∃y,e.key=kv y:=fun e he=>by
 obtain ⟨i,hi⟩:=List.getElem?_of_mem he;have hlt:i<xs.length:=by rw [← hM.len];exact (List.getElem?_eq_some_iff.1 hi).1
 exact ⟨_,(hM.ent i e _ hi (List.getElem?_eq_getElem hlt)).1⟩
theorem MpR.nodup {P:Program} {kt:TypeId} (hK:KeyT P kt K kv) {w S es clock} {xs:List (κ × ν)} (hM:MpR K kv E w S es clock xs):∀(i j:Nat) (p q:κ × ν),xs[i]?=some p→xs[j]?=some q→p.1=q.1→i=j:=by
 intro i j p q hi hj h;have hli:i<es.toList.length:=by rw [hM.len];exact (List.getElem?_eq_some_iff.1 hi).1
 have hlj:j<es.toList.length:=by rw [hM.len];exact (List.getElem?_eq_some_iff.1 hj).1
 have h1:=(hM.ent i _ p (List.getElem?_eq_getElem hli) hi).1;have h2:=(hM.ent j _ q (List.getElem?_eq_getElem hlj) hj).1;have hn:(es.toList.map (·.key)).Nodup:=hM.st.2.2;have e1:(es.toList.map (·.key))[i]?=some (kv p.1):=by simp only [List.getElem?_map,List.getElem?_eq_getElem hli,Option.map_some,h1]
 have e2:(es.toList.map (·.key))[j]?=some (kv q.1):=by simp only [List.getElem?_map,List.getElem?_eq_getElem hlj,Option.map_some,h2]
 rw [h] at e1;exact (List.getElem?_inj (by simpa using hli) hn).1 (e1.trans e2.symm)
theorem map_lt {N:Nat} {og:Option Nat} {xs:List (κ × ν)} {s:St} {v:Value} (h:(Pd.map K kv E N og xs).p s v):∀b,og=some b→N≤b∧b<s.w.heap.size:=fun b hb=>by
 obtain ⟨g,hog,_,hN,hX,_⟩:=h;rw [hog] at hb;cases hb;exact ⟨hN,s.lt _ hX⟩
theorem map_uniq {N:Nat} {og:Option Nat} {xs ys:List (κ × ν)} {s:St} {u v:Value} (h:(Pd.map K kv E N og xs).p s u) (k:(Pd.map K kv E N og ys).p s v):u=v:=by
 obtain ⟨g,hog,hv,_⟩:=h;obtain ⟨g',hog',hv',_⟩:=k;rw [hog] at hog';cases hog';rw [hv,hv']
section
variable {P : Program} {ops : Array Oper} {o : Oper} {L : Lst} {Q : Exit → Act → World → Prop} {rest : List Oper} {M : Nat → Prop} {n : Nat} {s0 : St} {a : Act} {s : St} {t : TypeId}
theorem st_mkmap (d:Nat) (K:En κ) (kv:κ→Value) (E:En ν) (hL:Has M n s0 a s L) (ho:o.op = .makeMap t none) (hg:o.guard=none) (hd:o.dst=some d) (hn:Nat.blt d n=true)
  (k:∀a' s' g,s.w.heap.size≤g→Has M n s0 a' s' ((d,Pd.map K kv E s0.w.heap.size (some g) [])::L)→wpList P ops Q rest a' s'.w):wpList P ops Q (o::rest) a s.w:=by
 have hr:(execOp a.eval o).run P s.w = .ok (.value (.map (some s.w.heap.size))) (s.pushX (.map #[] 0)).w:=by
  unfold execOp;rw [ho];simp [Instr.makeMap,St.pushX]
 refine wpList_plain hg fun K hK=>?_;unfold Oper.wp;rw [hr];refine hK _ _ ?_;simp only [hd];exact k _ _ s.w.heap.size (Nat.le_refl _) (hL.put (Ex.pushX s _) hn ⟨_,rfl,rfl,hL.ent.mv.size,.inr rfl,#[],0,[],heap_alloc_new s.w _,⟨by simp [Stamped],rfl,fun i e p h=>by simp at h⟩,.refl _⟩)
end
structure TyV {α:Type} (P:Program) (t:TypeId) (E:En α) (z:α):Prop where
 zero:∃i cs,P.info? t=some i∧i.zero=some (E.val cs)∧∀w S,E.R w S cs z
def KN (xs:List (κ × ν)):Prop:=(xs.map (·.1)).Nodup
theorem KN.perm {xs ys:List (κ × ν)} (h:KN xs) (hp:xs.Perm ys):KN ys:=(hp.map _).nodup_iff.1 h
theorem KN.idx {xs:List (κ × ν)} (h:KN xs):∀(i j:Nat) (p q:κ × ν),xs[i]?=some p→xs[j]?=some q→p.1=q.1→i=j:=fun i j p q hi hj e=>by
 have hli:=(List.getElem?_eq_some_iff.1 hi).1;have e1:(xs.map (·.1))[i]?=some p.1:=by rw [List.getElem?_map,hi];rfl
 have e2:(xs.map (·.1))[j]?=some q.1:=by rw [List.getElem?_map,hj];rfl
 rw [e] at e1;exact (List.getElem?_inj (by simpa using hli) h).1 (e1.trans e2.symm)
theorem MpR.kn {P:Program} {kt:TypeId} (hK:KeyT P kt K kv) {w S es clock} {xs:List (κ × ν)} (hM:MpR K kv E w S es clock xs):KN xs:=by
 unfold KN List.Nodup;rw [List.pairwise_iff_getElem];intro i j hi hj hij e;simp only [List.length_map] at hi hj;simp only [List.getElem_map] at e;have:=hM.nodup hK i j _ _ (List.getElem?_eq_getElem hi) (List.getElem?_eq_getElem hj) e;omega
end
section
variable {κ ν : Type} [DecidableEq κ] {K : En κ} {kv : κ → Value} {E : En ν}
theorem find_at {xs:List (κ × ν)} {k:κ} {j:Nat} {p:κ × ν} (hn:∀(i j:Nat) (p q:κ × ν),xs[i]?=some p→xs[j]?=some q→p.1=q.1→i=j) (hj:xs[j]?=some p) (hk:p.1=k):xs.find? (fun p=>p.1==k)=some p:=by
 cases h:xs.find? (fun p=>p.1==k) with
 | none=>
  have:=List.find?_eq_none.1 h p (List.mem_of_getElem? hj);simp [hk] at this
 | some q=>
  have h1:=List.find?_some h;have h2:=List.mem_of_find?_eq_some h;obtain ⟨i,hi⟩:=List.getElem?_of_mem h2;have:=hn i j q p hi hj (by rw [hk];simpa using h1);subst this;rw [hi] at hj;exact hj
theorem zdw {xs:List (κ × ν)} {k:κ} {z:ν} (h:∀p∈xs,p.1≠k):zcn xs k z=z:=by
 unfold zcn;rw [List.find?_eq_none.2 (fun p hp=>by simpa using h p hp)]
theorem zcw {xs:List (κ × ν)} {k:κ}:zey xs k=true↔∃p∈xs,p.1=k:=by simp [zey]
theorem mget_mem {xs:List (κ × ν)} (h:KN xs) {p:κ × ν} (hp:p∈xs) (z:ν):zcn xs p.1 z=p.2:=by
 obtain ⟨j,hj⟩:=List.getElem?_of_mem hp;unfold zcn;rw [find_at h.idx hj rfl]
theorem mget_perm {xs ys:List (κ × ν)} (h:KN ys) (hp:ys.Perm xs) (k:κ) (z:ν):zcn ys k z=zcn xs k z:=by
 by_cases hk:∃p∈ys,p.1=k
 ·obtain ⟨p,hm,rfl⟩:=hk;rw [mget_mem h hm,mget_mem (h.perm hp) (hp.mem_iff.1 hm)]
 ·rw [zdw fun p hm e=>hk ⟨p,hm,e⟩,zdw fun p hm e=>hk ⟨p,hp.mem_iff.2 hm,e⟩]
theorem zdv {xs ys:List (κ × ν)} (hp:ys.Perm xs) (k:κ):zey ys k=zey xs k:=by
 rw [Bool.eq_iff_iff,zcw,zcw];exact ⟨fun ⟨p,hm,e⟩=>⟨p,hp.mem_iff.1 hm,e⟩,fun ⟨p,hm,e⟩=>⟨p,hp.mem_iff.2 hm,e⟩⟩
theorem mput_perm {xs ys:List (κ × ν)} (hp:ys.Perm xs) (k:κ) (v:ν):(z1 ys k v).Perm (z1 xs k v):=by
 unfold z1;rw [zdv hp];cases zey xs k
 ·exact hp.append_right _
 ·exact hp.map _
section
variable {P : Program} {ops : Array Oper} {o : Oper} {L L' : Lst} {Q : Exit → Act → World → Prop} {rest : List Oper} {M : Nat → Prop} {n : Nat} {s0 : St} {a : Act} {s : St} {t kt et : TypeId}
theorem MpR.look {w:World} {S:Nat→Prop} {es:Array MapEntry} {clock:Nat} {xs:List (κ × ν)} (hM:MpR K kv E w S es clock xs) (hK:KeyT P kt K kv) (k:κ):
  (Sem.run P (Instr.findKey kt (kv k) es.toList) w = .ok none w∧zey xs k=false)∨∃(j:Nat) (e:MapEntry) (v:ν) (cs:List Value),Sem.run P (Instr.findKey kt (kv k) es.toList) w = .ok (some (j,e.val)) w∧zey xs k=true∧(∀z,zcn xs k z=v)∧e.val=E.val cs∧E.R w S cs v:=by
 rcases hK.find w k es.toList hM.keys with ⟨h1,h2⟩ | ⟨j,e,h1,h2,h3⟩
 ·refine .inl ⟨h1, ?_⟩;rw [← Bool.not_eq_true,zcw];rintro ⟨p,hp,e⟩;obtain ⟨i,hi⟩:=List.getElem?_of_mem hp;have hlt:i<es.toList.length:=by rw [hM.len];exact (List.getElem?_eq_some_iff.1 hi).1
  exact h2 _ (List.getElem_mem hlt) (by rw [(hM.ent i _ p (List.getElem?_eq_getElem hlt) hi).1,e])
 ·have hlt:j<xs.length:=by rw [← hM.len];exact (List.getElem?_eq_some_iff.1 h2).1
  have hj:=List.getElem?_eq_getElem hlt;obtain ⟨hk1,_,cs',hv',hR'⟩:=hM.ent j e _ h2 hj;have hk2:xs[j].1=k:=hK.inj (hk1.symm.trans h3);refine .inr ⟨j,e,xs[j].2,cs',h1,zcw.2 ⟨_,List.getElem_mem hlt,hk2⟩,fun z=>?_,hv',hR'⟩;unfold zcn;rw [find_at (hM.nodup hK) hj hk2]
theorem mget_no {xs:List (κ × ν)} {k:κ} {z:ν} (h:zey xs k=false):zcn xs k z=z:=zdw fun p hp e=>by
 have:=zcw.2 ⟨p,hp,e⟩;rw [h] at this;cases this
theorem t_mget {N:Nat} {og:Option Nat} {xs:List (κ × ν)} {k:κ} {z:ν} {x y:Operand} (hx:Opn L x (Pd.map K kv E N og xs)) (hy:Opn L y (Pd.rep K k)) (ht:P.underlying t=some (.map kt et)) (hK:KeyT P kt K kv) (hz:TyV P et E z)
  (ho:o.op = .lookup t x y false) (hg:o.guard=none):T P ops o L (Pd.rep E (zcn xs k z)):=
 T.pure hg fun M n s0 a s hL=>by
  obtain ⟨g,_,hv,_,_,es,clock,ys,hgb,hM,hp⟩:=hx M n s0 a s hL;obtain ⟨cs,hkv,hkR⟩:=hy M n s0 a s hL;rw [hK.val hkR] at hkv;obtain ⟨i,zc,hz1,hz2,hz3⟩:=hz.zero;have hzr:(zeroValue et).run P s.w = .ok (E.val zc) s.w:=by simp [zeroValue,typeInfo,hz1,hz2]
  rcases hM.look hK k with ⟨h1,h2⟩ | ⟨j,e,v,cs',h1,h2,h3,h4,h5⟩
  ·refine ⟨E.val zc, ?_,zc,rfl, ?_⟩
   ·unfold execOp;rw [ho];simp only [hv,hkv];simp [Instr.lookup,run_underlying ht,Go.MapKept.run_getObj_map hgb,hK.check,h1,hzr,Result.andThen]
   ·rw [zdv hp] at h2;rw [mget_no h2];exact hz3 _ _
  ·refine ⟨e.val, ?_,cs',h4, ?_⟩
   ·unfold execOp;rw [ho];simp only [hv,hkv];simp [Instr.lookup,run_underlying ht,Go.MapKept.run_getObj_map hgb,hK.check,h1,Result.andThen]
   ·rw [← mget_perm (hM.kn hK) hp,h3];exact h5
theorem run_mput {N:Nat} {og:Option Nat} {xs:List (κ × ν)} {k:κ} {v1:ν} {s:St} {v kvl vvl:Value} (hx:(Pd.map K kv E N og xs).p s v) (hy:(Pd.rep K k).p s kvl) (hz:(Pd.rep E v1).p s vvl) (ht:P.underlying t=some (.map kt et)) (hK:KeyT P kt K kv):
  ∃s',(Instr.mapUpdate t v kvl vvl).run P s.w = .ok () s'.w∧Ef (fun b=>og=some b) s s'∧(∀b,s.X b→s'.X b)∧(Pd.map K kv E N og (z1 xs k v1)).p s' v:=by
 obtain ⟨g,hog,hv,hN,hX,es,clock,ys,hgb,hM,hpm⟩:=hx;obtain ⟨cs,hkv,hkR⟩:=hy;rw [hK.val hkR] at hkv;obtain ⟨cs1,hvv,hvR⟩:=hz;subst hv hkv;have hlt:=(Array.getElem?_eq_some_iff.1 hgb).1
 suffices hsuf:∃s',(Instr.mapUpdate t (.map (some g)) (kv k) vvl).run P s.w = .ok () s'.w∧Ef (fun b=>og=some b) s s'∧(∀b,s.X b→s'.X b)∧∃es' clock',s'.w.heap[g]?=some (.map es' clock')∧MpR K kv E s'.w (zcz s') es' clock' (z1 ys k v1) by
  obtain ⟨s',h1,h2,h3,es',clock',h4,h5⟩:=hsuf;exact ⟨s',h1,h2,h3,g,hog,rfl,hN,h3 g hX,es',clock',_,h4,h5,mput_perm hpm k v1⟩
 clear hpm;generalize ys=xs at *;have step:∀es' clock',∃s':St,s'.w = { s.w with heap:=s.w.heap.setIfInBounds g (.map es' clock') }∧Ef (fun b=>og=some b) s s'∧(∀b,s.X b→s'.X b)∧s'.w.heap[g]?=some (.map es' clock')∧s'.X=s.X:=fun es' clock'=>by
  refine ⟨⟨{ s.w with heap:=s.w.heap.setIfInBounds g (.map es' clock') },s.X,fun b hb=>by simpa using s.lt b hb⟩,rfl,⟨⟨DR.eq rfl,rfl,rfl,rfl,by simp,fun b hb hnb=>?_,fun b hb=>?_,fun b hb=>.inl hb⟩,fun b hb _=>hb⟩,fun b hb=>hb,(heap_set hgb).1,rfl⟩
  ·exact (heap_set hgb).2 b (fun e=>hnb (by rw [hog,e]))
  ·rw [hog] at hb;cases hb;exact hX
 rcases hK.find s.w k es.toList hM.keys with ⟨h1,h2⟩ | ⟨j,e,h1,h2,h3⟩
 ·have hno:zey xs k=false:=by
   rw [← Bool.not_eq_true,zcw];rintro ⟨p,hp,e⟩;obtain ⟨i,hi⟩:=List.getElem?_of_mem hp;have hlt:i<es.toList.length:=by rw [hM.len];exact (List.getElem?_eq_some_iff.1 hi).1
   exact h2 _ (List.getElem_mem hlt) (by rw [(hM.ent i _ p (List.getElem?_eq_getElem hlt) hi).1,e])
  obtain ⟨s',hw,hE,hXX,hgb',hXe⟩:=step (es.push ⟨kv k,vvl,clock⟩) (clock+1);refine ⟨s', ?_,hE,hXX,_,_,hgb', ?_⟩
  ·rw [hw];simp [Instr.mapUpdate,run_underlying ht,Go.MapKept.run_getObj_map hgb,hK.check,h1,Go.MapKept.run_setObj_map _ hgb,Result.andThen]
  ·have hM':=hM.go hE.mv;refine ⟨stamped_push hM.st (fun x hx=>h2 x hx), ?_,fun i e p he hp=>?_⟩
   ·have:=hM.len;simp only [z1,hno,cond_false,Array.toList_push,List.length_append,List.length_cons,List.length_nil];omega
   ·simp only [z1,hno,cond_false,Array.toList_push] at he hp
    by_cases hi:i<xs.length
    ·rw [List.getElem?_append_left hi] at hp;rw [List.getElem?_append_left (by rw [hM.len];exact hi)] at he;exact hM'.ent i e p he hp
    ·have hie:i=xs.length:=by
      have:=(List.getElem?_eq_some_iff.1 hp).1;simp at this;omega
     subst hie;rw [List.getElem?_append_right (Nat.le_refl _)] at hp;rw [List.getElem?_append_right (by rw [hM.len];exact Nat.le_refl _),hM.len] at he;simp at he hp;subst he;subst hp;exact ⟨rfl,⟨cs,K.go hE.mv hkR⟩,cs1,hvv,E.go hE.mv hvR⟩
 ·have hltj:j<xs.length:=by rw [← hM.len];exact (List.getElem?_eq_some_iff.1 h2).1
  have hjx:=List.getElem?_eq_getElem hltj;have hk2:xs[j].1=k:=hK.inj ((hM.ent j e _ h2 hjx).1.symm.trans h3);have hyes:zey xs k=true:=zcw.2 ⟨_,List.getElem_mem hltj,hk2⟩;have hj:es[j]?=some e:=by simpa using h2
  have hlist:(es.modify j (fun e'=>{ e' with key:=kv k,val:=vvl })).toList=es.toList.set j { e with key:=kv k,val:=vvl }:=by rw [Array.toList_modify,Go.ChangeMaps.modify_eq_set _ _ _ _ h2]
  have hkeyf:∀e',es[j]?=some e'→({ e' with key:=kv k,val:=vvl }:MapEntry).key=e'.key:=fun e' he'=>by rw [hj] at he';cases he';exact h3.symm
  obtain ⟨s',hw,hE,hXX,hgb',hXe⟩:=step (es.modify j (fun e'=>{ e' with key:=kv k,val:=vvl })) clock;refine ⟨s', ?_,hE,hXX,_,_,hgb', ?_⟩
  ·rw [hw];simp [Instr.mapUpdate,run_underlying ht,Go.MapKept.run_getObj_map hgb,hK.check,h1,hj,h3,hK.stays,Go.MapKept.run_setObj_map _ hgb,Result.andThen]
  ·have hM':=hM.go hE.mv;refine ⟨stamped_modify hM.st _ _ (fun _ _=>rfl) (fun e' _ he'=>hkeyf e' he'), ?_,fun i e1 p he hp=>?_⟩
   ·rw [hlist];simp only [z1,hyes,cond_true,List.length_map,List.length_set];exact hM.len
   ·rw [hlist] at he;simp only [z1,hyes,cond_true,List.getElem?_map] at hp;obtain ⟨p0,hp0,rfl⟩:=Option.map_eq_some_iff.1 hp
    by_cases hij:j=i
    ·subst hij;rw [hjx] at hp0;cases hp0;have hjl:j<es.toList.length:=by rw [hM.len];exact hltj
     rw [List.getElem?_set_self hjl] at he;cases he;simp only [hk2,beq_self_eq_true,cond_true];exact ⟨trivial,⟨cs,K.go hE.mv hkR⟩,cs1,hvv,E.go hE.mv hvR⟩
    ·rw [List.getElem?_set_ne hij] at he;have hne:(p0.1==k)=false:=by
      rw [← Bool.not_eq_true];intro hh;exact hij (hM.nodup hK j i _ p0 hjx hp0 (by rw [hk2];exact (by simpa using hh:p0.1=k).symm))
     rw [hne];exact hM'.ent i e1 p0 he hp0
theorem zb5 {og:Option Nat} {xs:List (κ × ν)} {k:κ} {v1:ν} {x y z:Operand} (hL:Has M n s0 a s L) (hx:Opn L x (Pd.map K kv E s0.w.heap.size og xs)) (hy:Opn L y (Pd.rep K k)) (hz:Opn L z (Pd.rep E v1))
  (ht:P.underlying t=some (.map kt et)) (hK:KeyT P kt K kv) (ho:o.op = .mapUpdate t x y z∨o.op = .insert t x y z) (hg:o.guard=none) (hd:o.dst=none)
  (hk:Kw (fun b=>og=some b) L (Pd.map K kv E s0.w.heap.size og xs) (Pd.map K kv E s0.w.heap.size og (z1 xs k v1)) L')
  (kk:∀s',Has M n s0 a s' L'→wpList P ops Q rest a s'.w):wpList P ops Q (o::rest) a s.w:=by
 have hxv:=hx M n s0 a s hL;obtain ⟨s',hr,hE,hXX,hp⟩:=run_mput (P:=P) hxv (hy M n s0 a s hL) (hz M n s0 a s hL) ht hK;refine wpList_plain hg fun K' hK'=>?_;unfold Oper.wp execOp;have h2:wpList P ops Q rest a s'.w:=kk s' (hL.turn hE (.inl fun b hb=>(map_lt hxv b hb).1) hXX hk fun v hv=>by rw [map_uniq hv hxv];exact hp);rcases ho with ho | ho
 all_goals
  simp only [ho,Sem.run_bind,hr,Result.andThen_ok,Sem.run_pure];refine hK' _ _ ?_;simp only [hd];exact h2
end
end
end
end Go.Proofs.YtamjkbneebghmaaDoor.V
namespace Go.Proofs.YtamjkbneebghmaaDoor.V
open Go
set_option linter.unusedVariables false
section
variable {u : Bool} [Dr u]
section
variable {P : Program} {ops : Array Oper} {o : Oper} {L : Lst}
theorem zbh {x y:Operand} {a b:Str} (hx:Opn L x (Pd.rep En.str a)) (hy:Opn L y (Pd.rep En.str b)) (h:a.length+b.length≤9223372036854775807) {t u:TypeId} (ho:o.op = .binOp .add t x y u) (hg:o.guard=none):
  T P ops o L (Pd.rep En.str (a++b)):=
 T.pure hg fun M n s0 ac s hL=>by
  obtain ⟨h1,_⟩:=zby.1 (hx M n s0 ac s hL);obtain ⟨h2,_⟩:=zby.1 (hy M n s0 ac s hL);refine ⟨.string ⟨(a++b).toArray⟩, ?_,zby.2 ⟨rfl,by simp;omega⟩⟩;have e:(⟨a.toArray⟩:ByteArray)++⟨b.toArray⟩=⟨(a++b).toArray⟩:=by simp [ByteArray.mk_append_mk]
  have hs:¬ ((((⟨a.toArray⟩:ByteArray).size+(⟨b.toArray⟩:ByteArray).size:Nat):Int) > IntKind.i64.max):=by
   have e1:(⟨a.toArray⟩:ByteArray).size=a.length:=by simp [ByteArray.size]
   have e2:(⟨b.toArray⟩:ByteArray).size=b.length:=by simp [ByteArray.size]
   rw [e1,e2];have:IntKind.i64.max=9223372036854775807:=by decide
   omega
  have hb:(binOp .add t (.string ⟨a.toArray⟩) (.string ⟨b.toArray⟩):Sem Value)=pure (.string ⟨(a++b).toArray⟩):=by
   show Op.stringOp .add _ _=_;unfold Op.stringOp;simp only [if_neg hs,e]
  unfold execOp;rw [ho];simp [eqGuard,h1,h2,hb]
end
end
end Go.Proofs.YtamjkbneebghmaaDoor.V
namespace Go.Proofs.YtamjkbneebghmaaDoor.V
open Go Go.MapKept
set_option linter.unusedVariables false
section
variable {u : Bool} [Dr u]
section
variable {κ ν : Type} {K : En κ} {kv : κ → Value} {E : En ν}
theorem MpR.same {w w':World} {S S':Nat→Prop} {es clock} {xs:List (κ × ν)} (hS:∀b,S b→S' b) (h:Same S w w') (hM:MpR K kv E w S es clock xs):MpR K kv E w' S' es clock xs:=
 ⟨hM.st,hM.len,fun i e p a b=>let ⟨h1,⟨cs,h2⟩,cs',h3,h4⟩:=hM.ent i e p a b;⟨h1,⟨cs,K.mono hS (K.move h h2)⟩,cs',h3,E.mono hS (E.move h h4)⟩⟩
def FmV (K:En κ) (kv:κ→Value) (E:En ν) (w:World) (S:Nat→Prop) (v:Value) (xs:List (κ × ν)):Prop:=
 (v = .map none∧xs=[])∨∃g es clock ys,v = .map (some g)∧S g∧w.heap[g]?=some (.map es clock)∧MpR K kv E w S es clock ys∧ys.Perm xs
theorem FmV.one {w S v} {xs:List (κ × ν)} (h:FmV K kv E w S v xs):v.oneCell'=true:=by rcases h with ⟨rfl,_⟩ | ⟨_,_,_,_,rfl,_⟩ <;> rfl
def En.fmap (K:En κ) (kv:κ→Value) (E:En ν):En (List (κ × ν)) where
 sz:=1
 agg:=false
 R:=fun w S cs xs=>∃v,cs=[v]∧FmV K kv E w S v xs
 sc:=fun _=>rfl
 pos:=Nat.one_pos
 len:=by rintro _ _ _ _ ⟨v,rfl,_⟩;rfl
 one:=by rintro _ _ _ _ ⟨v,rfl,h⟩ u hu;simp at hu;subst hu;exact h.one
 mono:=by
  rintro w S S' cs xs h ⟨v,rfl,h1⟩
  refine ⟨v,rfl,h1.imp id ?_⟩
  rintro ⟨g,es,clock,ys,e,hg,hb,hM,hp⟩
  exact ⟨g,es,clock,ys,e,h g hg,hb,hM.same h (fun _ _=>rfl),hp⟩
 move:=by
  rintro w w' S cs xs h ⟨v,rfl,h1⟩
  refine ⟨v,rfl,h1.imp id ?_⟩
  rintro ⟨g,es,clock,ys,e,hg,hb,hM,hp⟩
  exact ⟨g,es,clock,ys,e,hg,(h g hg).trans hb,hM.same (fun _ h=>h) h,hp⟩
theorem rep_fmap {xs:List (κ × ν)} {s:St} {v:Value}:(Pd.rep (En.fmap K kv E) xs).p s v↔FmV K kv E s.w (zcz s) v xs:=
 ⟨fun ⟨_,hv,u,hc,h⟩=>by subst hc;subst hv;exact h,fun h=>⟨[v],rfl,v,rfl,h⟩⟩
end
section
variable {κ ν : Type} [DecidableEq κ] {K : En κ} {kv : κ → Value} {E : En ν} {P : Program} {ops : Array Oper} {o : Oper} {L : Lst} {t kt et : TypeId}
theorem run_lookf {xs:List (κ × ν)} {k:κ} {z:ν} {s:St} {v kvl:Value} (hx:(Pd.rep (En.fmap K kv E) xs).p s v) (hy:(Pd.rep K k).p s kvl) (ht:P.underlying t=some (.map kt et)) (hK:KeyT P kt K kv) (hz:TyV P et E z) (ok:Bool):
  ∃u,(Instr.lookup t v kvl ok).run P s.w = .ok (if ok then .tuple #[u,.bool (zey xs k)] else u) s.w∧(Pd.rep E (zcn xs k z)).p s u:=by
 obtain ⟨cs,hkv,hkR⟩:=hy;rw [hK.val hkR] at hkv;obtain ⟨i,zc,hz1,hz2,hz3⟩:=hz.zero;have hzr:(zeroValue et).run P s.w = .ok (E.val zc) s.w:=by simp [zeroValue,typeInfo,hz1,hz2]
 rcases rep_fmap.1 hx with ⟨rfl,rfl⟩ | ⟨g,es,clock,ys,rfl,hg,hgb,hM,hp⟩
 ·have hf:Sem.run P (Instr.findKey kt (kv k) []) s.w = .ok none s.w:=by
   rcases hK.find s.w k [] (by simp) with ⟨h1,_⟩ | ⟨j,e,_,h2,_⟩
   ·exact h1
   ·simp at h2
  refine ⟨E.val zc, ?_,zc,rfl,by rw [zdw (by simp)];exact hz3 _ _⟩;rw [hkv];simp [Instr.lookup,run_underlying ht,hK.check,hf,hzr,Result.andThen,zey]
 ·rcases hM.look hK k with ⟨h1,h2⟩ | ⟨j,e,u,cs',h1,h2,h3,h4,h5⟩
  ·rw [zdv hp] at h2;refine ⟨E.val zc, ?_,zc,rfl,by rw [mget_no h2];exact hz3 _ _⟩;rw [hkv,h2];simp [Instr.lookup,run_underlying ht,Go.MapKept.run_getObj_map hgb,hK.check,h1,hzr,Result.andThen]
  ·rw [zdv hp] at h2;refine ⟨e.val, ?_,cs',h4,by rw [← mget_perm (hM.kn hK) hp,h3];exact h5⟩;rw [hkv,h2];simp [Instr.lookup,run_underlying ht,Go.MapKept.run_getObj_map hgb,hK.check,h1,Result.andThen]
theorem t_mgetfok {xs:List (κ × ν)} {k:κ} {z:ν} {x y:Operand} (hx:Opn L x (Pd.rep (En.fmap K kv E) xs)) (hy:Opn L y (Pd.rep K k)) (ht:P.underlying t=some (.map kt et)) (hK:KeyT P kt K kv) (hz:TyV P et E z)
  (ho:o.op = .lookup t x y true) (hg:o.guard=none):T P ops o L (Pd.tup2 (Pd.rep E (zcn xs k z)) (Pd.rep En.bool (zey xs k))):=
 T.pure hg fun M n s0 a s hL=>by
  obtain ⟨u,h1,h2⟩:=run_lookf (P:=P) (hx M n s0 a s hL) (hy M n s0 a s hL) ht hK hz true;refine ⟨.tuple #[u,.bool (zey xs k)], ?_,u,_,rfl,h2,z8.2 rfl⟩;unfold execOp;rw [ho];simp [h1,Result.andThen]
end
end
end Go.Proofs.YtamjkbneebghmaaDoor.V
namespace Go.Proofs.YtamjkbneebghmaaDoor.V
open Go Go.MapKept
set_option linter.unusedVariables false
section
variable {u : Bool} [Dr u]
def En.fid:En (Option Nat) where
 sz:=1
 agg:=false
 R:=fun _ _ cs x=>cs=[fidV x]
 sc:=fun _=>rfl
 pos:=Nat.one_pos
 len:=by rintro _ _ _ _ rfl;rfl
 one:=by rintro _ _ _ x rfl u hu;simp at hu;subst hu;cases x <;> rfl
 mono:=fun _ h=>h
 move:=fun _ h=>h
theorem rep_fid {x:Option Nat} {s:St} {v:Value}:(Pd.rep En.fid x).p s v↔v=fidV x:=
 ⟨fun ⟨_,hv,hc⟩=>by cases hc;exact hv,fun hv=>⟨[fidV x],hv,rfl⟩⟩
abbrev kvI64:Int→Value:=fun x=>.int .i64 x
theorem zcb {P:Program} {kt:TypeId} (hd:P.underlying kt=some (.int .i64)):KeyT P kt (En.int .i64) kvI64:=
 key_plain hd (fun x=>rfl) (fun ⟨h,_⟩=>by subst h;rfl) (fun {x y} h=>by simpa using h)
section
variable {P : Program} {ops : Array Oper} {o : Oper} {L : Lst}
theorem o_gm {g:Nat} {l:List (Int × Option Nat)} (hm:(g,l)∈gmap):Opn L (.global g) (Pd.ptr (En.fmap (En.int .i64) kvI64 En.fid) l):=fun M n0 s0 ac s hL=>by
 obtain ⟨hX,m,tt,fr,es,clock,ys,hb,hXm,hbm,hF,hp⟩:=hL.gls.2 _ hm;simp only at hX hb hp;refine ⟨g,0,[.map (some m)],rfl,⟨(Array.getElem?_eq_some_iff.1 hb).1,hX⟩,fun j u hj=>?_,.map (some m),rfl,.inr ⟨m,es,clock,ys,rfl,⟨(Array.getElem?_eq_some_iff.1 hbm).1,hXm⟩,hbm,⟨hF.1,hF.2.1,fun i e p h1 h2=>?_⟩,hp⟩⟩
 ·cases j with
  | zero=>
   simp at hj;subst hj;rw [Nat.add_zero,cell_of_row s.w g _ _ tt fr hb];rfl
  | succ j=>simp at hj
 ·obtain ⟨k1,k2,k3⟩:=hF.2.2 i e p h1 h2;exact ⟨k1,⟨_,rfl,by simp [InR,IntKind.min,IntKind.max,IntKind.signed,IntKind.bits];omega⟩,[fidV p.2],k3,rfl⟩
end
end
end Go.Proofs.YtamjkbneebghmaaDoor.V
namespace Go.Proofs.YtamjkbneebghmaaDoor.V
open Go
set_option linter.unusedVariables false
section
variable {u : Bool} [Dr u]
section
variable {P : Program} {ops : Array Oper} {o : Oper} {L : Lst}
theorem zem (v:Str) (l h:Nat):(⟨v.toArray⟩:ByteArray).extract l h=⟨((v.take h).drop l).toArray⟩:=by
 apply ByteArray.ext;rw [ByteArray.data_extract];simp [List.drop_take]
theorem zek {v:Str} {k k2:IntKind} {l i:Int} {y z0 z:Operand} {t:TypeId} (hy:Opn L y (Pd.rep En.str v)) (hz0:Opn L z0 (Pd.rep (En.int k2) l)) (hz:Opn L z (Pd.rep (En.int k) i)) (hi:0≤l∧l≤i∧i≤(v.length:Int)) (ht:P.underlying t=some .string)
  (ho:o.op = .slice t y (some z0) (some z) none) (hg:o.guard=none):T P ops o L (Pd.rep En.str ((v.take i.toNat).drop l.toNat)):=
 T.pure hg fun M n s0 ac s hL=>by
  obtain ⟨hv,hl⟩:=zby.1 (hy M n s0 ac s hL);have hiv:=(zg.1 (hz M n s0 ac s hL)).1;have hlv:=(zg.1 (hz0 M n s0 ac s hL)).1;have hsz:(⟨v.toArray⟩:ByteArray).size=v.length:=by simp [ByteArray.size]
  refine ⟨.string ⟨((v.take i.toNat).drop l.toNat).toArray⟩, ?_,zby.2 ⟨rfl,by rw [List.length_drop,List.length_take];omega⟩⟩;unfold execOp;rw [ho];have h0:0≤i:=by omega
  simp [hv,hiv,hlv,Instr.sliceAt,run_underlying ht,Instr.slice,Instr.sliceBounds,Instr.sliceBound,asIntOf,hsz,h0,hi.2.2,hi.1,Int.toNat_of_nonneg h0,hi.2.1,zem]
theorem t_supto {v:Str} {k:IntKind} {i:Int} {y z:Operand} {t:TypeId} (hy:Opn L y (Pd.rep En.str v)) (hz:Opn L z (Pd.rep (En.int k) i)) (hi:0≤i∧i≤(v.length:Int)) (ht:P.underlying t=some .string)
  (ho:o.op = .slice t y none (some z) none) (hg:o.guard=none):T P ops o L (Pd.rep En.str (v.take i.toNat)):=
 T.pure hg fun M n s0 ac s hL=>by
  obtain ⟨hv,hl⟩:=zby.1 (hy M n s0 ac s hL);have hiv:=(zg.1 (hz M n s0 ac s hL)).1;have hsz:(⟨v.toArray⟩:ByteArray).size=v.length:=by simp [ByteArray.size]
  refine ⟨.string ⟨(v.take i.toNat).toArray⟩, ?_,zby.2 ⟨rfl,by rw [List.length_take];omega⟩⟩;unfold execOp;rw [ho];simp [hv,hiv,Instr.sliceAt,run_underlying ht,Instr.slice,Instr.sliceBounds,Instr.sliceBound,asIntOf,hsz,hi.1,hi.2,zem]
theorem zd5 {q r:Pd} {s s':St} {v:Value} (h:Rq2 q r s s' v):(Pd.tup2 q r).p s' v:=h
def Rq3 (q r p:Pd):St→St→Value→Prop:=fun _ s' v=>∃x y z,v = .tuple #[x,y,z]∧q.p s' x∧r.p s' y∧p.p s' z
def Pd.tup3 (q r p:Pd):Pd:=⟨fun s v=>∃x y z,v = .tuple #[x,y,z]∧q.p s x∧r.p s y∧p.p s z,fun b=>q.own b∨r.own b∨p.own b,fun h hb ⟨x,y,z,hv,h1,h2,h3⟩=>⟨x,y,z,hv,q.mv h (fun b hq=>hb b (.inl hq)) h1,r.mv h (fun b hr=>hb b (.inr (.inl hr))) h2,p.mv h (fun b hp=>hb b (.inr (.inr hp))) h3⟩⟩
theorem Fn.tup3 {P:Program} {f:FuncId} {qs:List Pd} {q r p:Pd} (h:Fn P f qs (Rq3 q r p)):Fn P f qs (Rq (Pd.tup3 q r p)):=h
theorem t_ext3_0 {q r p:Pd} {x:Operand} (hx:Opn L x (Pd.tup3 q r p)) (ho:o.op = .extract x 0) (hg:o.guard=none):T P ops o L q:=
 T.pure hg fun M n s0 a s hL=>by
  obtain ⟨u,v,w,hv,h1,h2,h3⟩:=hx M n s0 a s hL;refine ⟨u, ?_,h1⟩;unfold execOp;rw [ho];simp [hv,Instr.extract]
theorem t_ext3_1 {q r p:Pd} {x:Operand} (hx:Opn L x (Pd.tup3 q r p)) (ho:o.op = .extract x 1) (hg:o.guard=none):T P ops o L r:=
 T.pure hg fun M n s0 a s hL=>by
  obtain ⟨u,v,w,hv,h1,h2,h3⟩:=hx M n s0 a s hL;refine ⟨v, ?_,h2⟩;unfold execOp;rw [ho];simp [hv,Instr.extract]
theorem t_ext3_2 {q r p:Pd} {x:Operand} (hx:Opn L x (Pd.tup3 q r p)) (ho:o.op = .extract x 2) (hg:o.guard=none):T P ops o L p:=
 T.pure hg fun M n s0 a s hL=>by
  obtain ⟨u,v,w,hv,h1,h2,h3⟩:=hx M n s0 a s hL;refine ⟨w, ?_,h3⟩;unfold execOp;rw [ho];simp [hv,Instr.extract]
section
variable {fn : Func} {M : Nat → Prop} {n : Nat} {s0 : St} {a : Act} {s : St}
theorem ret3 {t u v:Nat} {q r p:Pd} (hr:fn.results = #[.tmp t,.tmp u,.tmp v]) (hL:Has M n s0 a s L) (hl:lk L t=some q) (hm:lk L u=some r) (hk:lk L v=some p):bodyPost P fn (Pst M (Rq3 q r p) s0) .ret a s.w:=
 ⟨hL.defers,.tuple #[a.tmps.getD t undef,a.tmps.getD u undef,a.tmps.getD v undef],by simp [results,hr],_,s,rfl,rfl,hL.ent,_,_,_,rfl,hL.get t hl,hL.get u hm,hL.get v hk⟩
theorem ret2b {a0 t0 v:Nat} {α:Type} {E:En α} {x:α} {N g:Nat} {r:Pd} (hr:fn.results = #[.cell a0 t0,.tmp v]) (hE:Ty P t0 E) (hL:Has M n s0 a s L) (hl:lk L a0=some (Pd.box E N g x)) (hm:lk L v=some r):bodyPost P fn (Pst M (Rq2 (Pd.rep E x) r) s0) .ret a s.w:=by
 obtain ⟨hv,_,_,cs,t',hc,hR⟩:=hL.get a0 hl;have e:=zbs (P:=P) hE hR (zba hc);have hv':a.tmps.getD a0 undef = .pointer (some ⟨g,0,none⟩):=hv;rw [Array.getD_eq_getD_getElem?] at hv';exact ⟨hL.defers,.tuple #[E.val cs,a.tmps.getD v undef],by simp [results,hr,hv',asAddr,e],_,s,rfl,rfl,hL.ent,_,_,rfl,⟨cs,rfl,hR⟩,hL.get v hm⟩
theorem zdz {a0 t0 v w:Nat} {α:Type} {E:En α} {x:α} {N g:Nat} {r p:Pd} (hr:fn.results = #[.cell a0 t0,.tmp v,.tmp w]) (hE:Ty P t0 E) (hL:Has M n s0 a s L) (hl:lk L a0=some (Pd.box E N g x)) (hm:lk L v=some r) (hk:lk L w=some p):bodyPost P fn (Pst M (Rq3 (Pd.rep E x) r p) s0) .ret a s.w:=by
 obtain ⟨hv,_,_,cs,t',hc,hR⟩:=hL.get a0 hl;have e:=zbs (P:=P) hE hR (zba hc);have hv':a.tmps.getD a0 undef = .pointer (some ⟨g,0,none⟩):=hv;rw [Array.getD_eq_getD_getElem?] at hv';exact ⟨hL.defers,.tuple #[E.val cs,a.tmps.getD v undef,a.tmps.getD w undef],by simp [results,hr,hv',asAddr,e],_,s,rfl,rfl,hL.ent,_,_,_,rfl,⟨cs,rfl,hR⟩,hL.get v hm,hL.get w hk⟩
end
def lvI:Option Nat→Int
 | some n=>n
 | none=>0
theorem t_mgetlev {κ:Type} [DecidableEq κ] {K:En κ} {kv:κ→Value} {xs:List (κ × Option Nat)} {k:κ} {x y:Operand} {t kt et:TypeId} (hx:Opn L x (Pd.rep (En.fmap K kv En.fid) xs)) (hy:Opn L y (Pd.rep K k)) (ht:P.underlying t=some (.map kt et)) (hK:KeyT P kt K kv) (hz:TyV P et En.fid none)
  (hb:∀p∈xs,∀n,p.2=some n→n≤1000000) (hf:∀x,fidV x = .int .i64 (lvI x)) (ho:o.op = .lookup t x y true) (hg:o.guard=none):T P ops o L (Pd.tup2 (Pd.rep (En.int .i64) (lvI (zcn xs k none))) (Pd.rep En.bool (zey xs k))):=by
 have hn:InR .i64 (lvI (zcn xs k none)):=by
  have h:∀n,zcn xs k none=some n→n≤1000000:=fun n h=>by
   unfold zcn at h;split at h
   ·rename_i p hp
    exact hb p (List.mem_of_find?_eq_some hp) n h
   ·cases h
  simp [InR,IntKind.min,IntKind.max,IntKind.signed,IntKind.bits];cases hm:zcn xs k none with
  | none=>simp [lvI]
  | some n=>have:=h n hm;simp [lvI];omega
 exact fun M n s0 a s hL Q k hk=>t_mgetfok hx hy ht hK hz ho hg M n s0 a s hL Q k fun v s' ⟨he,x,y,e,h1,h2⟩=>hk v s' ⟨he,x,y,e,zg.2 ⟨by rw [rep_fid.1 h1,hf],hn⟩,h2⟩
end
end
end Go.Proofs.YtamjkbneebghmaaDoor.V
namespace Go.Proofs.YtamjkbneebghmaaDoor.V
open Go
set_option linter.unusedVariables false
abbrev SNode:Type:=Int × Int × Int × Int × Int × Cl × Str
abbrev SDesc:Type:=(List SNode)
abbrev SToken:Type:=Int × Int × Cl × Str × Int × Int
def zcf (n:Int) (r:Str):Prop:=InR .i64 n∧r=Lib.itoa n
def zd6 (xs:List Str) (sep r:Str):Prop:=(xs.length≤100000∧(Lib.join xs sep).length≤100000000)∧r=Lib.join xs sep
section
variable {u : Bool} [Dr u]
class Ud (P:Program) (t:TypeId) (d:outParam TypeDesc):Prop where
 h:P.underlying t=some d
class Tq {α:outParam Type} (P:Program) (t:TypeId) (E:outParam (En α)):Prop where
 h:Ty P t E
class Us (P:Program) (t:TypeId) (n:outParam Nat):Prop where
 h:(P.info? t).map (·.size)=some n
class Fd {α:Type} {β:outParam Type} (P:Program) (t:TypeId) (f:Nat) (E:En α) (a:α) (off:outParam Nat) (E':outParam (En β)) (y:outParam β):Prop where
 h:∃(fs:Array Field) (fd:Field),P.underlying t=some (.struct fs)∧fs[f]?=some fd∧Prt E off E' a y∧fd.offset=off∧Ty P fd.type E'
class Ev {α:Sort _} (a:α) (b:outParam α):Prop where
 h:a=b
instance evr {α:Sort _} {a:α}:Ev a a:=⟨rfl⟩
@[reducible] def lkr:Lst→Nat→Option Pd
 | [],_=>none
 | (d,q)::r,t=>match Nat.beq d t with
  | true=>some q
  | false=>lkr r t
theorem lkr_lk:∀{L:Lst} {t:Nat},lkr L t=lk L t
 | [],_=>rfl
 | (d,q)::r,t=>by
  rw [lk,lkr];cases Nat.beq d t
  ·exact lkr_lk
  ·rfl
class Lx (L:Lst) (t:Nat) (q:outParam Pd):Prop where
 h:lk L t=some q
instance lxi {L:Lst} {t:Nat} {q:Pd} [h:Ev (lkr L t) (some q)]:Lx L t q:=⟨lkr_lk ▸ h.h⟩
class Imp (c d:Prop):Prop where
 h:c→d
instance imp0 {c:Prop}:Imp c c:=⟨id⟩
instance imp2 {a b c:Prop} [h:Imp b c]:Imp (a∧b) c:=⟨fun x=>h.h x.2⟩
class Vw (c:Prop) (q:Pd) (q':outParam Pd):Prop where
 h:∀s v,c→q.p s v→q'.p s v
instance (priority:=low) vw0 {c:Prop} {q:Pd}:Vw c q q:=⟨fun _ _ _ h=>h⟩
instance vw1 {c d:Prop} {q:Pd} [i:Imp c d]:Vw c (Pd.when d q) q:=⟨fun _ _ hc h=>h.1 (i.h hc)⟩
class Ki (k:IntKind) (x:Int):Prop where
 h:InR k x
@[reducible] def inb:IntKind→Int→Bool
 | .i64,.ofNat n=>Nat.ble n 9223372036854775807
 | .u8,.ofNat n=>Nat.ble n 255
 | .u64,.ofNat n=>Nat.ble n 18446744073709551615
 | _,_=>false
instance kix {k:IntKind} {x:Int} [h:Ev (inb k x) true]:Ki k x:=⟨by
 have e:=h.h
 unfold inb at e
 split at e
 all_goals first | (have:=Nat.le_of_ble_eq_true e;simp [InR,IntKind.min,IntKind.max,IntKind.signed,IntKind.bits];omega) | cases e⟩
instance kin {x:Int} [h:Ev (inb .i64 x) true]:Ki .i64 (-x):=⟨by
 have e:=h.h
 unfold inb at e
 split at e
 all_goals first | (have:=Nat.le_of_ble_eq_true e;simp [InR,IntKind.min,IntKind.max,IntKind.signed,IntKind.bits];omega) | cases e | contradiction⟩
class Oc (c:Prop) (L:Lst) (x:Operand) (q:outParam Pd):Prop where
 h:c→Opn L x q
instance oct {c:Prop} {L:Lst} {t:Nat} {q q':Pd} [h:Lx L t q] [v:Vw c q q']:Oc c L (.tmp t) q':=⟨fun hc M n s0 a s hL=>v.h s _ hc (hL.get t h.h)⟩
instance oci {c:Prop} {L:Lst} {k:IntKind} {x:Int} [h:Ki k x]:Oc c L (.const (.int k x)) (Pd.rep (En.int k) x):=⟨fun _=>o_i h.h⟩
instance ocb {c:Prop} {L:Lst} {x:Bool}:Oc c L (.const (.bool x)) (Pd.rep En.bool x):=⟨fun _=>o_b⟩
class Or {α:outParam Type} (c:Prop) (L:Lst) (x:Operand) (E:outParam (En α)) (N:outParam Nat) (te:outParam TypeId) (og:outParam (Option Nat)) (xs:outParam (List α)):Prop where
 h:c→Opn L x (Pd.row E N te og xs)
instance or0 {α:Type} {E:En α} {N te:Nat} {og:Option Nat} {xs:List α} {c:Prop} {L:Lst} {x:Operand} [h:Oc c L x (Pd.row E N te og xs)]:Or c L x E N te og xs:=⟨h.h⟩
theorem op {L:Lst} {x:Operand} {q:Pd} [h:Oc True L x q]:Opn L x q:=h.h trivial
theorem opc {c:Prop} (hc:c) {L:Lst} {x:Operand} {q:Pd} [h:Oc c L x q]:Opn L x q:=h.h hc
class Oz (c:Prop) (L:Lst) (xs:List Operand) (qs:List Pd):Prop where
 h:c→Opns L xs qs
instance oz0 {c:Prop} {L:Lst}:Oz c L [] []:=⟨fun _=>.nil⟩
instance oz1 {c:Prop} {L:Lst} {x:Operand} {xs:List Operand} {q:Pd} {qs:List Pd} [h:Oc c L x q] [k:Oz c L xs qs]:Oz c L (x::xs) (q::qs):=⟨fun hc=>.cons (h.h hc) (k.h hc)⟩
class Ol {α:Type} (E:En α) (c:Prop) (L:Lst) (xs:List Operand) (es:outParam (List α)):Prop where
 h:c→OpL E L xs es
instance ol0 {α:Type} {E:En α} {c:Prop} {L:Lst}:Ol E c L [] []:=⟨fun _=>.nil⟩
instance ol1 {α:Type} {E:En α} {c:Prop} {L:Lst} {x:Operand} {xs:List Operand} {e:α} {es:List α} [h:Oc c L x (Pd.rep E e)] [k:Ol E c L xs es]:Ol E c L (x::xs) (e::es):=⟨fun hc=>.cons (h.h hc) (k.h hc)⟩
theorem opz {L:Lst} {xs:List Operand} {qs:List Pd} [h:Oz True L xs qs]:Opns L xs qs:=h.h trivial
class Lp (parts:Array (Nat × Operand)) (xs:outParam (List Operand)) (n:Nat):Prop where
 h:parts=(xs.zipIdx.map fun (x,i)=>(i,x)).toArray∧n=xs.length
inductive Lq:Nat→List (Nat × Operand)→List Operand→Prop
 | nil {i:Nat}:Lq i [] []
 | cons {i:Nat} {x:Operand} {l:List (Nat × Operand)} {xs:List Operand} (h:Lq (i+1) l xs):Lq i ((i,x)::l) (x::xs)
theorem Lq.e {i:Nat} {l:List (Nat × Operand)} {xs:List Operand} (h:Lq i l xs):l=(xs.zipIdx i).map (fun (x,i)=>(i,x)):=by
 induction h with
 | nil=>rfl
 | cons _ ih=>rw [ih];rfl
class Lr (i:Nat) (l:List (Nat × Operand)) (xs:outParam (List Operand)) (n:outParam Nat):Prop where
 h:Lq i l xs∧n=xs.length
instance lr0 {i:Nat}:Lr i [] [] 0:=⟨.nil,rfl⟩
instance lr1 {i j n:Nat} {x:Operand} {l:List (Nat × Operand)} {xs:List Operand} [e:Ev (Nat.beq i j) true] [h:Lr (i+1) l xs n]:Lr i ((j,x)::l) (x::xs) (n+1):=⟨by rw [← Nat.eq_of_beq_eq_true e.h];exact .cons h.h.1,by rw [h.h.2];rfl⟩
instance lp0 {l:List (Nat × Operand)} {xs:List Operand} {n m:Nat} [h:Lr 0 l xs m] [e:Ev (Nat.beq n m) true]:Lp l.toArray xs n:=⟨by rw [h.h.1.e],by rw [Nat.eq_of_beq_eq_true e.h,h.h.2]⟩
theorem lp_lit {P:Program} {ops:Array Oper} {L:Lst} {α:Type} {E:En α} {t te:TypeId} {xs:List Operand} {es:List α} {n:Nat} {parts:Array (Nat × Operand)} {d:Option Nat} {ty:TypeId} {ps:String} {af:Array Edge} (hx:OpL E L xs es) (ht:P.underlying t=some (.slice te)) (hE:Ty P te E) (h:Lp parts xs n) (hn:n*E.sz≤16777216):T P ops ⟨d,.buildSlice t n parts,ty,ps,af,none⟩ L (Pd.rep (En.slice E) es):=t_lit hx ht hE h.h.2 h.h.1 hn rfl rfl
class Cj (a b:Prop) (c:outParam Prop):Prop where
 h:c→a∧b
instance (priority:=high) cj0 {a:Prop}:Cj True a a:=⟨fun h=>⟨trivial,h⟩⟩
instance (priority:=900) cj1 {a:Prop}:Cj a True a:=⟨fun h=>⟨h,trivial⟩⟩
instance (priority:=low) cj2 {a b:Prop}:Cj a b (a∧b):=⟨id⟩
class Gi (c r:Prop) (r':outParam Prop):Prop where
 h:r'→c→r
instance (priority:=high) gi0 {c:Prop}:Gi c True True:=⟨fun _ _=>trivial⟩
instance (priority:=low) gi1 {c r:Prop}:Gi c r (c→r):=⟨id⟩
class TO (c:Prop) (P:Program) (ops:Array Oper) (o:Oper) (L:Lst) (q:outParam Pd) (r:outParam Prop):Prop where
 h:r→c→T P ops o L q
class TH (p c:Prop) (P:Program) (ops:Array Oper) (o:Oper) (L:Lst) (q:outParam Pd):Prop where
 h:p→c→T P ops o L q
section
variable {c : Prop} {P : Program} {ops : Array Oper} {L : Lst} {d : Option Nat} {ty : TypeId} {ps : String} {af : Array Edge} {x y z : Operand} {t u' : TypeId} {k : IntKind} {a b : Int}
instance to1 {q:Pd} [i0:Oc c L x q]:TO c P ops ⟨d,.move x,ty,ps,af,none⟩ L (q) (True):=⟨fun hr hc=>zbl (i0.h hc) rfl rfl⟩
instance to2 {q:Pd} [i0:Oc c L x q]:TO c P ops ⟨d,.assign x,ty,ps,af,none⟩ L (q) (True):=⟨fun hr hc=>zu (i0.h hc) rfl rfl⟩
instance to3 {α:Type} {E:En α} {v:α} [i0:Tq P t E] [i1:Oc c L y (Pd.ptr E v)]:TO c P ops ⟨d,.load t y,ty,ps,af,none⟩ L (Pd.rep E v) (True):=⟨fun hr hc=>zce i0.h (i1.h hc) rfl rfl⟩
instance to4 {α:Type} {E:En α} {v:α} {N off:Nat} {og:Option Nat} [i0:Tq P t E] [i1:Oc c L y (Pd.optr E N og off v)]:TO c P ops ⟨d,.load t y,ty,ps,af,none⟩ L (Pd.rep E v) (True):=⟨fun hr hc=>t_loado i0.h (i1.h hc) rfl rfl⟩
instance to5 {α:Type} {E:En α} {v:α} {N g:Nat} [i0:Tq P t E] [i1:Oc c L y (Pd.box E N g v)]:TO c P ops ⟨d,.load t y,ty,ps,af,none⟩ L (Pd.rep E v) (True):=⟨fun hr hc=>t_loadb i0.h (i1.h hc) rfl rfl⟩
instance to6 {α β:Type} {E:En α} {E':En β} {v:α} {w:β} {f off:Nat}  [i0:Oc c L x (Pd.ptr E v)] [i1:Fd P t f E v off E' w]:TO c P ops ⟨d,.fieldAddr t x f,ty,ps,af,none⟩ L (Pd.ptr E' w) (True):=⟨fun hr hc=>let ⟨fs,fd,h1,h2,h3,h4,h5⟩:=i1.h;t_fa (i0.h hc) h1 h2 h3 h4 h5 rfl rfl⟩
instance to8 {α β:Type} {E:En α} {E':En β} {v:α} {w:β} {f off:Nat} {N g:Nat} [i0:Oc c L x (Pd.box E N g v)] [i1:Fd P t f E v off E' w]:TO c P ops ⟨d,.fieldAddr t x f,ty,ps,af,none⟩ L (Pd.optr E' N (some g) off w) (True):=⟨fun hr hc=>let ⟨fs,fd,h1,h2,h3,h4,h5⟩:=i1.h;t_fab (i0.h hc) h1 h2 h3 h4 h5 rfl rfl⟩
instance to10 [i0:Oc c L x (Pd.rep (En.int k) a)] [i1:Oc c L y (Pd.rep (En.int k) b)]:TO c P ops ⟨d,.binOp .lss t x y u',ty,ps,af,none⟩ L (Pd.rep En.bool (decide (a<b))) (True):=⟨fun hr hc=>t_lss (i0.h hc) (i1.h hc) rfl rfl⟩
instance to11 [i0:Oc c L x (Pd.rep (En.int k) a)] [i1:Oc c L y (Pd.rep (En.int k) b)]:TO c P ops ⟨d,.binOp .leq t x y u',ty,ps,af,none⟩ L (Pd.rep En.bool (decide (a≤b))) (True):=⟨fun hr hc=>t_leq (i0.h hc) (i1.h hc) rfl rfl⟩
instance to12 [i0:Oc c L x (Pd.rep (En.int k) a)] [i1:Oc c L y (Pd.rep (En.int k) b)]:TO c P ops ⟨d,.binOp .gtr t x y u',ty,ps,af,none⟩ L (Pd.rep En.bool (decide (b<a))) (True):=⟨fun hr hc=>t_gtr (i0.h hc) (i1.h hc) rfl rfl⟩
instance to13 [i0:Oc c L x (Pd.rep (En.int k) a)] [i1:Oc c L y (Pd.rep (En.int k) b)]:TO c P ops ⟨d,.binOp .geq t x y u',ty,ps,af,none⟩ L (Pd.rep En.bool (decide (b≤a))) (True):=⟨fun hr hc=>t_geq (i0.h hc) (i1.h hc) rfl rfl⟩
instance to14 [i0:Oc c L x (Pd.rep (En.int k) a)] [i1:Oc c L y (Pd.rep (En.int k) b)]:TO c P ops ⟨d,.binOp .eql t x y u',ty,ps,af,none⟩ L (Pd.rep En.bool (a==b)) (True):=⟨fun hr hc=>t_eqi (i0.h hc) (i1.h hc) rfl rfl⟩
instance to15 [i0:Oc c L x (Pd.rep (En.int k) a)] [i1:Oc c L y (Pd.rep (En.int k) b)]:TO c P ops ⟨d,.binOp .neq t x y u',ty,ps,af,none⟩ L (Pd.rep En.bool (a != b)) (True):=⟨fun hr hc=>t_nei (i0.h hc) (i1.h hc) rfl rfl⟩
instance to16 [i0:Oc c L x (Pd.rep (En.int .i64) a)] [i1:Oc c L y (Pd.rep (En.int .i64) b)]:TO c P ops ⟨d,.binOp .add t x y u',ty,ps,af,none⟩ L (Pd.rep (En.int .i64) (a+b)) (InR .i64 (a+b)):=⟨fun hr hc=>t_add (i0.h hc) (i1.h hc) hr rfl rfl⟩
instance to18 [i0:Oc c L x (Pd.rep (En.int .u64) a)] [i1:Oc c L y (Pd.rep (En.int .u64) b)]:TO c P ops ⟨d,.binOp .add t x y u',ty,ps,af,none⟩ L (Pd.rep (En.int .u64) (IntKind.wrap .u64 (a+b))) (True):=⟨fun hr hc=>t_addw (i0.h hc) (i1.h hc) rfl rfl⟩
instance to19 [i0:Oc c L x (Pd.rep (En.int .i64) a)] [i1:Oc c L y (Pd.rep (En.int .i64) b)]:TO c P ops ⟨d,.binOp .sub t x y u',ty,ps,af,none⟩ L (Pd.rep (En.int .i64) (a-b)) (InR .i64 (a-b)):=⟨fun hr hc=>t_sub (i0.h hc) (i1.h hc) hr rfl rfl⟩
instance to22 [i0:Oc c L x (Pd.rep (En.int .i64) a)] [i1:Oc c L y (Pd.rep (En.int .i64) b)]:TO c P ops ⟨d,.binOp .mul t x y u',ty,ps,af,none⟩ L (Pd.rep (En.int .i64) (a*b)) (InR .i64 (a*b)):=⟨fun hr hc=>t_mul (i0.h hc) (i1.h hc) hr rfl rfl⟩
instance to24 [i0:Oc c L x (Pd.rep (En.int .u64) a)] [i1:Oc c L y (Pd.rep (En.int .u64) b)]:TO c P ops ⟨d,.binOp .mul t x y u',ty,ps,af,none⟩ L (Pd.rep (En.int .u64) (IntKind.wrap .u64 (a*b))) (True):=⟨fun hr hc=>t_mulw (i0.h hc) (i1.h hc) rfl rfl⟩
instance to26 {v:Bool} [i0:Oc c L x (Pd.rep En.bool v)]:TO c P ops ⟨d,.unOp .not t x,ty,ps,af,none⟩ L (Pd.rep En.bool (!v)) (True):=⟨fun hr hc=>t_not (i0.h hc) rfl rfl⟩
instance to32a {v w:Str} [i0:Oc c L x (Pd.rep En.str v)] [i1:Oc c L y (Pd.rep En.str w)]:TO c P ops ⟨d,.binOp .add t x y u',ty,ps,af,none⟩ L (Pd.rep En.str (v++w)) (v.length+w.length≤9223372036854775807):=⟨fun hr hc=>zbh (i0.h hc) (i1.h hc) hr rfl rfl⟩
instance to34 {v w:Bool} [i0:Oc c L x (Pd.rep En.bool v)] [i1:Oc (c∧v=true) L y (Pd.rep En.bool w)]:TO c P ops ⟨d,.pick x y (.const (.bool false)),ty,ps,af,none⟩ L (Pd.rep En.bool (v&&w)) (True):=⟨fun hr hc=>t_and (i0.h hc) (fun e=>i1.h ⟨hc,e⟩) rfl rfl⟩
instance to35 {v w:Bool} [i0:Oc c L x (Pd.rep En.bool v)] [i1:Oc (c∧v=false) L y (Pd.rep En.bool w)]:TO c P ops ⟨d,.pick x (.const (.bool true)) y,ty,ps,af,none⟩ L (Pd.rep En.bool (v||w)) (True):=⟨fun hr hc=>t_or (i0.h hc) (fun e=>i1.h ⟨hc,e⟩) rfl rfl⟩
instance to36 {α:Type} {E:En α} {xs:List α} {te:TypeId} [i0:Oc c L y (Pd.rep (En.slice E) xs)] [i1:Ud P t (.slice te)]:TO c P ops ⟨d,.call { callee:=.builtin .len,args:=#[y],argTypes:=#[t] },ty,ps,af,none⟩ L (Pd.rep (En.int .i64) xs.length) (True):=⟨fun hr hc=>t_len (i0.h hc) i1.h rfl rfl⟩
instance to38 {v:Str} [i0:Oc c L y (Pd.rep En.str v)] [i1:Ud P t .string]:TO c P ops ⟨d,.call { callee:=.builtin .len,args:=#[y],argTypes:=#[t] },ty,ps,af,none⟩ L (Pd.rep (En.int .i64) v.length) (True):=⟨fun hr hc=>t_slen (i0.h hc) i1.h rfl rfl⟩
instance to39 {ats:Array TypeId} [i0:Oc c L x (Pd.rep (En.int k) a)] [i1:Oc c L y (Pd.rep (En.int k) b)]:TO c P ops ⟨d,.call { callee:=.builtin .max,args:=#[x,y],argTypes:=ats },ty,ps,af,none⟩ L (Pd.rep (En.int k) (max a b)) (True):=⟨fun hr hc=>t_max (i0.h hc) (i1.h hc) rfl rfl⟩
instance to40 {ats:Array TypeId} [i0:Oc c L x (Pd.rep (En.int k) a)] [i1:Oc c L y (Pd.rep (En.int k) b)]:TO c P ops ⟨d,.call { callee:=.builtin .min,args:=#[x,y],argTypes:=ats },ty,ps,af,none⟩ L (Pd.rep (En.int k) (min a b)) (True):=⟨fun hr hc=>t_min (i0.h hc) (i1.h hc) rfl rfl⟩
instance to41 {α:Type} {E:En α} {v:α} [i0:Oc c L y (Pd.rep E v)]:TO c P ops ⟨d,.box t y,ty,ps,af,none⟩ L (Pd.ptr E v) (True):=⟨fun hr hc=>t_box (i0.h hc) rfl rfl⟩
instance to42 {q r:Pd} [i0:Oc c L x (Pd.tup2 q r)]:TO c P ops ⟨d,.extract x 0,ty,ps,af,none⟩ L (q) (True):=⟨fun hr hc=>t_ext0 (i0.h hc) rfl rfl⟩
instance to43 {q r:Pd} [i0:Oc c L x (Pd.tup2 q r)]:TO c P ops ⟨d,.extract x 1,ty,ps,af,none⟩ L (r) (True):=⟨fun hr hc=>t_ext1 (i0.h hc) rfl rfl⟩
instance to45 {α:Type} {E:En α} {te:TypeId} {xs:List Operand} {es:List α} {n:Nat} {parts:Array (Nat × Operand)}  [i0:Ud P t (.slice te)] [i1:Tq P te E] [i2:Lp parts xs n] [i3:Ol E c L xs es]:TO c P ops ⟨d,.buildSlice t n parts,ty,ps,af,none⟩ L (Pd.rep (En.slice E) es) (n*E.sz≤16777216):=⟨fun hr hc=>lp_lit (i3.h hc) i0.h i1.h i2 hr⟩
instance to46 [i0:Oc c L y (Pd.rep (En.int k) a)] [i1:Ud P t (.int k)] [i2:Ud P u' (.int .u8)]:TO c P ops ⟨d,.convert t u' y,ty,ps,af,none⟩ L (Pd.rep (En.int .u8) (a % 256)) (True):=⟨fun hr hc=>t_u8 (i0.h hc) i1.h i2.h rfl rfl⟩
instance to47 [i0:Oc c L y (Pd.rep (En.int .u8) a)] [i1:Ud P t (.int .u8)] [i2:Ud P u' (.int .i64)]:TO c P ops ⟨d,.convert t u' y,ty,ps,af,none⟩ L (Pd.rep (En.int .i64) a) (True):=⟨fun hr hc=>t_up (i0.h hc) (by decide) i1.h i2.h rfl rfl⟩
instance to53 [i0:Oc c L x (Pd.rep (En.int .u64) a)] [i1:Oc c L y (Pd.rep (En.int .u8) b)]:TO c P ops ⟨d,.binOp .shr t x y u',ty,ps,af,none⟩ L (Pd.rep (En.int .u64) (shrI a b)) (True):=⟨fun hr hc=>t_shr (i0.h hc) (i1.h hc) (by decide) rfl rfl⟩
instance to57 [i0:Oc c L x (Pd.rep (En.int .u64) a)] [i1:Oc c L y (Pd.rep (En.int .u64) b)]:TO c P ops ⟨d,.binOp .and t x y u',ty,ps,af,none⟩ L (Pd.rep (En.int .u64) (andI a b)) (True):=⟨fun hr hc=>t_andb (i0.h hc) (i1.h hc) rfl rfl⟩
instance to59 {α:Type} {E:En α} {xs:List α} {e:α} {te:TypeId} [i0:Oc c L x (Pd.rep (En.slice E) xs)] [i1:Oc c L y (Pd.rep (En.int k) a)] [i2:Ud P t (.slice te)] [i3:Tq P te E]:TH (at? xs a=some e) c P ops ⟨d,.indexAddr t x y,ty,ps,af,none⟩ L (Pd.ptr E e):=⟨fun hr hc=>t_idx (i0.h hc) (i1.h hc) hr i2.h i3.h rfl rfl⟩
instance to60 {α:Type} {E:En α} {xs:List α} {e:α} {N te te':Nat} {og:Option Nat} [i0:Or c L x E N te' og xs] [i1:Oc c L y (Pd.rep (En.int k) a)] [i2:Ud P t (.slice te)] [i3:Tq P te E]:TH (at? xs a=some e) c P ops ⟨d,.indexAddr t x y,ty,ps,af,none⟩ L (Pd.optr E N og (a.toNat*E.sz) e):=⟨fun hr hc=>t_idxo (i0.h hc) (i1.h hc) hr i2.h i3.h rfl rfl⟩
instance to61 {v:Str} {e:Int} [i0:Oc c L x (Pd.rep En.str v)] [i1:Oc c L y (Pd.rep (En.int k) a)] [i2:Ud P t .string]:TH (zbk v a=some e) c P ops ⟨d,.index t x y,ty,ps,af,none⟩ L (Pd.rep (En.int .u8) e):=⟨fun hr hc=>t_sidx (i0.h hc) (i1.h hc) hr i2.h rfl rfl⟩
instance to65 [i0:Oc c L x (Pd.rep (En.int .i64) a)] [i1:Oc c L y (Pd.rep (En.int .i64) b)]:TO c P ops ⟨d,.binOp .quo t x y u',ty,ps,af,none⟩ L (Pd.rep (En.int .i64) (a / b)) (0≤a∧0<b):=⟨fun hr hc=>t_quo (i0.h hc) (i1.h hc) hr.1 hr.2 rfl rfl⟩
instance to66 [i0:Oc c L x (Pd.rep (En.int .u8) a)] [i1:Oc c L y (Pd.rep (En.int .u8) b)]:TO c P ops ⟨d,.binOp .quo t x y u',ty,ps,af,none⟩ L (Pd.rep (En.int .u8) (a / b)) (0<b):=⟨fun hr hc=>t_quou (i0.h hc) (i1.h hc) (by decide) hr rfl rfl⟩
instance to67 [i0:Oc c L x (Pd.rep (En.int .u64) a)] [i1:Oc c L y (Pd.rep (En.int .u64) b)]:TO c P ops ⟨d,.binOp .quo t x y u',ty,ps,af,none⟩ L (Pd.rep (En.int .u64) (a / b)) (0<b):=⟨fun hr hc=>t_quou (i0.h hc) (i1.h hc) (by decide) hr rfl rfl⟩
instance to68 [i0:Oc c L x (Pd.rep (En.int .i64) a)] [i1:Oc c L y (Pd.rep (En.int .i64) b)]:TO c P ops ⟨d,.binOp .rem t x y u',ty,ps,af,none⟩ L (Pd.rep (En.int .i64) (a % b)) (0≤a∧0<b):=⟨fun hr hc=>t_rem (i0.h hc) (i1.h hc) hr.1 hr.2 rfl rfl⟩
instance to69 [i0:Oc c L x (Pd.rep (En.int .u8) a)] [i1:Oc c L y (Pd.rep (En.int .u8) b)]:TO c P ops ⟨d,.binOp .rem t x y u',ty,ps,af,none⟩ L (Pd.rep (En.int .u8) (a % b)) (0<b):=⟨fun hr hc=>t_remu (i0.h hc) (i1.h hc) (by decide) hr rfl rfl⟩
instance to70 [i0:Oc c L x (Pd.rep (En.int .u64) a)] [i1:Oc c L y (Pd.rep (En.int .u64) b)]:TO c P ops ⟨d,.binOp .rem t x y u',ty,ps,af,none⟩ L (Pd.rep (En.int .u64) (a % b)) (0<b):=⟨fun hr hc=>t_remu (i0.h hc) (i1.h hc) (by decide) hr rfl rfl⟩
instance to71 {w:Cl} {te:TypeId}  [i0:Oc c L x (Pd.ptr En.cls w)] [i1:Oc c L y (Pd.rep (En.int k) a)] [i2:Ud P t (.array 4 te)] [i3:Us P te 1]:TO c P ops ⟨d,.indexAddr t x y,ty,ps,af,none⟩ L (Pd.ptr (En.int .u64) (w.w a)) (0≤a∧a<4):=⟨fun hr hc=>t_idxc (i0.h hc) (i1.h hc) hr i2.h i3.h rfl rfl⟩
instance to72 {w:Cl} {te:TypeId} {N g:Nat} [i0:Oc c L x (Pd.box En.cls N g w)] [i1:Oc c L y (Pd.rep (En.int k) a)] [i2:Ud P t (.array 4 te)] [i3:Us P te 1]:TO c P ops ⟨d,.indexAddr t x y,ty,ps,af,none⟩ L (Pd.optr (En.int .u64) N (some g) a.toNat (w.w a)) (0≤a∧a<4):=⟨fun hr hc=>t_idxcb (i0.h hc) (i1.h hc) hr i2.h i3.h rfl rfl⟩
instance toc {f:FuncId} {xs:List Operand} {qs:List Pd} {q:Pd} {ats:Array TypeId} [i:Oz c L xs qs]:TH (Fn P f qs (Rq q)) c P ops ⟨d,.call { callee:=.value (.func f),args:=xs.toArray,argTypes:=ats },ty,ps,af,none⟩ L q:=⟨fun hf hc=>zfc hf (i.h hc) rfl rfl⟩
class Gd (l:List Oper) (j:Nat) (d:outParam Nat):Prop where
 h:(l[j]?).bind (·.dst)=some d
instance gd0 {l:List Oper} {d:Nat} {op:Op} {g:Option (Nat × Bool)}:Gd (⟨some d,op,ty,ps,af,g⟩::l) 0 d:=⟨rfl⟩
instance gd1 {l:List Oper} {o:Oper} {j d:Nat} [h:Gd l j d]:Gd (o::l) (j+1) d:=⟨by simpa using h.h⟩
theorem Gd.arr {l:List Oper} {j d:Nat} (h:Gd l j d):((l.toArray)[j]?).bind (·.dst)=some d:=by simpa using h.h
section
variable {l : List Oper} {j e : Nat} {o : Op} {want v : Bool} {q : Pd} {c0 r r' p : Prop} [g : Gd l j e]
include g
instance tg1 [k:Lx L e (Pd.rep En.bool v)] [i:TO (v=want) P l.toArray ⟨d,o,ty,ps,af,none⟩ L q r] [z:Gi (v=want) r r']:TO True P l.toArray ⟨d,o,ty,ps,af,some (j,want)⟩ L (Pd.when (v=want) q) r':=⟨fun hr _=>zdj rfl g.arr k.h fun hc=>i.h (z.h hr hc) hc⟩
instance tg2 [k:Lx L e (Pd.when c0 (Pd.rep En.bool v))] [i:TO (c0∧v=want) P l.toArray ⟨d,o,ty,ps,af,none⟩ L q r] [z:Gi (c0∧v=want) r r']:TO True P l.toArray ⟨d,o,ty,ps,af,some (j,want)⟩ L (Pd.when (c0∧v=want) q) r':=⟨fun hr _=>t_g rfl g.arr k.h fun hc=>i.h (z.h hr hc) hc⟩
instance th1 [k:Lx L e (Pd.rep En.bool v)] [i:TH p (v=want) P l.toArray ⟨d,o,ty,ps,af,none⟩ L q]:TH (v=want→p) True P l.toArray ⟨d,o,ty,ps,af,some (j,want)⟩ L (Pd.when (v=want) q):=⟨fun hr _=>zdj rfl g.arr k.h fun hc=>i.h (hr hc) hc⟩
instance th2 [k:Lx L e (Pd.when c0 (Pd.rep En.bool v))] [i:TH p (c0∧v=want) P l.toArray ⟨d,o,ty,ps,af,none⟩ L q]:TH (c0∧v=want→p) True P l.toArray ⟨d,o,ty,ps,af,some (j,want)⟩ L (Pd.when (c0∧v=want) q):=⟨fun hr _=>t_g rfl g.arr k.h fun hc=>i.h (hr hc) hc⟩
end
end
theorem rr {r:Prop} (h:r:=by first | exact trivial | assumption | exact Dis.symm (by assumption) | exact And.intro rr rr | exact fun _=>rr | exact Dis.none | exact Dis.symm Dis.none | decide):r:=h
class Sb (q:Pd):Prop where
 h:∀b,¬ q.own b
instance sb_rep {α:Type} {E:En α} {x:α}:Sb (Pd.rep E x):=⟨fun _ h=>h⟩
instance sb_ptr {α:Type} {E:En α} {x:α}:Sb (Pd.ptr E x):=⟨fun _ h=>h⟩
instance sb_any:Sb Pd.any:=⟨fun _ h=>h⟩
instance sb_when {c:Prop} {q:Pd} [h:Sb q]:Sb (Pd.when c q):=⟨h.h⟩
instance sb_tup {q r:Pd} [h:Sb q] [k:Sb r]:Sb (Pd.tup2 q r):=⟨fun b e=>e.elim (h.h b) (k.h b)⟩
class Ob (q:Pd) (o:outParam (Option Nat)):Prop where
 h:∀b,q.own b→o=some b
section
variable {α : Type} {E : En α} {N te g i : Nat} {og : Option Nat} {x : α} {xs : List α} {v0 : Value}
instance ob_row:Ob (Pd.row E N te og xs) og:=⟨fun _ h=>h⟩
instance ob_box:Ob (Pd.box E N g x) (some g):=⟨fun _ h=>congrArg some (Eq.symm h)⟩
instance ob_optr:Ob (Pd.optr E N og i x) og:=⟨fun _ h=>h⟩
end
class Ka (o:Option Nat) (L:Lst) (L':outParam Lst) (r:outParam Prop):Prop where
 h:r→Kp (fun b=>o=some b) L L'
section
variable {o o' : Option Nat} {L L' : Lst} {r r' : Prop} {t : Nat} {q : Pd}
instance ka0:Ka o [] [] True:=⟨fun _=>.a0⟩
instance (priority:=1100) ka1 [s:Sb q] [k:Ka o L L' r]:Ka o ((t,q)::L) ((t,q)::L') r:=⟨fun hr=>.ak (fun b hb=>(s.h b hb).elim) (k.h hr)⟩
instance (priority:=1050) ka2 [s:Ob q o] [k:Ka o L L' r]:Ka o ((t,q)::L) ((t,Pd.any)::L') r:=⟨fun hr=>.ad (k.h hr)⟩
instance ka3 [s:Ob q o'] [k:Ka o L L' r] [z:Cj (Dis o' o) r r']:Ka o ((t,q)::L) ((t,q)::L') r':=⟨fun hr=>.ak (fun b hb e=>(z.h hr).1 b (s.h b hb) e) (k.h (z.h hr).2)⟩
instance (priority:=low) ka4 [k:Ka o L L' r]:Ka o ((t,q)::L) ((t,Pd.any)::L') r:=⟨fun hr=>.ad (k.h hr)⟩
theorem ka [i:Ka o L L' r] (hr:r:=by exact rr):Kp (fun b=>o=some b) L L':=i.h hr
class Kd (o:Option Nat) (L:Lst) (L':outParam Lst):Prop where
 h:Kp (fun _=>False) L L'
instance kd0:Kd o [] []:=⟨.a0⟩
instance (priority:=1050) kd1 [s:Ob q o] [k:Kd o L L']:Kd o ((t,q)::L) ((t,Pd.any)::L'):=⟨.ad k.h⟩
instance kd2 [k:Kd o L L']:Kd o ((t,q)::L) ((t,q)::L'):=⟨.ak (fun _ _ h=>h) k.h⟩
theorem Has.dr {M:Nat→Prop} {n:Nat} {s0:St} {a:Act} {s:St} (h:Has M n s0 a s L) (o:Option Nat) [k:Kd o L L']:Has M n s0 a s L':=h.keep k.h
class Ks (o:Option Nat) (q q':Pd) (L:Lst) (L':outParam Lst) (r:outParam Prop):Prop where
 h:r→Kw (fun b=>o=some b) L q q' L'
variable {p p' : Pd}
instance ks0:Ks o p p' [] [] True:=⟨fun _=>.a0⟩
instance (priority:=1200) ks5 [k:Ks o p p' L L' r]:Ks o p p' ((t,p)::L) ((t,p')::L') r:=⟨fun hr=>.aw (k.h hr)⟩
instance (priority:=1100) ks1 [s:Sb q] [k:Ks o p p' L L' r]:Ks o p p' ((t,q)::L) ((t,q)::L') r:=⟨fun hr=>.ak (fun b hb=>(s.h b hb).elim) (k.h hr)⟩
instance (priority:=1050) ks2 [s:Ob q o] [k:Ks o p p' L L' r]:Ks o p p' ((t,q)::L) ((t,Pd.any)::L') r:=⟨fun hr=>.ad (k.h hr)⟩
instance ks3 [s:Ob q o'] [k:Ks o p p' L L' r] [z:Cj (Dis o' o) r r']:Ks o p p' ((t,q)::L) ((t,q)::L') r':=⟨fun hr=>.ak (fun b hb e=>(z.h hr).1 b (s.h b hb) e) (k.h (z.h hr).2)⟩
theorem kw [i:Ks o p p' L L' r] (hr:r:=by exact rr):Kw (fun b=>o=some b) L p p' L':=i.h hr
end
section
variable {P : Program} {ops : Array Oper} {L L' : Lst} {Q : Exit → Act → World → Prop} {rest : List Oper} {M : Nat → Prop} {n : Nat} {s0 : St} {a : Act} {s : St}
theorem Has.kk (h:Has M n s0 a s L) (hk:Kp (fun _=>False) L L':=by repeat (first | refine .cons rfl (fun _ _ h=>h) ?_ | exact .nil)):Has M n s0 a s L':=h.keep hk
inductive TSq (P:Program) (ops:Array Oper) (n:Nat):List Oper→List Oper→Lst→Lst→Prop
 | nil {l:List Oper} {L:Lst}:TSq P ops n l l L L
 | cons {o:Oper} {l l':List Oper} {L L':Lst} {q:Pd} {d:Nat} (h:T P ops o L q) (hd:o.dst=some d) (hn:Nat.blt d n=true) (h2:TSq P ops n l l' ((d,q)::L) L'):TSq P ops n (o::l) l' L L'
theorem TSq.go {l l':List Oper} (h:TSq P ops n l l' L L'):∀{a s},Has M n s0 a s L→(∀a s,Has M n s0 a s L'→wpList P ops Q l' a s.w)→wpList P ops Q l a s.w:=by
 induction h with
 | nil=>intro a s h k;exact k a s h
 | cons h hd hn _ ih=>intro a s hL k;exact st _ h hd hn hL fun a s _ hL=>ih hL k
class TL (P:Program) (ops:Array Oper) (n m:Nat) (p:Prop) (l:List Oper) (L:Lst) (l':outParam (List Oper)) (L':outParam Lst) (r:outParam Prop):Prop where
 h:p→r→TSq P ops n l l' L L'
section
variable {o : Op} {l l' : List Oper} {q : Pd} {d m : Nat} {r1 r2 r p p1 : Prop} {ty : TypeId} {ps : String} {af : Array Edge} {g : Option (Nat × Bool)}
instance tl0:TL P ops n 0 True l L l L True:=⟨fun _ _=>.nil⟩
instance tl1 [i:TO True P ops ⟨some d,o,ty,ps,af,g⟩ L q r1] [e:Ev (Nat.ble (d+1) n) true] [k:TL P ops n m p l ((d,q)::L) l' L' r2] [z:Cj r1 r2 r]:TL P ops n (m+1) p (⟨some d,o,ty,ps,af,g⟩::l) L l' L' r:=⟨fun hp hr=>.cons (i.h (z.h hr).1 trivial) rfl e.h (k.h hp (z.h hr).2)⟩
instance tl2 [i:TH p1 True P ops ⟨some d,o,ty,ps,af,g⟩ L q] [e:Ev (Nat.ble (d+1) n) true] [k:TL P ops n m p l ((d,q)::L) l' L' r]:TL P ops n (m+1) (p1∧p) (⟨some d,o,ty,ps,af,g⟩::l) L l' L' r:=⟨fun hp hr=>.cons (i.h hp.1 trivial) rfl e.h (k.h hp.2 hr)⟩
instance (priority:=high) tl3 {α:Type} {E:En α} {x y:α} [i:TO True P ops ⟨some d,o,ty,ps,af,g⟩ L (Pd.rep E y) r1] [e:Ev (Nat.ble (d+1) n) true] [k:TL P ops n m p l ((d,Pd.rep E x)::L) l' L' r2] [z:Cj r1 r2 r]:TL P ops n (m+1) (x=y∧p) (⟨some d,o,ty,ps,af,g⟩::l) L l' L' r:=⟨fun hp hr=>.cons (by rw [hp.1];exact i.h (z.h hr).1 trivial) rfl e.h (k.h hp.2 (z.h hr).2)⟩
end
theorem sl {l l':List Oper} {r p:Prop} (m:Nat) (hp:p) (hL:Has M n s0 a s L) (k:∀a s,Has M n s0 a s L'→wpList P ops Q l' a s.w) [i:TL P ops n m p l L l' L' r] (hr:r:=by exact rr):wpList P ops Q l a s.w:=(i.h hp hr).go hL k
theorem sA {l l':List Oper} {r:Prop} (m:Nat) (hL:Has M n s0 a s L) (k:∀a s, Has M n s0 a s L'→wpList P ops Q l' a s.w) [i:TL P ops n m True l L l' L' r] (hr:r := by exact rr):wpList P ops Q l a s.w := sl m trivial hL k hr
theorem sv {o:Oper} {q:Pd} {d:Nat} (h:T P ops o L q) (hL:Has M n s0 a s L) (k:∀a' s',Has M n s0 a' s' ((d,q)::L)→wpList P ops Q rest a' s'.w) (hd:o.dst=some d:=by rfl) (hn:Nat.blt d n=true:=by rfl):wpList P ops Q (o::rest) a s.w:=st d h hd hn hL fun a s _ h=>k a s h
theorem sno {α:Type} (E:En α) (te:Nat) {d:Nat} {o:Oper} (hL:Has M n s0 a s L) (k:∀a' s',Has M n s0 a' s' ((d,Pd.row E s0.w.heap.size te none ([]:List α))::L)→wpList P ops Q rest a' s'.w) (ho:o.op = .move (.const (.slice none 0 0))∨o.op = .assign (.const (.slice none 0 0)):=by first | exact .inr rfl | exact .inl rfl) (hg:o.guard=none:=by rfl) (hd:o.dst=some d:=by rfl) (hn:Nat.blt d n=true:=by rfl):wpList P ops Q (o::rest) a s.w:=sv (ho.elim (fun h=>zbl o_nil h hg) fun h=>zu o_nil h hg) hL k hd hn
theorem snr {α:Type} (E:En α) {d:Nat} {o:Oper} (hL:Has M n s0 a s L) (k:∀a' s',Has M n s0 a' s' ((d,Pd.rep (En.slice E) ([]:List α))::L)→wpList P ops Q rest a' s'.w) (ho:o.op = .move (.const (.slice none 0 0))∨o.op = .assign (.const (.slice none 0 0)):=by first | exact .inr rfl | exact .inl rfl) (hg:o.guard=none:=by rfl) (hd:o.dst=some d:=by rfl) (hn:Nat.blt d n=true:=by rfl):wpList P ops Q (o::rest) a s.w:=sv (ho.elim (fun h=>zbl o_nilr h hg) fun h=>zu o_nilr h hg) hL k hd hn
theorem pp {a b:Prop} (h:a) (k:b):a∧b:=⟨h,k⟩
theorem p1 {a:Prop} (h:a):a∧True := ⟨h, trivial⟩
variable {b : Code} {id : Nat} {l : List Oper}
theorem rs (h:wpList P l.toArray (Exit.then (b.wp P Q) Q) l a s.w):(Code.seq (Code.region id l.toArray false) b).wp P Q a s.w:=wp_seq (rg h)
theorem es (h:b.wp P Q a s.w):wpList P ops (Exit.then (b.wp P Q) Q) [] a s.w:=h
theorem ra {r p:Prop} (m:Nat) (hp:p) (hL:Has M n s0 a s L) (k:∀a s,Has M n s0 a s L'→b.wp P Q a s.w) [i:TL P l.toArray n m p l L [] L' r] (hr:r:=by exact rr):(Code.seq (Code.region id l.toArray false) b).wp P Q a s.w:=rs ((i.h hp hr).go hL fun a s h=>es (k a s h))
theorem rA (m:Nat) (hL:Has M n s0 a s L) (k:∀a s, Has M n s0 a s L'→b.wp P Q a s.w) {r:Prop} [i:TL P l.toArray n m True l L [] L' r] (hr:r := by exact rr):(Code.seq (Code.region id l.toArray false) b).wp P Q a s.w := ra m trivial hL k hr
theorem sB {α:Type} {E:En α} {x0 x1:α} {g:Nat} {y:Operand} {t:TypeId} {o:Oper} (c:Nat) (hL:Has M n s0 a s L) (k:∀s', Has M n s0 a s' ((c, Pd.box E s0.w.heap.size g x1)::L')→wpList P ops Q rest a s'.w) (ho:o.op = .store t (.tmp c) y := by rfl) (hc:lk L c=some (Pd.box E s0.w.heap.size g x0) := by rfl) [hy:Oc True L y (Pd.rep E x1)] [ht:Tq P t E] (hg:o.guard=none := by rfl) (hd:o.dst=none := by rfl) (hk:Kp (fun b => some g=some b) L L' := by exact ka):wpList P ops Q (o::rest) a s.w := st_stb c hL hc (hy.h trivial) ht.h ho hg hd hk k
@[reducible] def bnd (e:Edge):Bool:=match e.ground with
 | .textOnly _=>false
 | .gcOnly _=>false
 | _=>true
theorem bnd_eq (e:Edge):Region.binds .any e=bnd e:=by
 unfold Region.binds bnd;cases e.ground <;> rfl
@[reducible] def nthR:Lst→Nat→Option (Nat × Pd)
 | [],_=>none
 | x::_,0=>some x
 | _::r,k+1=>nthR r k
@[reducible] def depA (i:Nat) (A L:Lst):List Edge→Lst
 | []=>L
 | e::r=>match bnd e,nthR A (Nat.sub (Nat.sub i 1) e.on) with
  | true,some x=>x::depA i A L r
  | _,_=>depA i A L r
inductive AA (P:Program) (ops:Array Oper) (L:Lst):Nat→Lst→List Oper→List Pd→Lst→Prop
 | nil {i:Nat} {A:Lst} {l:List Oper}:AA P ops L i A l [] A
 | cons {i:Nat} {A A':Lst} {o:Oper} {l:List Oper} {q:Pd} {qs:List Pd} {d:Nat} (h:T P ops o (depA i A L o.after.toList) q) (hd:o.dst=some d) (h2:AA P ops L (i+1) ((d,q)::A) l qs A'):AA P ops L i A (o::l) (q::qs) A'
theorem nthR_newL {ops:Array Oper} {qs:List Pd} {L:Lst}:∀{i:Nat},(∀j,j<i→∃d q,(ops[j]?).bind (·.dst)=some d∧qs[j]?=some q)→∀j d q,j<i→(ops[j]?).bind (·.dst)=some d→qs[j]?=some q→nthR (newL ops qs i L) (Nat.sub (Nat.sub i 1) j)=some (d,q)
 | 0,_,j,d,q,hj,_,_=>by omega
 | i+1,hall,j,d,q,hj,hd,hq=>by
  obtain ⟨d',q',h1,h2⟩:=hall i (by omega);unfold newL;rw [h1,h2]
  by_cases hji:j=i
  ·subst hji;rw [h1] at hd;rw [h2] at hq;cases hd;cases hq;have e:Nat.sub (Nat.sub (j+1) 1) j=0:=by show j+1-1-j=0;omega
   rw [e]
  ·have e:Nat.sub (Nat.sub (i+1) 1) j=Nat.sub (Nat.sub i 1) j+1:=by show i+1-1-j=i-1-j+1;omega
   rw [e];exact nthR_newL (fun j hj=>hall j (by omega)) j d q (by omega) hd hq
theorem depA_eq {ops:Array Oper} {qs:List Pd} {L:Lst} {i:Nat} (hall:∀j,j<i→∃d q,(ops[j]?).bind (·.dst)=some d∧qs[j]?=some q):∀es:List Edge,(∀e∈es,Region.binds .any e=true→e.on<i)→depA i (newL ops qs i L) L es=depL ops qs es L
 | [],_=>rfl
 | e::r,h=>by
  have ih:=depA_eq (L:=L) hall r fun e he=>h e (by simp [he]);unfold depA depL;cases hb:Region.binds .any e
  ·rw [bnd_eq] at hb;rw [hb];simp only;exact ih
  ·have hlt:=h e (by simp) hb;obtain ⟨d,q,h1,h2⟩:=hall e.on hlt;rw [bnd_eq] at hb;rw [hb,nthR_newL hall e.on d q hlt h1 h2,h1,h2];simp only;rw [ih]
theorem AA.all {l0:List Oper} {n m:Nat} (hok:zdf l0.toArray m n (L.map (·.1)) []=true):∀{l:List Oper} {i:Nat} {A A':Lst} {qs:List Pd},AA P l0.toArray L i A l qs A'→∀(pre:List Oper) (qp:List Pd),l0=pre++l→pre.length=i→qp.length=i→(∀j,j<i→∃d q,(l0[j]?).bind (·.dst)=some d∧qp[j]?=some q)→A=newL l0.toArray (qp++qs) i L →
  z7 P l0.toArray (qp++qs) L l qs∧A'=newL l0.toArray (qp++qs) (i+qs.length) L:=by
 intro l i A A' qs h
 induction h with
 | nil=>intro pre qp h1 h2 h3 h4 h5;exact ⟨z7.nil,by simpa using h5⟩
 | cons h hd h2 ih=>
  rename_i i A A' o l q qs d
  intro pre qp h1 h2 h3 h4 h5;have e1:l0[i]?=some o:=by rw [h1,List.getElem?_append_right (by omega),show i-pre.length=0 by omega];rfl
  have hall:∀j,j<i→∃d q',((l0.toArray)[j]?).bind (·.dst)=some d∧(qp++q::qs)[j]?=some q':=fun j hj=>by
   obtain ⟨d,q',k1,k2⟩:=h4 j hj;exact ⟨d,q',by simpa using k1,by rw [List.getElem?_append_left (by omega)];exact k2⟩
  have hdep:∀e∈o.after.toList,Region.binds .any e=true→e.on<i:=by
   unfold zdf at hok;rw [Bool.and_eq_true,List.all_eq_true] at hok;have hil:=(List.getElem?_eq_some_iff.1 e1).1;have:=List.all_eq_true.1 hok.2 i (by simpa using hil);rw [show (l0.toArray)[i]?=some o by simpa using e1] at this;simp only [Bool.and_eq_true,List.all_eq_true] at this;intro e he hb;have:=this.1 e he;simp only [hb,Bool.not_true,Bool.false_or] at this;exact Nat.le_of_ble_eq_true this
  have e2:=ih (pre++[o]) (qp++[q]) (by rw [h1,List.append_assoc];rfl) (by simp [h2]) (by simp [h3]) (fun j hj=>by
   by_cases hji:j=i
   ·subst hji;exact ⟨d,q,by rw [e1];exact hd,by rw [List.getElem?_append_right (by omega),show j-qp.length=0 by omega];rfl⟩
   ·obtain ⟨d,q',k1,k2⟩:=h4 j (by omega);exact ⟨d,q',k1,by rw [List.getElem?_append_left (by omega)];exact k2⟩) (by
   rw [List.append_assoc];show (d,q)::A=newL l0.toArray (qp++q::qs) (i+1) L;unfold newL;have k1:((l0.toArray)[i]?).bind (·.dst)=some d:=by rw [show (l0.toArray)[i]?=some o by simpa using e1];exact hd
   have k2:(qp++q::qs)[i]?=some q:=by rw [List.getElem?_append_right (by omega),show i-qp.length=0 by omega];rfl
   rw [k1,k2,h5])
  rw [List.append_assoc] at e2;refine ⟨z7.cons ?_ e2.1, ?_⟩
  ·rw [← depA_eq hall _ hdep,← h5];exact h
  ·rw [e2.2];show newL l0.toArray (qp++q::qs) (i+1+qs.length) L=newL l0.toArray (qp++q::qs) (i+(q::qs).length) L;rw [List.length_cons];congr 1;omega
class TA (P:Program) (ops:Array Oper) (L:Lst) (i m:Nat) (p:Prop) (A:Lst) (l:List Oper) (qs:outParam (List Pd)) (A':outParam Lst) (r:outParam Prop):Prop where
 h:p→r→AA P ops L i A l qs A'
section
variable {o : Op} {l : List Oper} {q : Pd} {qs : List Pd} {A A' : Lst} {d i m : Nat} {r1 r2 r p p1 : Prop} {ty : TypeId} {ps : String} {af : List Edge} {g : Option (Nat × Bool)}
instance ta0:TA P ops L i 0 True A l [] A True:=⟨fun _ _=>.nil⟩
instance ta1 [j:TO True P ops ⟨some d,o,ty,ps,af.toArray,g⟩ (depA i A L af) q r1] [k:TA P ops L (i+1) m p ((d,q)::A) l qs A' r2] [z:Cj r1 r2 r]:TA P ops L i (m+1) p A (⟨some d,o,ty,ps,af.toArray,g⟩::l) (q::qs) A' r:=⟨fun hp hr=>.cons (j.h (z.h hr).1 trivial) rfl (k.h hp (z.h hr).2)⟩
instance ta2 [j:TH p1 True P ops ⟨some d,o,ty,ps,af.toArray,g⟩ (depA i A L af) q] [k:TA P ops L (i+1) m p ((d,q)::A) l qs A' r]:TA P ops L i (m+1) (p1∧p) A (⟨some d,o,ty,ps,af.toArray,g⟩::l) (q::qs) A' r:=⟨fun hp hr=>.cons (j.h hp.1 trivial) rfl (k.h hp.2 hr)⟩
end
class Dp (m:Nat) (l:List Oper) (l':outParam (List Oper)):Prop where
 h:l.drop m=l'
instance dp0 {l:List Oper}:Dp 0 l l:=⟨rfl⟩
instance dp1 {m:Nat} {o:Oper} {l l':List Oper} [h:Dp m l l']:Dp (m+1) (o::l) l':=⟨by rw [List.drop_succ_cons];exact h.h⟩
theorem dp {m:Nat} {l l':List Oper} [i:Dp m l l'] (h:wpList P ops Q l' a s.w):wpList P ops Q (l.drop m) a s.w:=i.h ▸ h
theorem rdx {l':List Oper} {r p:Prop} {qs:List Pd} (m:Nat) (hp:p) (hL:Has M n s0 a s L) (hB:∀a' s',Has M n s0 a' s' L'→wpList P l.toArray Q l' a' s'.w) [i:TA P l.toArray L 0 m p L l qs L' r] [j:Dp m l l'] (hr:r:=by exact rr)
  (hf:P.follows .mixedOrders=true:=by exact zdi) (hok:zdf l.toArray m n (L.map (·.1)) []=true:=by kernel_rfl) (hq:Nat.beq qs.length m=true:=by rfl) (hm:Nat.ble m l.length=true:=by rfl):(Code.region id l.toArray true).wp P Q a s.w:=by
 have h:=AA.all hok (i.h hp hr) [] [] rfl rfl rfl (fun j hj=>by omega) rfl;refine rda hf m qs hL hok hq hm h.1 fun a s _ hL=>dp (hB a s ?_);have e:=h.2;rw [Nat.zero_add,Nat.eq_of_beq_eq_true hq] at e;rw [e];exact hL
theorem cn {t:Nat} {b:Bool} {x y:Code} {A B:Prop} (hL:Has M n s0 a s L) (h:(b=true→A)∧(b=false→B)) (h1:A→x.wp P Q a s.w) (h2:B→y.wp P Q a s.w) (hl:lk L t=some (Pd.rep En.bool b):=by rfl):(Code.cond (.tmp t) x y).wp P Q a s.w:=cnd hL hl (fun e=>h1 (h.1 e)) (fun e=>h2 (h.2 e))
section
variable {α : Type} {E : En α} {te g : Nat} {og : Option Nat} {xs : List α} {x : α}
theorem fzl (t:Nat) (hL:Has M n s0 a s L) (k:∀s',Has M n s0 a s' ((t,Pd.rep (En.slice E) xs)::L')→wpList P ops Q l a s'.w) (hl:lk L t=some (Pd.row E s0.w.heap.size te og xs):=by rfl) (hk:Kp (fun b=>og=some b) L L':=by exact ka):wpList P ops Q l a s.w:=by
 obtain ⟨s',hw,h⟩:=hL.freeze t hl hk;rw [← hw];exact k s' h
theorem fzc (t:Nat) (hL:Has M n s0 a s L) (k:∀s',Has M n s0 a s' ((t,Pd.rep (En.slice E) xs)::L')→b.wp P Q a s'.w) (hl:lk L t=some (Pd.row E s0.w.heap.size te og xs):=by rfl) (hk:Kp (fun b=>og=some b) L L':=by exact ka):b.wp P Q a s.w:=by
 obtain ⟨s',hw,h⟩:=hL.freeze t hl hk;rw [← hw];exact k s' h
theorem fbc (t:Nat) (hL:Has M n s0 a s L) (k:∀s',Has M n s0 a s' ((t,Pd.ptr E x)::L')→b.wp P Q a s'.w) (hl:lk L t=some (Pd.box E s0.w.heap.size g x):=by rfl) (hk:Kp (fun b=>some g=some b) L L':=by exact ka):b.wp P Q a s.w:=by
 obtain ⟨s',hw,h⟩:=hL.freezeb t hl hk;rw [← hw];exact k s' h
end
theorem lpn {c:Code} (I:Nat→Act→St→Prop) (k0:Nat) (h0:I k0 a s)
  (round:∀k a s,I (k+1) a s→∀K:Act→World→Prop,(∀a' s',I k a' s'→K a' s'.w)→c.wp P (Exit.then K Q) a s.w) (hz:∀a s,I 0 a s→False:=by intro a s h;repeat (obtain ⟨_,h⟩:=h)):(Code.loop c).wp P Q a s.w:=
 lpg I k0 h0 fun k a s h K hK=>match k,h with
  | 0,h=>(hz a s h).elim
  | k+1,h=>round k a s h K fun a' s' h'=>hK k a' s' (Nat.lt_succ_self k) h'
end
end
end Go.Proofs.YtamjkbneebghmaaDoor.V
namespace Go.Proofs.YtamjkbneebghmaaDoor.V
open Go
set_option linter.unusedVariables false
set_option maxRecDepth 100000
section
variable {u : Bool} [Dr u]
noncomputable abbrev EnF63:En (Int × Str × Str × Str × Int→Prop):=En.fun Tryd.prog (fun q=>[Pd.rep (En.int .i64) q.1,Pd.rep En.str q.2.1,Pd.rep En.str q.2.2.1]) (fun q=>Rq2 (Pd.rep En.str q.2.2.2.1) (Pd.rep (En.int .i64) q.2.2.2.2))
noncomputable abbrev EnF64:En (Int × Str × Str × Int→Prop):=En.fun Tryd.prog (fun q=>[Pd.rep (En.int .i64) q.1,Pd.rep En.str q.2.1]) (fun q=>Rq2 (Pd.rep En.str q.2.2.1) (Pd.rep (En.int .i64) q.2.2.2))
noncomputable abbrev EnF65:En (Str × Str × Int→Prop):=En.fun Tryd.prog (fun q=>[Pd.rep En.str q.1]) (fun q=>Rq2 (Pd.rep En.str q.2.1) (Pd.rep (En.int .i64) q.2.2))
noncomputable abbrev EnF66:En (Str × Int→Prop):=En.fun Tryd.prog (fun q=>[]) (fun q=>Rq2 (Pd.rep En.str q.1) (Pd.rep (En.int .i64) q.2))
noncomputable abbrev En.SNode:En SNode:=(En.cat (En.int .i64) (En.cat (En.int .i64) (En.cat (En.int .i64) (En.cat (En.int .i64) (En.cat (En.int .i64) (En.cat En.cls En.str))))))
noncomputable abbrev En.SDesc:En SDesc:=En.solo (En.slice En.SNode)
noncomputable abbrev En.SToken:En SToken:=(En.cat (En.int .i64) (En.cat (En.int .i64) (En.cat En.cls (En.cat En.str (En.cat (En.int .i64) (En.int .i64))))))
theorem ty3:Ty Tryd.prog 3 (En.int .i64):=⟨⟨_,_,rfl,rfl,rfl,rfl,by decide⟩,_,rfl,rfl⟩
theorem ty4:Ty Tryd.prog 4 En.bool:=⟨⟨_,_,rfl,rfl,rfl,rfl,by decide⟩,_,rfl,rfl⟩
theorem ty9:Ty Tryd.prog 9 En.str:=⟨⟨_,_,rfl,rfl,rfl,rfl,by decide⟩,_,rfl,rfl⟩
theorem ty22:Ty Tryd.prog 22 (En.slice En.SNode):=⟨⟨_,_,rfl,rfl,rfl,rfl,by decide⟩,_,rfl,rfl⟩
theorem ty24:Ty Tryd.prog 24 En.SDesc:=⟨⟨_,_,rfl,rfl,rfl,rfl,by decide⟩,_,rfl,rfl⟩
theorem ty25:Ty Tryd.prog 25 (En.int .u64):=⟨⟨_,_,rfl,rfl,rfl,rfl,by decide⟩,_,rfl,rfl⟩
theorem ty27:Ty Tryd.prog 27 En.cls:=⟨⟨_,_,rfl,rfl,rfl,rfl,by decide⟩,_,rfl,rfl⟩
theorem ty38:Ty Tryd.prog 38 En.SToken:=⟨⟨_,_,rfl,rfl,rfl,rfl,by decide⟩,_,rfl,rfl⟩
theorem ty43:Ty Tryd.prog 43 En.SNode:=⟨⟨_,_,rfl,rfl,rfl,rfl,by decide⟩,_,rfl,rfl⟩
theorem ty63:Ty Tryd.prog 63 EnF63:=⟨⟨_,_,rfl,rfl,rfl,rfl,by decide⟩,_,rfl,rfl⟩
theorem ty64:Ty Tryd.prog 64 EnF64:=⟨⟨_,_,rfl,rfl,rfl,rfl,by decide⟩,_,rfl,rfl⟩
theorem ty65:Ty Tryd.prog 65 EnF65:=⟨⟨_,_,rfl,rfl,rfl,rfl,by decide⟩,_,rfl,rfl⟩
theorem tyz4:TyZ Tryd.prog 4 En.bool (false:Bool):=⟨_,_,[.bool false],rfl,rfl,by rfl,fun _ _=>(by rfl)⟩
theorem zfk:TyZ Tryd.prog 24 En.SDesc ([]:SDesc):=⟨_,_,[.slice none 0 0],rfl,rfl,by rfl,fun _ _=>⟨_,rfl,slV_nil _ _ _⟩⟩
theorem ze6:TyZ Tryd.prog 27 En.cls ((0#256):Cl):=⟨_,_,zx 0#256,rfl,rfl,by rfl,fun _ _=>rfl⟩
theorem tyz38:TyZ Tryd.prog 38 En.SToken ((0,0,(0#256),([]:Str),0,0):SToken):=⟨_,_,([.int .i64 0]++([.int .i64 0]++(zx 0#256++([.string ⟨#[]⟩]++([.int .i64 0]++[.int .i64 0]))))),rfl,rfl,by rfl,fun _ _=>⟨_,_,rfl,⟨rfl,by decide⟩,⟨_,_,rfl,⟨rfl,by decide⟩,⟨_,_,rfl,rfl,⟨_,_,rfl,⟨rfl,by decide⟩,⟨_,_,rfl,⟨rfl,by decide⟩,⟨rfl,by decide⟩⟩⟩⟩⟩⟩⟩
theorem tyz43:TyZ Tryd.prog 43 En.SNode ((0,0,0,0,0,(0#256),([]:Str)):SNode):=⟨_,_,([.int .i64 0]++([.int .i64 0]++([.int .i64 0]++([.int .i64 0]++([.int .i64 0]++(zx 0#256++[.string ⟨#[]⟩])))))),rfl,rfl,by rfl,fun _ _=>⟨_,_,rfl,⟨rfl,by decide⟩,⟨_,_,rfl,⟨rfl,by decide⟩,⟨_,_,rfl,⟨rfl,by decide⟩,⟨_,_,rfl,⟨rfl,by decide⟩,⟨_,_,rfl,⟨rfl,by decide⟩,⟨_,_,rfl,rfl,⟨rfl,by decide⟩⟩⟩⟩⟩⟩⟩⟩
theorem tyz63:TyZ Tryd.prog 63 EnF63 ((fun _=>False):(Int × Str × Str × Str × Int→Prop)):=⟨_,_,[.nilFunc],rfl,rfl,by rfl,fun _ _=>.inl ⟨rfl,fun _ h=>h⟩⟩
theorem tyz64:TyZ Tryd.prog 64 EnF64 ((fun _=>False):(Int × Str × Str × Int→Prop)):=⟨_,_,[.nilFunc],rfl,rfl,by rfl,fun _ _=>.inl ⟨rfl,fun _ h=>h⟩⟩
theorem tyz65:TyZ Tryd.prog 65 EnF65 ((fun _=>False):(Str × Str × Int→Prop)):=⟨_,_,[.nilFunc],rfl,rfl,by rfl,fun _ _=>.inl ⟨rfl,fun _ h=>h⟩⟩
theorem tyv66:TyV Tryd.prog 66 EnF66 ((fun _=>False):(Str × Int→Prop)):=⟨_,[.nilFunc],rfl,by rfl,fun _ _=>.inl ⟨rfl,fun _ h=>h⟩⟩
theorem stt24:Stt Tryd.prog 24 [(0,1)]:=⟨_,Tryd.underlying24,by kernel_rfl⟩
theorem stt38:Stt Tryd.prog 38 [(0,1),(1,1),(2,4),(6,1),(7,1),(8,1)]:=⟨_,Tryd.underlying38,by kernel_rfl⟩
theorem stt43:Stt Tryd.prog 43 [(0,1),(1,1),(2,1),(3,1),(4,1),(5,4),(9,1)]:=⟨_,Tryd.underlying43,by kernel_rfl⟩
instance ud3:Ud Tryd.prog 3 (.int .i64):=⟨Tryd.underlying3⟩
instance ud5:Ud Tryd.prog 5 (.int .u8):=⟨Tryd.underlying5⟩
instance ud9:Ud Tryd.prog 9 (.string):=⟨Tryd.underlying9⟩
instance ud22:Ud Tryd.prog 22 (.slice 43):=⟨Tryd.underlying22⟩
instance ud27:Ud Tryd.prog 27 (.array 4 25):=⟨Tryd.underlying27⟩
instance ud34:Ud Tryd.prog 34 (.slice 38):=⟨Tryd.underlying34⟩
instance ud52:Ud Tryd.prog 52 (.slice 9):=⟨Tryd.underlying52⟩
instance ud57:Ud Tryd.prog 57 (.slice 4):=⟨Tryd.underlying57⟩
instance ud62:Ud Tryd.prog 62 (.map 3 3):=⟨Tryd.underlying62⟩
instance ud67:Ud Tryd.prog 67 (.map 3 66):=⟨Tryd.underlying67⟩
instance ud86:Ud Tryd.prog 86 (.slice 3):=⟨Tryd.underlying86⟩
instance us25:Us Tryd.prog 25 1:=⟨by rfl⟩
instance tq3:Tq Tryd.prog 3 (En.int .i64):=⟨ty3⟩
instance tq4:Tq Tryd.prog 4 En.bool:=⟨ty4⟩
instance tq9:Tq Tryd.prog 9 En.str:=⟨ty9⟩
instance tq22:Tq Tryd.prog 22 (En.slice En.SNode):=⟨ty22⟩
instance tq24:Tq Tryd.prog 24 En.SDesc:=⟨ty24⟩
instance tq25:Tq Tryd.prog 25 (En.int .u64):=⟨ty25⟩
instance tq27:Tq Tryd.prog 27 En.cls:=⟨ty27⟩
instance tq38:Tq Tryd.prog 38 En.SToken:=⟨ty38⟩
instance tq43:Tq Tryd.prog 43 En.SNode:=⟨ty43⟩
instance tq63:Tq Tryd.prog 63 EnF63:=⟨ty63⟩
instance tq64:Tq Tryd.prog 64 EnF64:=⟨ty64⟩
instance tq65:Tq Tryd.prog 65 EnF65:=⟨ty65⟩
instance fd24_0 {a:SDesc}:Fd Tryd.prog 24 0 En.SDesc a 0 (En.slice En.SNode) a:=⟨_,_,Tryd.underlying24,rfl,(zdb (zbd _ _)),rfl,ty22⟩
instance fd38_0 {a:SToken}:Fd Tryd.prog 38 0 En.SToken a 0 (En.int .i64) a.1:=⟨_,_,Tryd.underlying38,rfl,(zb4 (zbd _ _)),rfl,ty3⟩
instance fd38_2 {a:SToken}:Fd Tryd.prog 38 2 En.SToken a 2 En.cls a.2.2.1:=⟨_,_,Tryd.underlying38,rfl,(zl (zl (zb4 (zbd _ _)) rfl) rfl),rfl,ty27⟩
instance fd38_3 {a:SToken}:Fd Tryd.prog 38 3 En.SToken a 6 En.str a.2.2.2.1:=⟨_,_,Tryd.underlying38,rfl,(zl (zl (zl (zb4 (zbd _ _)) rfl) rfl) rfl),rfl,ty9⟩
instance fd38_4 {a:SToken}:Fd Tryd.prog 38 4 En.SToken a 7 (En.int .i64) a.2.2.2.2.1:=⟨_,_,Tryd.underlying38,rfl,(zl (zl (zl (zl (zb4 (zbd _ _)) rfl) rfl) rfl) rfl),rfl,ty3⟩
instance fd38_5 {a:SToken}:Fd Tryd.prog 38 5 En.SToken a 8 (En.int .i64) a.2.2.2.2.2:=⟨_,_,Tryd.underlying38,rfl,(zl (zl (zl (zl (zl (zbd _ _) rfl) rfl) rfl) rfl) rfl),rfl,ty3⟩
instance fd43_0 {a:SNode}:Fd Tryd.prog 43 0 En.SNode a 0 (En.int .i64) a.1:=⟨_,_,Tryd.underlying43,rfl,(zb4 (zbd _ _)),rfl,ty3⟩
instance fd43_1 {a:SNode}:Fd Tryd.prog 43 1 En.SNode a 1 (En.int .i64) a.2.1:=⟨_,_,Tryd.underlying43,rfl,(zl (zb4 (zbd _ _)) rfl),rfl,ty3⟩
instance fd43_2 {a:SNode}:Fd Tryd.prog 43 2 En.SNode a 2 (En.int .i64) a.2.2.1:=⟨_,_,Tryd.underlying43,rfl,(zl (zl (zb4 (zbd _ _)) rfl) rfl),rfl,ty3⟩
instance fd43_5 {a:SNode}:Fd Tryd.prog 43 5 En.SNode a 5 En.cls a.2.2.2.2.2.1:=⟨_,_,Tryd.underlying43,rfl,(zl (zl (zl (zl (zl (zb4 (zbd _ _)) rfl) rfl) rfl) rfl) rfl),rfl,ty27⟩
instance fd43_6 {a:SNode}:Fd Tryd.prog 43 6 En.SNode a 9 En.str a.2.2.2.2.2.2:=⟨_,_,Tryd.underlying43,rfl,(zl (zl (zl (zl (zl (zl (zbd _ _) rfl) rfl) rfl) rfl) rfl) rfl),rfl,ty9⟩
theorem eq27:Eqv Tryd.prog 27 En.cls:=eqv_cls (by exact Tryd.underlying27) rfl rfl (by kernel_rfl)
end
end Go.Proofs.YtamjkbneebghmaaDoor.V
namespace Go.Proofs.YtamjkbneebghmaaDoor.V
open Go Go.Shelf
set_option linter.unusedVariables false
set_option maxRecDepth 100000
def sl171_ren:Go.Shelf.Ren:=⟨fun | 171=>42 | 243=>55 | 246=>62 | 283=>67 | 284=>68 | 285=>69 | 286=>70 | 129=>72 | 317=>71 | 318=>73 | 319=>74 | 320=>75 | 337=>76 | 338=>77 | n=>n,fun | 3=>3 | 9=>9 | 2=>2 | 4=>4 | 171=>96 | 0=>0 | 53=>25 | 37=>70 | 5=>5 | 173=>99 | 212=>102 | 51=>103 | 20=>20 | 213=>104 | 46=>106 | 232=>109 | 233=>110 | n=>n,fun | 17=>2 | 18=>3 | 19=>4 | n=>n⟩
theorem sl171:Go.Proofs.LaysM.n171 Tryd.prog sl171_ren where
 mixed:=by kernel_rfl
 f129:=Tryd.func72.trans (congrArg some (by kernel_rfl))
 f171:=Tryd.func42.trans (congrArg some (by kernel_rfl))
 f243:=Tryd.func55.trans (congrArg some (by kernel_rfl))
 f246:=Tryd.func62.trans (congrArg some (by kernel_rfl))
 f283:=Tryd.func67.trans (congrArg some (by kernel_rfl))
 f284:=Tryd.func68.trans (congrArg some (by kernel_rfl))
 f285:=Tryd.func69.trans (congrArg some (by kernel_rfl))
 f286:=Tryd.func70.trans (congrArg some (by kernel_rfl))
 f317:=Tryd.func71.trans (congrArg some (by kernel_rfl))
 f318:=Tryd.func73.trans (congrArg some (by kernel_rfl))
 f319:=Tryd.func74.trans (congrArg some (by kernel_rfl))
 f320:=Tryd.func75.trans (congrArg some (by kernel_rfl))
 f337:=Tryd.func76.trans (congrArg some (by kernel_rfl))
 f338:=Tryd.func77.trans (congrArg some (by kernel_rfl))
 t0:=Tryd.underlying0
 a0:=Tryd.isAgg0
 z0:=Tryd.sizeOf0
 v0:=Tryd.zeroValue0
 t2:=Tryd.underlying2
 a2:=Tryd.isAgg2
 z2:=Tryd.sizeOf2
 v2:=Tryd.zeroValue2
 t3:=Tryd.underlying3
 a3:=Tryd.isAgg3
 z3:=Tryd.sizeOf3
 v3:=Tryd.zeroValue3
 t4:=Tryd.underlying4
 a4:=Tryd.isAgg4
 z4:=Tryd.sizeOf4
 v4:=Tryd.zeroValue4
 t5:=Tryd.underlying5
 a5:=Tryd.isAgg5
 z5:=Tryd.sizeOf5
 v5:=Tryd.zeroValue5
 t9:=Tryd.underlying9
 a9:=Tryd.isAgg9
 z9:=Tryd.sizeOf9
 v9:=Tryd.zeroValue9
 t20:=Tryd.underlying20
 a20:=Tryd.isAgg20
 z20:=Tryd.sizeOf20
 v20:=Tryd.zeroValue20
 t37:=Tryd.underlying70
 a37:=Tryd.isAgg70
 z37:=Tryd.sizeOf70
 v37:=Tryd.zeroValue70
 t46:=Tryd.underlying106
 a46:=Tryd.isAgg106
 z46:=Tryd.sizeOf106
 v46:=Tryd.zeroValue106
 t51:=Tryd.underlying103
 a51:=Tryd.isAgg103
 z51:=Tryd.sizeOf103
 v51:=Tryd.zeroValue103
 t53:=Tryd.underlying25
 a53:=Tryd.isAgg25
 z53:=Tryd.sizeOf25
 v53:=Tryd.zeroValue25
 t171:=Tryd.underlying96
 a171:=Tryd.isAgg96
 z171:=Tryd.sizeOf96
 v171:=Tryd.zeroValue96
 t173:=Tryd.underlying99
 a173:=Tryd.isAgg99
 z173:=Tryd.sizeOf99
 v173:=Tryd.zeroValue99
 t212:=Tryd.underlying102
 a212:=Tryd.isAgg102
 z212:=Tryd.sizeOf102
 v212:=Tryd.zeroValue102
 t213:=Tryd.underlying104
 a213:=Tryd.isAgg104
 z213:=Tryd.sizeOf104
 t232:=Tryd.underlying109
 a232:=Tryd.isAgg109
 z232:=Tryd.sizeOf109
 v232:=Tryd.zeroValue109
 t233:=Tryd.underlying110
 a233:=Tryd.isAgg110
 z233:=Tryd.sizeOf110
 v233:=Tryd.zeroValue110
 g17:=by kernel_rfl
 g18:=by kernel_rfl
 g19:=by kernel_rfl
 i0:=by kernel_rfl
 i2:=by kernel_rfl
 i3:=by kernel_rfl
 i4:=by kernel_rfl
 i5:=by kernel_rfl
 i9:=by kernel_rfl
 i20:=by kernel_rfl
 i37:=by kernel_rfl
 i46:=by kernel_rfl
 i51:=by kernel_rfl
 i53:=by kernel_rfl
 i171:=by kernel_rfl
 i173:=by kernel_rfl
 i212:=by kernel_rfl
 i232:=by kernel_rfl
 i233:=by kernel_rfl
 m17:=by kernel_rfl
 m18:=by kernel_rfl
 m19:=by kernel_rfl
def sl156_ren:Go.Shelf.Ren:=⟨fun | 156=>26 | 165=>47 | 166=>48 | 169=>49 | 240=>56 | 241=>57 | 276=>63 | 277=>64 | n=>n,fun | 31=>52 | 9=>9 | 3=>3 | 4=>4 | 0=>0 | 20=>20 | 72=>72 | 76=>76 | 70=>69 | 37=>70 | 75=>75 | 127=>85 | 164=>92 | 5=>5 | 80=>78 | n=>n,fun | n=>n⟩
theorem sl156:Go.Proofs.Lays.n156 Tryd.prog sl156_ren where
 mixed:=by kernel_rfl
 f156:=Tryd.func26.trans (congrArg some (by kernel_rfl))
 f165:=Tryd.func47.trans (congrArg some (by kernel_rfl))
 f166:=Tryd.func48.trans (congrArg some (by kernel_rfl))
 f169:=Tryd.func49.trans (congrArg some (by kernel_rfl))
 f240:=Tryd.func56.trans (congrArg some (by kernel_rfl))
 f241:=Tryd.func57.trans (congrArg some (by kernel_rfl))
 f276:=Tryd.func63.trans (congrArg some (by kernel_rfl))
 f277:=Tryd.func64.trans (congrArg some (by kernel_rfl))
 t0:=Tryd.underlying0
 a0:=Tryd.isAgg0
 z0:=Tryd.sizeOf0
 v0:=Tryd.zeroValue0
 t3:=Tryd.underlying3
 a3:=Tryd.isAgg3
 z3:=Tryd.sizeOf3
 v3:=Tryd.zeroValue3
 t4:=Tryd.underlying4
 a4:=Tryd.isAgg4
 z4:=Tryd.sizeOf4
 v4:=Tryd.zeroValue4
 t9:=Tryd.underlying9
 a9:=Tryd.isAgg9
 z9:=Tryd.sizeOf9
 v9:=Tryd.zeroValue9
 t20:=Tryd.underlying20
 a20:=Tryd.isAgg20
 z20:=Tryd.sizeOf20
 v20:=Tryd.zeroValue20
 t31:=Tryd.underlying52
 a31:=Tryd.isAgg52
 z31:=Tryd.sizeOf52
 v31:=Tryd.zeroValue52
 t37:=Tryd.underlying70
 a37:=Tryd.isAgg70
 z37:=Tryd.sizeOf70
 v37:=Tryd.zeroValue70
 t70:=Tryd.underlying69
 a70:=Tryd.isAgg69
 z70:=Tryd.sizeOf69
 v70:=Tryd.zeroValue69
 t72:=Tryd.underlying72
 a72:=Tryd.isAgg72
 z72:=Tryd.sizeOf72
 v72:=Tryd.zeroValue72
 t75:=Tryd.underlying75
 a75:=Tryd.isAgg75
 z75:=Tryd.sizeOf75
 v75:=Tryd.zeroValue75
 t76:=Tryd.underlying76
 a76:=Tryd.isAgg76
 z76:=Tryd.sizeOf76
 v76:=Tryd.zeroValue76
 t127:=Tryd.underlying85
 a127:=Tryd.isAgg85
 z127:=Tryd.sizeOf85
 v127:=Tryd.zeroValue85
 t164:=Tryd.underlying92
 a164:=Tryd.isAgg92
 z164:=Tryd.sizeOf92
 v164:=Tryd.zeroValue92
open Go.RowKit
theorem bx156:Builder.Extra Tryd.prog sl156_ren where
 sizeBuilder:=by kernel_rfl
 liesBuilder:=by kernel_rfl
 t5:=Tryd.underlying5
 a5:=Tryd.isAgg5
 z5:=Tryd.sizeOf5
 v5:=Tryd.zeroValue5
 infoByte:=by kernel_rfl
 cellsByte:=by kernel_rfl
 sizeByte:=by kernel_rfl
 neB5:=by decide
theorem flat_one {α β:Type} (f:α→β):∀l:List α,(l.map fun x=>[f x]).flatten=l.map f
 | []=>rfl
 | x::l=>by rw [List.map_cons,List.flatten_cons,List.map_cons,flat_one f l];rfl
theorem els_str {w:World} {S:Nat→Prop} {css:List (List Value)} {xs:List Str} (h:Els En.str w S css xs):css=xs.map fun x=>[Value.string ⟨x.toArray⟩]:=by
 apply List.ext_getElem?;intro i;rw [List.getElem?_map];cases hx:xs[i]? with
 | none=>
  rw [List.getElem?_eq_none_iff] at hx;rw [Option.map_none,List.getElem?_eq_none_iff,h.1];exact hx
 | some x=>
  have hi:=(List.getElem?_eq_some_iff.1 hx).1;have hi2:i<css.length:=by rw [h.1];exact hi
  have hc:css[i]?=some css[i]:=List.getElem?_eq_getElem hi2;rw [hc,(h.2 i _ x hc hx).1];rfl
theorem zel {xs_:List Str} {sep_ r_:Str} (h:zd6 xs_ sep_ r_):Fn Tryd.prog 26 [(Pd.rep (En.slice En.str) xs_),(Pd.rep En.str sep_)] (Rq (Pd.rep En.str r_)):=by
 obtain ⟨⟨hn,hl⟩,rfl⟩:=h;refine ⟨zbw Tryd.func26 rfl (by rfl),fun s vs hgl hv=>?_⟩
 match vs,hv with
 | [v,w],⟨hv,hw,_⟩=>
  obtain ⟨ad,cap,rfl,h1,h2,h3,h4⟩:=zb1.1 hv;obtain ⟨rfl,hsl⟩:=zby.1 hw;have fin:∀(x:Str) (w':World),x.length≤9223372036854775807→Below s.w.heap.size s.w w'→∃(v:Value) (s':St),Ending.returned (.string ⟨x.toArray⟩) = .returned v∧s'.w=w'∧Ex s s'∧Rq (Pd.rep En.str x) s s' v:=fun x w' hx hb=>
   ⟨_,⟨w',s.X,fun b hb'=>Nat.lt_of_lt_of_le (s.lt b hb') hb.size⟩,rfl,rfl,⟨⟨DR.kit,hb.os,hb.tape,hb.output,hb.size,fun b hb' _=>hb.block b hb',fun _ h=>h.elim,fun b h=>.inl h⟩,fun b h=>h⟩,zby.2 ⟨rfl,hx⟩⟩
  by_cases hx:xs_=[]
  ·subst hx;refine (Any.strings_Join_none sl156 bx156 ad cap _ s.w).mono fun e w' ⟨he,hw⟩=>?_;subst he;subst hw;exact fin [] _ (by simp) (Below.refl _ _)
  ·obtain ⟨b,off,css,e1,hb,hEl,hc⟩:=h4 hx;subst e1;have ec:=els_str hEl;subst ec;have hm:(xs_.map fun l=>(⟨l.toArray⟩:ByteArray)).map (·.data.toList)=xs_:=by
    rw [List.map_map];have:((fun x:ByteArray=>x.data.toList) ∘ fun l:Str=>(⟨l.toArray⟩:ByteArray))=id:=by funext l;simp
    rw [this,List.map_id]
   have hcells:∀(j:Nat) (x:ByteArray),(xs_.map fun l=>(⟨l.toArray⟩:ByteArray))[j]?=some x→s.w.cell? ⟨b,off+j,none⟩=some (.string x):=fun j x hj=>by
    refine hc j _ ?_;rw [flat_one,List.getElem?_map];rw [List.getElem?_map] at hj;cases hx:xs_[j]? with
    | none=>rw [hx] at hj;cases hj
    | some l=>rw [hx] at hj;simp at hj;subst hj;rfl
   have:=Any.strings_Join sl156 bx156 b off cap (xs_.map fun l=>(⟨l.toArray⟩:ByteArray)) ⟨sep_.toArray⟩ s.w hcells hb.1 (by rw [List.length_map];omega) (by rw [List.length_map];exact h1) (by rw [hm];simp only;omega);rw [hm,List.length_map] at this;refine this.mono fun e w' ⟨he,hw⟩=>?_;subst he;exact fin _ _ (by simp only;omega) hw
theorem b_itoa (n:Int) (h0:-9223372036854775808≤n) (h1:n≤9223372036854775807) (w:World) (htab:Lib.TabIs Tryd.prog w "internal/strconv.uint64pow10" .u64 Lib.pow10Tab):
  Calls Tryd.prog 42 #[.int .i64 n] w fun e w'=>e = .returned (.string ⟨(Lib.itoa n).toArray⟩)∧∃k os,w'=Sort.grow (w.drewN k) os:=Any.strconv_Itoa sl171 n h0 h1 w htab
theorem zc4 {i_:Int} {r_:Str} (h:zcf i_ r_):Fn Tryd.prog 42 [(Pd.rep (En.int .i64) i_)] (Rq (Pd.rep En.str r_)):=by
 obtain ⟨hn,rfl⟩:=h;refine ⟨zbw Tryd.func42 rfl (by rfl),fun s vs hgl hv=>?_⟩
 match vs,hv with
 | [v],⟨hv,_⟩=>
  obtain ⟨rfl,hr⟩:=zg.1 hv;have fin:∀(x:Str) (w':World),x.length≤9223372036854775807→Below s.w.heap.size s.w w'→∃(v:Value) (s':St),Ending.returned (.string ⟨x.toArray⟩) = .returned v∧s'.w=w'∧Ex s s'∧Rq (Pd.rep En.str x) s s' v:=fun x w' hx hb=>
   ⟨_,⟨w',s.X,fun b hb'=>Nat.lt_of_lt_of_le (s.lt b hb') hb.size⟩,rfl,rfl,⟨⟨DR.kit,hb.os,hb.tape,hb.output,hb.size,fun b hb' _=>hb.block b hb',fun _ h=>h.elim,fun b h=>.inl h⟩,fun b h=>h⟩,zby.2 ⟨rfl,hx⟩⟩
  have htab:Lib.TabIs Tryd.prog s.w "internal/strconv.uint64pow10" .u64 Lib.pow10Tab:=by
   obtain ⟨_,t,fr,h2⟩:=hgl.1 _ (show (2,_)∈gtab from List.mem_cons_self ..);unfold Lib.TabIs World.var?;have hg:Tryd.prog.globalNamed "internal/strconv.uint64pow10"=some 2:=by kernel_rfl
   rw [hg];simp only [Option.bind_some];rw [h2];simp [Lib.pow10Tab]
  have hb:=inR_i64.1 hn;have hl:=Lib.itoa_length_le i_ hb.1 hb.2;refine (b_itoa i_ hb.1 hb.2 s.w htab).mono fun e w' ⟨he,k,os,hw⟩=>?_;subst he;subst hw;exact fin _ _ (by omega) (Lib.below_grow _ s.w (Nat.le_refl _) k os)
end Go.Proofs.YtamjkbneebghmaaDoor.V
namespace Go.Proofs.YtamjkbneebghmaaDoor.V
open Go
set_option linter.unusedVariables false
def zi.j1 (r_:Cl) (a5:Cl):Prop:=r_=a5
def zi.j2 (L1_:Cl→Int→Prop) (w9:Int) (a16:Cl):Prop:=(InR .i64 (w9+1))∧L1_ a16 (w9+1)
def zi.l2 (l_:(List Bool)) (w9:Int) (X2:Cl→Prop):Nat→Cl→Int→Int→Prop
 | 0,_,_,_=>False
 | k_0+1,a20,bit21,i22=>((decide (i22<64))=true→(InR .i64 (64*w9))∧(InR .i64 ((64*w9)+i22))∧∃e32:Bool,at? l_ ((64*w9)+i22)=some e32∧((e32)=true→(0≤w9∧w9<4)∧(0≤w9∧w9<4)∧(InR .i64 (i22+1))∧zi.l2 l_ w9 X2 k_0 (Cl.setw a20 w9 (IntKind.wrap .u64 ((Cl.w a20 w9)+bit21))) (IntKind.wrap .u64 (bit21*2)) (i22+1))∧((e32)=false→(InR .i64 (i22+1))∧zi.l2 l_ w9 X2 k_0 a20 (IntKind.wrap .u64 (bit21*2)) (i22+1)))∧((decide (i22<64))=false→X2 a20)
def zi.l1 (l_:(List Bool)) (X1:Cl→Prop):Nat→Cl→Int→Prop
 | 0,_,_=>False
 | k_0+1,a8,w9=>((decide (w9<4))=true→∃k23,zi.l2 l_ w9 (zi.j2 (zi.l1 l_ X1 k_0) w9) k23 a8 1 0)∧((decide (w9<4))=false→X1 a8)
def zi (l_:(List Bool)) (r_:Cl):Prop:=∃k10,zi.l1 l_ (zi.j1 r_) k10 (0#256) 0
def zp.j1 (r_:Cl) (l5:(List Bool)):Prop:=∃r9:Cl,zi l5 r9∧r_=r9
def zp.l1 (to_:Int) (X1:(List Bool)→Prop):Nat→(List Bool)→Int→Prop
 | 0,_,_=>False
 | k_0+1,l11,i13=>((decide (i13≤to_))=true→∃e20:Bool,at? l11 i13=some e20∧(InR .i64 (i13+1))∧zp.l1 to_ X1 k_0 (l11.set (i13:Int).toNat true) (i13+1))∧((decide (i13≤to_))=false→X1 l11)
def zp (from_:Int) (to_:Int) (r_:Cl):Prop:=∃k14,zp.l1 to_ (zp.j1 r_) k14 (List.replicate 256 false) from_
def zcd (a_:Cl) (cv_:Int) (r_:Bool):Prop:=(0≤(cv_ / 64)∧(cv_ / 64)<4)∧∃b2:Bool,b2=((andI (shrI (Cl.w a_ (cv_ / 64)) (cv_ % 64)) 1)==1)∧r_=b2
def zn.j1 (r_:Int) (n2:Int):Prop:=r_=n2
def zn.l1 (a_:Cl) (X1:Int→Prop):Nat→Int→Int→Prop
 | 0,_,_=>False
 | k_0+1,n4,v5=>((decide (v5<256))=true→∃r11:Bool,zcd a_ (v5 % 256) r11∧((r11)=true→(InR .i64 (n4+1))∧(InR .i64 (v5+1))∧zn.l1 a_ X1 k_0 (n4+1) (v5+1))∧((r11)=false→(InR .i64 (v5+1))∧zn.l1 a_ X1 k_0 n4 (v5+1)))∧((decide (v5<256))=false→X1 n4)
def zn (a_:Cl) (r_:Int):Prop:=∃k6,zn.l1 a_ (zn.j1 r_) k6 0 0
def z6.j1 (r_:Bool) (w4:Int):Prop:=r_=((w4 % 2)==1)
def z6.l1 (cv_:Int) (X1:Int→Prop):Nat→Int→Int→Prop
 | 0,_,_=>False
 | k_0+1,w6,i7=>(0≤cv_)∧((decide (i7<cv_ % 64))=true→(InR .i64 (i7+1))∧z6.l1 cv_ X1 k_0 (w6 / 2) (i7+1))∧((decide (i7<cv_ % 64))=false→X1 w6)
def z6 (a_:Cl) (cv_:Int) (r_:Bool):Prop:=(0≤cv_)∧(0≤(cv_ / 64)∧(cv_ / 64)<4)∧∃k8,z6.l1 cv_ (z6.j1 r_) k8 (Cl.w a_ (cv_ / 64)) 0
def zr.j1 (r_:(List Bool)) (l2:(List Bool)):Prop:=r_=l2
def zr.l1 (a_:Cl) (X1:(List Bool)→Prop):Nat→(List Bool)→Int→Prop
 | 0,_,_=>False
 | k_0+1,l5,i7=>((decide (i7<256))=true→∃r13:Bool,z6 a_ (i7 % 256) r13∧(l5.length+[r13].length≤2147483648)∧(InR .i64 (i7+1))∧zr.l1 a_ X1 k_0 (l5++[r13]) (i7+1))∧((decide (i7<256))=false→X1 l5)
def zr (a_:Cl) (r_:(List Bool)):Prop:=∃k8,zr.l1 a_ (zr.j1 r_) k8 ([]:(List Bool)) 0
def zz.j1 (r_:Cl) (l9:(List Bool)):Prop:=∃r13:Cl,zi l9 r13∧r_=r13
def zz.l1 (r6:(List Bool)) (X1:(List Bool)→Prop):Nat→(List Bool)→Int→Prop
 | 0,_,_=>False
 | k_0+1,l15,i17=>((decide (i17<256))=true→∃e24:Bool,at? l15 i17=some e24∧∃e26:Bool,(((e24)=false)→at? r6 i17=some e26)∧∃e28:Bool,at? l15 i17=some e28∧(InR .i64 (i17+1))∧zz.l1 r6 X1 k_0 (l15.set (i17:Int).toNat (e24||e26)) (i17+1))∧((decide (i17<256))=false→X1 l15)
def zz (a_:Cl) (b_:Cl) (r_:Cl):Prop:=∃r2:(List Bool),zr a_ r2∧∃r6:(List Bool),zr b_ r6∧∃k18,zz.l1 r6 (zz.j1 r_) k18 r2 0
def zbc.j1 (r_:Cl) (l7:(List Bool)):Prop:=∃r11:Cl,zi l7 r11∧r_=r11
def zbc.l1 (X1:(List Bool)→Prop):Nat→(List Bool)→Int→Prop
 | 0,_,_=>False
 | k_0+1,l13,i15=>((decide (i15<256))=true→∃e22:Bool,at? l13 i15=some e22∧∃e24:Bool,at? l13 i15=some e24∧(InR .i64 (i15+1))∧zbc.l1 X1 k_0 (l13.set (i15:Int).toNat (!e22)) (i15+1))∧((decide (i15<256))=false→X1 l13)
def zbc (a_:Cl) (r_:Cl):Prop:=∃r2:(List Bool),zr a_ r2∧∃k16,zbc.l1 (zbc.j1 r_) k16 r2 0
set_option maxRecDepth 100000
set_option maxHeartbeats 2000000
set_option synthInstance.maxSize 100000
set_option synthInstance.maxHeartbeats 200000
theorem zdg {l_:(List Bool)} {r_:Cl} (h:zi l_ r_):Fn Tryd.prog 29 [(Pd.rep (En.slice En.bool) l_)] (Rq (Pd.rep En.cls r_)):=by
 unfold zi at h;refine zbe Tryd.func29 J Tryd.ntmps29 (by rfl) (by simp) fun s0 a L=>?_;refine rs (zw En.cls (z:=(0#256)) 2 L ze6 J J J J fun a s g1 hg_ L=>?_);refine es (rs ?_);have lt_d3:=L.blt 2 rfl;refine zw En.cls (z:=(0#256)) 3 L ze6 J J J J fun a s g2 hg_ L=>?_;have d3:=Dis.newg hg_ lt_d3;refine es (wp_seq_k fun K4 H4=>?_);refine rA 1 L fun a s L=>?_;refine wp_block ?_;have J6:∀(a5:Cl) (a:Act) (s:St),Has N0 32 s0 a s [(2,(Pd.box En.cls s0.w.heap.size g1 (0#256))),(3,(Pd.box En.cls s0.w.heap.size g2 a5))]→Dis (some g1) (some g2)→((zi.j1 r_) a5)→K4 a s.w:=by
  intro a5 a s L d7 h;unfold zi.j1 at h;show K4 a s.w;refine H4 _ _ (rs ?_);refine sA 1 L fun a s L=>?_;refine sB 2 L fun s L=>?_;refine es ?_;subst h;exact wp_ret (retb J ty27 L J)
 obtain ⟨k10,h⟩:=h;refine lpn (fun k11 a s=>∃(a8:Cl) (w9:Int),Has N0 32 s0 a s [(0,(Pd.rep (En.slice En.bool) l_)),(2,(Pd.box En.cls s0.w.heap.size g1 (0#256))),(3,(Pd.box En.cls s0.w.heap.size g2 a8)),(4,(Pi w9))]∧Dis (some g1) (some g2)∧zi.l1 l_ (zi.j1 r_) k11 a8 w9) k10 ⟨(0#256),0,L.kk,(Dis.symm d3),h⟩ ?_;rintro k11 a s ⟨a8,w9,L,d13,h⟩ KL12 hKL12;unfold zi.l1 at h;refine wp_seq_k fun K14 H14=>rA 2 L fun a s L=>?_;refine cn L h (fun h=>?_) fun h=>?_
 ·refine wp_skip (H14 _ _ ?_);refine wp_seq_k fun K15 H15=>wp_block (rA 1 L fun a s L=>?_);refine rA 1 L fun a s L=>?_;refine wp_block ?_;have J17:∀(a16:Cl) (a:Act) (s:St),Has N0 32 s0 a s [(0,(Pd.rep (En.slice En.bool) l_)),(2,(Pd.box En.cls s0.w.heap.size g1 (0#256))),(3,(Pd.box En.cls s0.w.heap.size g2 a16)),(4,(Pi w9))]→Dis (some g1) (some g2)→((zi.j2 (zi.l1 l_ (zi.j1 r_) k11) w9) a16)→K15 a s.w:=by
   intro a16 a s L d18 h;unfold zi.j2 at h;show K15 a s.w;refine H15 _ _ ?_;obtain ⟨h19,h⟩:=h;refine rg (sA 3 L fun a s L=>?_);refine en' ?_;exact hKL12 a s ⟨a16,(w9+1),L.kk,d18,h⟩
  obtain ⟨k23,h⟩:=h;refine lpn (fun k24 a s=>∃(a20:Cl) (bit21:Int) (i22:Int),Has N0 32 s0 a s [(0,(Pd.rep (En.slice En.bool) l_)),(2,(Pd.box En.cls s0.w.heap.size g1 (0#256))),(3,(Pd.box En.cls s0.w.heap.size g2 a20)),(4,(Pi w9)),(5,(Pd.rep (En.int .u64) bit21)),(6,(Pi i22))]∧Dis (some g1) (some g2)∧zi.l2 l_ w9 (zi.j2 (zi.l1 l_ (zi.j1 r_) k11) w9) k24 a20 bit21 i22) k23 ⟨a8,1,0,L.kk,d13,h⟩ ?_;rintro k24 a s ⟨a20,bit21,i22,L,d26,h⟩ KL25 hKL25;unfold zi.l2 at h;refine wp_seq_k fun K27 H27=>rA 2 L fun a s L=>?_;refine cn L h (fun h=>?_) fun h=>?_
  ·refine wp_skip (H27 _ _ ?_);refine wp_seq_k fun K28 H28=>wp_block (wp_seq_k fun K29 H29=>?_);obtain ⟨h30,h31,e32,h33,h⟩:=h;refine ra 7 (p1 h33) L fun a s L=>?_;refine cn L h (fun h=>?_) fun h=>?_
   ·obtain ⟨h34,h35,h⟩:=h;refine rg (sA 7 L fun a s L=>?_);refine zbt 3 L J op op (sub_cls h35) Tq.h J J J ka fun s L=>?_;refine en' (H29 _ _ ?_);refine rg (sA 3 L fun a s L=>?_);refine en' (H28 _ _ ?_);obtain ⟨h36,h⟩:=h;refine rg (sA 3 L fun a s L=>?_);refine en' ?_;exact hKL25 a s ⟨(Cl.setw a20 w9 (IntKind.wrap .u64 ((Cl.w a20 w9)+bit21))),(IntKind.wrap .u64 (bit21*2)),(i22+1),L.kk,d26,h⟩
   ·refine wp_skip (H29 _ _ ?_);refine rg (sA 3 L fun a s L=>?_);refine en' (H28 _ _ ?_);obtain ⟨h37,h⟩:=h;refine rg (sA 3 L fun a s L=>?_);refine en' ?_;exact hKL25 a s ⟨a20,(IntKind.wrap .u64 (bit21*2)),(i22+1),L.kk,d26,h⟩
  ·refine wp_exit ?_;exact J17 a20 a s (L.kk) d26 h
 ·refine wp_exit ?_;exact J6 a8 a s (L.kk) d13 h
theorem zb2 {from_:Int} {to_:Int} {r_:Cl} (h:zp from_ to_ r_):Fn Tryd.prog 17 [(Pd.rep (En.int .u8) from_),(Pd.rep (En.int .u8) to_)] (Rq (Pd.rep En.cls r_)):=by
 unfold zp at h;refine zbe Tryd.func17 J Tryd.ntmps17 (by rfl) (by simp) fun s0 a L=>?_;refine rs (zw En.cls (z:=(0#256)) 4 L ze6 J J J J fun a s g1 hg_ L=>?_);refine es (rs ?_);have lt_d3:=L.blt 4 rfl;refine st_make En.bool (z:=false) (m:=256) 7 L op op (by decide) Ud.h Tq.h tyz4 J J J J fun a s g2 hg_ L=>?_;have d3:=Dis.newg hg_ lt_d3;refine sA 1 L fun a s L=>?_;refine es (wp_seq_k fun K4 H4=>?_);refine rA 3 L fun a s L=>?_;refine wp_block ?_;have J7:∀(l5:(List Bool)) (og6:Option Nat) (a:Act) (s:St),Has N0 21 s0 a s [(4,(Pd.box En.cls s0.w.heap.size g1 (0#256))),(5,(Pd.row En.bool s0.w.heap.size 4 og6 l5))]→Dis (some g1) og6→((zp.j1 r_) l5)→K4 a s.w:=by
  intro l5 og6 a s L d8 h;unfold zp.j1 at h;show K4 a s.w;refine H4 _ _ (fzc 5 L fun s L=>?_);obtain ⟨r9,h10,h⟩:=h;refine rs (sl 2 (p1 (zdg h10)) L fun a s L=>?_);refine sB 4 L fun s L=>?_;refine es ?_;subst h;exact wp_ret (retb J ty27 L J)
 obtain ⟨k14,h⟩:=h;refine lpn (fun k15 a s=>∃(l11:(List Bool)) (i13:Int) (og12:Option Nat),Has N0 21 s0 a s [(1,(Pd.rep (En.int .u8) to_)),(4,(Pd.box En.cls s0.w.heap.size g1 (0#256))),(5,(Pd.row En.bool s0.w.heap.size 4 og12 l11)),(6,(Pi i13))]∧Dis (some g1) og12∧zp.l1 to_ (zp.j1 r_) k15 l11 i13) k14 ⟨(List.replicate 256 false),from_,(some g2),L.kk,(Dis.symm d3),h⟩ ?_;rintro k15 a s ⟨l11,i13,og12,L,d17,h⟩ KL16 hKL16;unfold zp.l1 at h;refine wp_seq_k fun K18 H18=>rA 4 L fun a s L=>?_;refine cn L h (fun h=>?_) fun h=>?_
 ·refine wp_skip (H18 _ _ ?_);refine wp_seq_k fun K19 H19=>wp_block ?_;obtain ⟨e20,h21,h⟩:=h;refine rg (sl 3 (p1 h21) L fun a s L=>?_);refine st_stor (off:=0) 5 L J h21 op o_b (zq _ _ _) Tq.h J J J kw fun s L=>?_;refine en' (H19 _ _ ?_);obtain ⟨h22,h⟩:=h;refine rg (sA 3 L fun a s L=>?_);refine en' ?_;exact hKL16 a s ⟨(l11.set (i13:Int).toNat true),(i13+1),og12,L.kk,d17,h⟩
 ·refine wp_exit ?_;exact J7 l11 og12 a s (L.kk) d17 h
theorem zc8 {a_:Cl} {cv_:Int} {r_:Bool} (h:zcd a_ cv_ r_):Fn Tryd.prog 24 [(Pd.rep En.cls a_),(Pd.rep (En.int .u8) cv_)] (Rq (Pd.rep En.bool r_)):=by
 unfold zcd at h;refine zbe Tryd.func24 J Tryd.ntmps24 (by rfl) (by simp) fun s0 a L=>?_;refine rA 2 L fun a s L=>?_;obtain ⟨h1,b2,h3,h⟩:=h;refine ra 10 (p1 h3) L fun a s L=>?_;subst h;exact wp_ret (zeh J L J)
theorem ze9 {a_:Cl} {r_:Int} (h:zn a_ r_):Fn Tryd.prog 23 [(Pd.rep En.cls a_)] (Rq (Pi r_)):=by
 unfold zn at h;refine zbe Tryd.func23 J Tryd.ntmps23 (by rfl) (by simp) fun s0 a L=>?_;refine rA 2 L fun a s L=>?_;refine rA 1 L fun a s L=>?_;refine wp_seq_k fun K1 H1=>rA 1 L fun a s L=>?_;refine wp_block ?_;have J3:∀(n2:Int) (a:Act) (s:St),Has N0 16 s0 a s [(3,(Pi n2))]→((zn.j1 r_) n2)→K1 a s.w:=by
  intro n2 a s L h;unfold zn.j1 at h;show K1 a s.w;refine H1 _ _ (rA 2 L fun a s L=>?_);subst h;exact wp_ret (zeh J L J)
 obtain ⟨k6,h⟩:=h;refine lpn (fun k7 a s=>∃(n4:Int) (v5:Int),Has N0 16 s0 a s [(1,(Pd.ptr En.cls a_)),(3,(Pi n4)),(5,(Pi v5))]∧zn.l1 a_ (zn.j1 r_) k7 n4 v5) k6 ⟨0,0,L.kk,h⟩ ?_;rintro k7 a s ⟨n4,v5,L,h⟩ KL8 hKL8;unfold zn.l1 at h;refine rA 1 L fun a s L=>?_;refine wp_seq_k fun K9 H9=>cn L h (fun h=>?_) fun h=>?_
 ·refine wp_skip (H9 _ _ ?_);refine wp_seq_k fun K10 H10=>wp_block (rA 2 L fun a s L=>?_);obtain ⟨r11,h12,h⟩:=h;refine ra 4 (p1 (zc8 h12)) L fun a s L=>?_;refine cn L h (fun h=>?_) fun h=>?_
  ·obtain ⟨h13,h⟩:=h;refine rg (sA 3 L fun a s L=>?_);refine en' (H10 _ _ ?_);obtain ⟨h14,h⟩:=h;refine rg (sA 2 L fun a s L=>?_);refine en' ?_;exact hKL8 a s ⟨(n4+1),(v5+1),L.kk,h⟩
  ·refine wp_skip (H10 _ _ ?_);obtain ⟨h15,h⟩:=h;refine rg (sA 2 L fun a s L=>?_);refine en' ?_;exact hKL8 a s ⟨n4,(v5+1),L.kk,h⟩
 ·refine wp_exit ?_;exact J3 n4 a s (L.kk) h
theorem zd9 {a_:Cl} {cv_:Int} {r_:Bool} (h:z6 a_ cv_ r_):Fn Tryd.prog 16 [(Pd.rep En.cls a_),(Pd.rep (En.int .u8) cv_)] (Rq (Pd.rep En.bool r_)):=by
 unfold z6 at h;refine zbe Tryd.func16 J Tryd.ntmps16 (by rfl) (by simp) fun s0 a L=>?_;refine rA 2 L fun a s L=>?_;obtain ⟨h1,h2,h⟩:=h;refine rA 6 L fun a s L=>?_;refine wp_seq_k fun K3 H3=>rA 1 L fun a s L=>?_;refine wp_block ?_;have J5:∀(w4:Int) (a:Act) (s:St),Has N0 24 s0 a s [(5,(Pd.rep (En.int .u64) w4))]→((z6.j1 r_) w4)→K3 a s.w:=by
  intro w4 a s L h;unfold z6.j1 at h;show K3 a s.w;refine H3 _ _ (rA 4 L fun a s L=>?_);subst h;exact wp_ret (zeh J L J)
 obtain ⟨k8,h⟩:=h;refine lpn (fun k9 a s=>∃(w6:Int) (i7:Int),Has N0 24 s0 a s [(1,(Pd.rep (En.int .u8) cv_)),(5,(Pd.rep (En.int .u64) w6)),(6,(Pi i7))]∧z6.l1 cv_ (z6.j1 r_) k9 w6 i7) k8 ⟨(Cl.w a_ (cv_ / 64)),0,L.kk,h⟩ ?_;rintro k9 a s ⟨w6,i7,L,h⟩ KL10 hKL10;unfold z6.l1 at h;refine wp_seq_k fun K11 H11=>?_;obtain ⟨h12,h⟩:=h;refine rA 5 L fun a s L=>?_;refine cn L h (fun h=>?_) fun h=>?_
 ·refine wp_skip (H11 _ _ ?_);refine wp_seq_k fun K13 H13=>wp_block (rg ?_);refine sA 3 L fun a s L=>?_;refine en' (H13 _ _ ?_);obtain ⟨h14,h⟩:=h;refine rg (sA 3 L fun a s L=>?_);refine en' ?_;exact hKL10 a s ⟨(w6 / 2),(i7+1),L.kk,h⟩
 ·refine wp_exit ?_;exact J5 w6 a s (L.kk) h
theorem zct {a_:Cl} {r_:(List Bool)} (h:zr a_ r_):Fn Tryd.prog 66 [(Pd.rep En.cls a_)] (Ro En.bool 4 r_):=by
 unfold zr at h;refine zbe Tryd.func66 J Tryd.ntmps66 (by rfl) (by simp) fun s0 a L=>?_;refine rs (sA 1 L fun a s L=>?_);refine sno En.bool 4 L fun a s L=>?_;refine es (rs ?_);refine sno En.bool 4 L fun a s L=>?_;refine es (wp_seq_k fun K1 H1=>?_);refine rA 1 L fun a s L=>?_;refine wp_block ?_;have J4:∀(l2:(List Bool)) (og3:Option Nat) (a:Act) (s:St),Has N0 17 s0 a s [(3,(Pd.row En.bool s0.w.heap.size 4 og3 l2))]→((zr.j1 r_) l2)→K1 a s.w:=by
  intro l2 og3 a s L h;unfold zr.j1 at h;show K1 a s.w;refine H1 _ _ (rA 2 L fun a s L=>?_);subst h;exact wp_ret (reto J L J)
 obtain ⟨k8,h⟩:=h;refine lpn (fun k9 a s=>∃(l5:(List Bool)) (i7:Int) (og6:Option Nat),Has N0 17 s0 a s [(1,(Pd.ptr En.cls a_)),(3,(Pd.row En.bool s0.w.heap.size 4 og6 l5)),(4,(Pi i7))]∧zr.l1 a_ (zr.j1 r_) k9 l5 i7) k8 ⟨([]:(List Bool)),0,none,L.kk,h⟩ ?_;rintro k9 a s ⟨l5,i7,og6,L,h⟩ KL10 hKL10;unfold zr.l1 at h;refine wp_seq_k fun K11 H11=>rA 2 L fun a s L=>?_;refine cn L h (fun h=>?_) fun h=>?_
 ·refine wp_skip (H11 _ _ ?_);refine wp_seq_k fun K12 H12=>wp_block ?_;obtain ⟨r13,h14,h15,h⟩:=h;refine rg (sl 6 (p1 (zd9 h14)) L fun a s L=>?_);refine zd7 15 L op op Ud.h Tq.h h15 J J J J ka fun a s og16 hg_ L=>?_;refine sA 1 L fun a s L=>?_;refine en' (H12 _ _ ?_);obtain ⟨h17,h⟩:=h;refine rg (sA 3 L fun a s L=>?_);refine en' ?_;exact hKL10 a s ⟨(l5++[r13]),(i7+1),og16,L.kk,h⟩
 ·refine wp_exit ?_;exact J4 l5 og6 a s (L.kk) h
theorem zfq {a_:Cl} {b_:Cl} {r_:Cl} (h:zz a_ b_ r_):Fn Tryd.prog 59 [(Pd.rep En.cls a_),(Pd.rep En.cls b_)] (Rq (Pd.rep En.cls r_)):=by
 unfold zz at h;refine zbe Tryd.func59 J Tryd.ntmps59 (by rfl) (by simp) fun s0 a L=>?_;refine rs (sA 2 L fun a s L=>?_);refine zw En.cls (z:=(0#256)) 4 L ze6 J J J J fun a s g1 hg_ L=>?_;refine es ?_;obtain ⟨r2,h3,h⟩:=h;refine rs (sA 1 L fun a s L=>?_);have lt_d5:=L.blt 4 rfl;refine st_callo 9 L (zct h3) opz J J J J fun a s og4 hg_ L=>?_;have d5:=Dis.new hg_ lt_d5;refine sA 1 L fun a s L=>?_;refine es ?_;obtain ⟨r6,h7,h⟩:=h;refine ra 3 (p1 ((zct h7).frz)) L fun a s L=>?_;refine wp_seq_k fun K8 H8=>rA 1 L fun a s L=>?_;refine wp_block ?_;have J11:∀(l9:(List Bool)) (og10:Option Nat) (a:Act) (s:St),Has N0 31 s0 a s [(4,(Pd.box En.cls s0.w.heap.size g1 (0#256))),(5,(Pd.row En.bool s0.w.heap.size 4 og10 l9))]→Dis (some g1) og10→((zz.j1 r_) l9)→K8 a s.w:=by
  intro l9 og10 a s L d12 h;unfold zz.j1 at h;show K8 a s.w;refine H8 _ _ (fzc 5 L fun s L=>?_);obtain ⟨r13,h14,h⟩:=h;refine rs (sl 2 (p1 (zdg h14)) L fun a s L=>?_);refine sB 4 L fun s L=>?_;refine es ?_;subst h;exact wp_ret (retb J ty27 L J)
 obtain ⟨k18,h⟩:=h;refine lpn (fun k19 a s=>∃(l15:(List Bool)) (i17:Int) (og16:Option Nat),Has N0 31 s0 a s [(4,(Pd.box En.cls s0.w.heap.size g1 (0#256))),(5,(Pd.row En.bool s0.w.heap.size 4 og16 l15)),(6,(Pd.rep (En.slice En.bool) r6)),(7,(Pi i17))]∧Dis (some g1) og16∧zz.l1 r6 (zz.j1 r_) k19 l15 i17) k18 ⟨r2,0,og4,L.kk,(Dis.symm d5),h⟩ ?_;rintro k19 a s ⟨l15,i17,og16,L,d21,h⟩ KL20 hKL20;unfold zz.l1 at h;refine wp_seq_k fun K22 H22=>rA 2 L fun a s L=>?_;refine cn L h (fun h=>?_) fun h=>?_
 ·refine wp_skip (H22 _ _ ?_);refine wp_seq_k fun K23 H23=>wp_block ?_;obtain ⟨e24,h25,e26,h27,e28,h29,h⟩:=h;refine rg (sl 13 (pp h25 (pp h27 (p1 h29))) L fun a s L=>?_);refine st_stor (off:=0) 5 L J h29 op op (zq _ _ _) Tq.h J J J kw fun s L=>?_;refine en' (H23 _ _ ?_);obtain ⟨h30,h⟩:=h;refine rg (sA 3 L fun a s L=>?_);refine en' ?_;exact hKL20 a s ⟨(l15.set (i17:Int).toNat (e24||e26)),(i17+1),og16,L.kk,d21,h⟩
 ·refine wp_exit ?_;exact J11 l15 og16 a s (L.kk) d21 h
theorem ref01_Not_ok {a_:Cl} {r_:Cl} (h:zbc a_ r_):Fn Tryd.prog 60 [(Pd.rep En.cls a_)] (Rq (Pd.rep En.cls r_)):=by
 unfold zbc at h;refine zbe Tryd.func60 J Tryd.ntmps60 (by rfl) (by simp) fun s0 a L=>?_;refine rs (sA 1 L fun a s L=>?_);refine zw En.cls (z:=(0#256)) 2 L ze6 J J J J fun a s g1 hg_ L=>?_;refine es ?_;obtain ⟨r2,h3,h⟩:=h;refine rs (sA 1 L fun a s L=>?_);have lt_d5:=L.blt 2 rfl;refine st_callo 6 L (zct h3) opz J J J J fun a s og4 hg_ L=>?_;have d5:=Dis.new hg_ lt_d5;refine sA 1 L fun a s L=>?_;refine es (wp_seq_k fun K6 H6=>?_);refine rA 1 L fun a s L=>?_;refine wp_block ?_;have J9:∀(l7:(List Bool)) (og8:Option Nat) (a:Act) (s:St),Has N0 21 s0 a s [(2,(Pd.box En.cls s0.w.heap.size g1 (0#256))),(3,(Pd.row En.bool s0.w.heap.size 4 og8 l7))]→Dis (some g1) og8→((zbc.j1 r_) l7)→K6 a s.w:=by
  intro l7 og8 a s L d10 h;unfold zbc.j1 at h;show K6 a s.w;refine H6 _ _ (fzc 3 L fun s L=>?_);obtain ⟨r11,h12,h⟩:=h;refine rs (sl 2 (p1 (zdg h12)) L fun a s L=>?_);refine sB 2 L fun s L=>?_;refine es ?_;subst h;exact wp_ret (retb J ty27 L J)
 obtain ⟨k16,h⟩:=h;refine lpn (fun k17 a s=>∃(l13:(List Bool)) (i15:Int) (og14:Option Nat),Has N0 21 s0 a s [(2,(Pd.box En.cls s0.w.heap.size g1 (0#256))),(3,(Pd.row En.bool s0.w.heap.size 4 og14 l13)),(4,(Pi i15))]∧Dis (some g1) og14∧zbc.l1 (zbc.j1 r_) k17 l13 i15) k16 ⟨r2,0,og4,L.kk,(Dis.symm d5),h⟩ ?_;rintro k17 a s ⟨l13,i15,og14,L,d19,h⟩ KL18 hKL18;unfold zbc.l1 at h;refine wp_seq_k fun K20 H20=>rA 2 L fun a s L=>?_;refine cn L h (fun h=>?_) fun h=>?_
 ·refine wp_skip (H20 _ _ ?_);refine wp_seq_k fun K21 H21=>wp_block ?_;obtain ⟨e22,h23,e24,h25,h⟩:=h;refine rg (sl 8 (pp h23 (p1 h25)) L fun a s L=>?_);refine st_stor (off:=0) 3 L J h25 op op (zq _ _ _) Tq.h J J J kw fun s L=>?_;refine en' (H21 _ _ ?_);obtain ⟨h26,h⟩:=h;refine rg (sA 3 L fun a s L=>?_);refine en' ?_;exact hKL18 a s ⟨(l13.set (i15:Int).toNat (!e22)),(i15+1),og14,L.kk,d19,h⟩
 ·refine wp_exit ?_;exact J9 l13 og14 a s (L.kk) d19 h
def zb6 (s_:Str) (i_:Int) (from_:Int) (to_:Int) (r_:Bool):Prop:=∃c1:Int,(((decide (i_<(s_.length:Int)))=true)→zbk s_ i_=some c1)∧∃b3:Bool,b3=((decide (i_<(s_.length:Int)))&&(decide (from_≤c1)))∧∃c5:Int,(((b3)=true)→zbk s_ i_=some c5)∧r_=(b3&&(decide (c5≤to_)))
def zm.j1 (r_:Bool):Prop:=r_=true
def zm.l1 (s_:Str) (r_:Bool) (X1:Prop):Nat→Int→Prop
 | 0,_=>False
 | k_0+1,i3=>((decide (i3<(s_.length:Int)))=true→∃c8:Int,zbk s_ i3=some c8∧(InR .i64 (i3+1))∧∃r11:Bool,zb6 s_ (i3+1) 128 191 r11∧(InR .i64 (i3+2))∧∃r14:Bool,zb6 s_ (i3+2) 128 191 r14∧(InR .i64 (i3+3))∧∃r17:Bool,zb6 s_ (i3+3) 128 191 r17∧((decide (c8<128))=true→(InR .i64 (i3+1))∧zm.l1 s_ r_ X1 k_0 (i3+1))∧((decide (c8<128))=false→∃b20:Bool,b20=(((decide (194≤c8))&&(decide (c8≤223)))&&r11)∧((b20)=true→(InR .i64 (i3+2))∧zm.l1 s_ r_ X1 k_0 (i3+2))∧((b20)=false→((((c8==224))=true)→InR .i64 (i3+1))∧∃r24:Bool,((((c8==224))=true)→zb6 s_ (i3+1) 160 191 r24)∧(((((c8==224)&&r24)&&r14))=true→(InR .i64 (i3+3))∧zm.l1 s_ r_ X1 k_0 (i3+3))∧(((((c8==224)&&r24)&&r14))=false→∃b27:Bool,b27=(((decide (225≤c8))&&(decide (c8≤236)))||(c8==238))∧(((((b27||(c8==239))&&r11)&&r14))=true→(InR .i64 (i3+3))∧zm.l1 s_ r_ X1 k_0 (i3+3))∧(((((b27||(c8==239))&&r11)&&r14))=false→((((c8==237))=true)→InR .i64 (i3+1))∧∃r31:Bool,((((c8==237))=true)→zb6 s_ (i3+1) 128 159 r31)∧(((((c8==237)&&r31)&&r14))=true→(InR .i64 (i3+3))∧zm.l1 s_ r_ X1 k_0 (i3+3))∧(((((c8==237)&&r31)&&r14))=false→((((c8==240))=true)→InR .i64 (i3+1))∧∃r35:Bool,((((c8==240))=true)→zb6 s_ (i3+1) 144 191 r35)∧((((((c8==240)&&r35)&&r14)&&r17))=true→(InR .i64 (i3+4))∧zm.l1 s_ r_ X1 k_0 (i3+4))∧((((((c8==240)&&r35)&&r14)&&r17))=false→∃b38:Bool,b38=(((decide (241≤c8))&&(decide (c8≤243)))&&r11)∧((((b38&&r14)&&r17))=true→(InR .i64 (i3+4))∧zm.l1 s_ r_ X1 k_0 (i3+4))∧((((b38&&r14)&&r17))=false→((((c8==244))=true)→InR .i64 (i3+1))∧∃r42:Bool,((((c8==244))=true)→zb6 s_ (i3+1) 128 143 r42)∧((((((c8==244)&&r42)&&r14)&&r17))=true→(InR .i64 (i3+4))∧zm.l1 s_ r_ X1 k_0 (i3+4))∧((((((c8==244)&&r42)&&r14)&&r17))=false→r_=false)))))))))∧((decide (i3<(s_.length:Int)))=false→X1)
def zm (s_:Str) (r_:Bool):Prop:=∃k4,zm.l1 s_ r_ (zm.j1 r_) k4 0
def zj.j1 (r_:Int):Prop:=r_=0
def zj.l1 (cv_:Int) (r_:Int) (X1:Prop):Nat→Int→Prop
 | 0,_=>False
 | k_0+1,i3=>∃b8:Bool,b8=(decide (i3<(([40,41,124,42,98,119]:Str).length:Int)))∧((b8)=true→∃c11:Int,zbk ([40,41,124,42,98,119]:Str) i3=some c11∧(((c11==cv_))=true→∃e13:Int,at? [3,4,5,6,8,9] i3=some e13∧r_=e13)∧(((c11==cv_))=false→(InR .i64 (i3+1))∧zj.l1 cv_ r_ X1 k_0 (i3+1)))∧((b8)=false→X1)
def zj (cv_:Int) (r_:Int):Prop:=∃k4,zj.l1 cv_ r_ (zj.j1 r_) k4 0
def zy.j1 (r_:Int):Prop:=r_=(-1)
def zy.l1 (s_:Str) (cv_:Int) (r_:Int) (X1:Prop):Nat→Int→Prop
 | 0,_=>False
 | k_0+1,k4=>((decide (k4<(s_.length:Int)))=true→∃c10:Int,zbk s_ k4=some c10∧(((c10==cv_))=true→r_=k4)∧(((c10==cv_))=false→(InR .i64 (k4+1))∧zy.l1 s_ cv_ r_ X1 k_0 (k4+1)))∧((decide (k4<(s_.length:Int)))=false→X1)
def zy (s_:Str) (i_:Int) (cv_:Int) (r_:Int):Prop:=(InR .i64 (i_+1))∧∃k5,zy.l1 s_ cv_ r_ (zy.j1 r_) k5 (i_+1)
def zbr (cv_:Int) (r_:Int):Prop:=((((decide (48≤cv_))&&(decide (cv_≤57))))=true→(InR .i64 (cv_-48))∧r_=cv_-48)∧((((decide (48≤cv_))&&(decide (cv_≤57))))=false→((((decide (97≤cv_))&&(decide (cv_≤102))))=true→(InR .i64 (cv_-87))∧r_=cv_-87)∧((((decide (97≤cv_))&&(decide (cv_≤102))))=false→r_=(-1)))
def zcq (s_:Str) (i_:Int) (r_:Int):Prop:=(InR .i64 (i_+1))∧∃c3:Int,(((decide ((s_.length:Int)≤i_+1))=false)→zbk s_ i_=some c3)∧∃r5:Int,(((decide ((s_.length:Int)≤i_+1))=false)→zbr c3 r5)∧∃b7:Bool,b7=((decide ((s_.length:Int)≤i_+1))||(decide (r5<0)))∧(((b7)=false)→InR .i64 (i_+1))∧∃c10:Int,(((b7)=false)→zbk s_ (i_+1)=some c10)∧∃r12:Int,(((b7)=false)→zbr c10 r12)∧(((b7||(decide (r12<0))))=true→r_=(-1))∧(((b7||(decide (r12<0))))=false→∃c14:Int,zbk s_ i_=some c14∧∃r16:Int,zbr c14 r16∧(InR .i64 (16*r16))∧(InR .i64 (i_+1))∧∃c20:Int,zbk s_ (i_+1)=some c20∧∃r22:Int,zbr c20 r22∧(InR .i64 ((16*r16)+r22))∧r_=(16*r16)+r22)
def zb.j1 (r_:(Cl × Bool)) (not6:Bool) (v11:Cl) (a12:Cl):Prop:=((not6)=true→∃r16:Cl,zbc a12 r16∧r_=(r16,true))∧((not6)=false→r_=(a12,true))
def zb.j2 (L1_:Cl→Int→Cl→Prop) (s_:Str) (r_:(Cl × Bool)) (v18:Cl) (a20:Cl) (r26:Int) (i34:Int) (to35:Int):Prop:=((((decide (r26<0))||(decide (to35<r26))))=true→r_=(a20,false))∧((((decide (r26<0))||(decide (to35<r26))))=false→∃r39:Cl,zp (r26 % 256) (to35 % 256) r39∧∃r41:Cl,zz a20 r39 r41∧((decide (i34<(s_.length:Int)))=true→∃c44:Int,zbk s_ i34=some c44∧((((c44 != 44))=false)→InR .i64 (i34+1))∧((((c44 != 44)||((i34+1)==(s_.length:Int))))=true→r_=(r41,false))∧((((c44 != 44)||((i34+1)==(s_.length:Int))))=false→(InR .i64 (i34+1))∧L1_ v18 (i34+1) r41))∧((decide (i34<(s_.length:Int)))=false→L1_ v18 i34 r41))
def zb.l1 (s_:Str) (r_:(Cl × Bool)) (X1:Cl→Cl→Prop):Nat→Cl→Int→Cl→Prop
 | 0,_,_,_=>False
 | k_0+1,v18,i19,a20=>((decide (i19<(s_.length:Int)))=true→∃r26:Int,zcq s_ i19 r26∧(InR .i64 (i19+2))∧∃c30:Int,(((decide (i19+2<(s_.length:Int)))=true)→zbk s_ (i19+2)=some c30)∧∃b32:Bool,b32=((decide (i19+2<(s_.length:Int)))&&(c30==45))∧((b32)=true→(InR .i64 ((i19+2)+1))∧∃r49:Int,zcq s_ ((i19+2)+1) r49∧(InR .i64 ((i19+2)+3))∧(zb.j2 (zb.l1 s_ r_ X1 k_0) s_ r_ v18 a20 r26) ((i19+2)+3) r49)∧((b32)=false→(zb.j2 (zb.l1 s_ r_ X1 k_0) s_ r_ v18 a20 r26) (i19+2) r26))∧((decide (i19<(s_.length:Int)))=false→X1 v18 a20)
def zb.j3 (s_:Str) (r_:(Cl × Bool)) (i5:Int) (not6:Bool):Prop:=∃k21,zb.l1 s_ r_ (zb.j1 r_ not6) k21 (0#256) i5 (0#256)
def zb (s_:Str) (r_:(Cl × Bool)):Prop:=∃c3:Int,(((decide (0<(s_.length:Int)))=true)→zbk s_ 0=some c3)∧((((decide (0<(s_.length:Int)))&&(c3==94)))=true→(zb.j3 s_ r_) 1 true)∧((((decide (0<(s_.length:Int)))&&(c3==94)))=false→(zb.j3 s_ r_) 0 false)
def zo.j1 (s_:Str) (i_:Int) (r_:(Int × Int)) (n2:Int) (k3:Int):Prop:=((((k3==i_))=false)→InR .i64 (i_+1))∧∃c7:Int,(((((k3==i_))=false)∧(decide (i_+1<k3))=true)→zbk s_ i_=some c7)∧∃b9:Bool,b9=((k3==i_)||((decide (i_+1<k3))&&(c7==48)))∧((b9)=true→r_=((-1),k3))∧((b9)=false→r_=(n2,k3))
def zo.l1 (s_:Str) (X1:Int→Int→Prop):Nat→Int→Int→Prop
 | 0,_,_=>False
 | k_0+1,n11,k12=>∃c17:Int,(((decide (k12<(s_.length:Int)))=true)→zbk s_ k12=some c17)∧∃b19:Bool,b19=((decide (k12<(s_.length:Int)))&&(decide (48≤c17)))∧∃c21:Int,(((b19)=true)→zbk s_ k12=some c21)∧(((b19&&(decide (c21≤57))))=true→(InR .i64 (10*n11))∧∃c24:Int,zbk s_ k12=some c24∧(InR .i64 ((10*n11)+c24))∧(InR .i64 (((10*n11)+c24)-48))∧(InR .i64 (k12+1))∧zo.l1 s_ X1 k_0 (min 256 (((10*n11)+c24)-48)) (k12+1))∧(((b19&&(decide (c21≤57))))=false→X1 n11 k12)
def zo (s_:Str) (i_:Int) (r_:(Int × Int)):Prop:=∃k13,zo.l1 s_ (zo.j1 s_ i_ r_) k13 0 i_
def zdn (s_:Str) (i_:Int) (r_:(SToken × Int × Int)):Prop:=∃c5:Int,zbk s_ i_=some c5∧∃r7:Int,zj c5 r7∧((decide (0<r7))=true→∃c9:Int,zbk s_ i_=some c9∧∃r11:Int,zj c9 r11∧(InR .i64 (i_+1))∧r_=((r11,i_,(0#256),([]:Str),0,0),i_+1,0))∧((decide (0<r7))=false→∃c15:Int,zbk s_ i_=some c15∧(((c15==46))=true→∃r17:Cl,zp 0 255 r17∧(InR .i64 (i_+1))∧r_=((1,i_,r17,([]:Str),0,0),i_+1,0))∧(((c15==46))=false→(((c15==60))=true→∃r20:Int,zy s_ i_ 62 r20∧((decide (r20<0))=true→r_=((0,i_,(0#256),([]:Str),0,0),0,2))∧((decide (r20<0))=false→(InR .i64 (i_+1))∧((0:Int)≤(i_+1)∧(i_+1)≤r20∧r20≤(s_.length:Int))∧∃r25:(Cl × Bool),zb ((s_.take (r20:Int).toNat).drop (i_+1:Int).toNat) r25∧(((!r25.2))=true→r_=((0,i_,(0#256),([]:Str),0,0),0,2))∧(((!r25.2))=false→(InR .i64 (r20+1))∧r_=((1,i_,r25.1,([]:Str),0,0),r20+1,0))))∧(((c15==60))=false→(((c15==34))=true→∃r32:Int,zy s_ i_ 34 r32∧(((decide (r32<0))=false)→InR .i64 (i_+1))∧(((((decide (r32<0))||(r32==(i_+1))))=false)→InR .i64 (i_+1))∧(((((decide (r32<0))||(r32==(i_+1))))=false)→(0:Int)≤(i_+1)∧(i_+1)≤r32∧r32≤(s_.length:Int))∧∃r38:Bool,(((((decide (r32<0))||(r32==(i_+1))))=false)→zm ((s_.take (r32:Int).toNat).drop (i_+1:Int).toNat) r38)∧∃b40:Bool,b40=(((decide (r32<0))||(r32==(i_+1)))||(!r38))∧((b40)=true→r_=((0,i_,(0#256),([]:Str),0,0),0,3))∧((b40)=false→(InR .i64 (i_+1))∧((0:Int)≤(i_+1)∧(i_+1)≤r32∧r32≤(s_.length:Int))∧(InR .i64 (r32+1))∧r_=((2,i_,(0#256),((s_.take (r32:Int).toNat).drop (i_+1:Int).toNat),0,0),r32+1,0)))∧(((c15==34))=false→(((c15==123))=true→∃r45:Int,zy s_ i_ 125 r45∧((decide (r45<0))=true→r_=((0,i_,(0#256),([]:Str),0,0),0,4))∧((decide (r45<0))=false→((0:Int)≤r45∧r45≤(s_.length:Int))∧(InR .i64 (i_+1))∧∃r50:(Int × Int),zo (s_.take (r45:Int).toNat) (i_+1) r50∧∃c53:Int,(((((decide (r50.1<0))||(decide (r45≤r50.2))))=false)→zbk s_ r50.2=some c53)∧∃b55:Bool,b55=(((decide (r50.1<0))||(decide (r45≤r50.2)))||(c53 != 44))∧((b55)=true→r_=((0,i_,(0#256),([]:Str),0,0),0,4))∧((b55)=false→((0:Int)≤r45∧r45≤(s_.length:Int))∧(InR .i64 (r50.2+1))∧∃r59:(Int × Int),zo (s_.take (r45:Int).toNat) (r50.2+1) r59∧((((decide (r59.1<0))||(r59.2 != r45)))=true→r_=((0,i_,(0#256),([]:Str),0,0),0,4))∧((((decide (r59.1<0))||(r59.2 != r45)))=false→∃b63:Bool,b63=((decide (255<r59.1))||(decide (r59.1<r50.1)))∧((b63)=true→r_=((0,i_,(0#256),([]:Str),0,0),0,5))∧((b63)=false→(InR .i64 (r45+1))∧r_=((7,i_,(0#256),([]:Str),r50.1,r59.1),r45+1,0))))))∧(((c15==123))=false→r_=((0,i_,(0#256),([]:Str),0,0),0,1))))))
def zt.j1 (s_:Str) (r_:((List SToken) × Int × Int)) (out2:(List SToken)):Prop:=(out2.length+[(10,(s_.length:Int),(0#256),([]:Str),0,0)].length≤2147483648)∧r_=(out2++[(10,(s_.length:Int),(0#256),([]:Str),0,0)],0,0)
def zt.l1 (s_:Str) (r_:((List SToken) × Int × Int)) (X1:(List SToken)→Prop):Nat→(List SToken)→Int→Prop
 | 0,_,_=>False
 | k_0+1,out7,i9=>((decide (i9<(s_.length:Int)))=true→∃c15:Int,zbk s_ i9=some c15∧(((c15==32))=true→(InR .i64 (i9+1))∧zt.l1 s_ r_ X1 k_0 out7 (i9+1))∧(((c15==32))=false→∃r18:(SToken × Int × Int),zdn s_ i9 r18∧(((r18.2.2 != 0))=true→r_=(([]:(List SToken)),r18.2.2,i9))∧(((r18.2.2 != 0))=false→(out7.length+[r18.1].length≤2147483648)∧zt.l1 s_ r_ X1 k_0 (out7++[r18.1]) r18.2.1)))∧((decide (i9<(s_.length:Int)))=false→X1 out7)
def zt (s_:Str) (r_:((List SToken) × Int × Int)):Prop:=∃k10,zt.l1 s_ r_ (zt.j1 s_ r_) k10 ([]:(List SToken)) 0
end Go.Proofs.YtamjkbneebghmaaDoor.V
