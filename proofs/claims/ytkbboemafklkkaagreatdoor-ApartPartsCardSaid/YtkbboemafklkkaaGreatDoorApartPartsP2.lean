/-
  The texts that the law's proof needs, part 2.
-/
import Derived.BigCall
import Derived.Lib.AppendIntMem
import Derived.Lib.ItoaLen
import Derived.Lib.SlBytesConst
import Derived.Shelf.LaysM
import Derived.Shelf.SlLaysF
import Derived.Shelf.SlLaysF0
import Derived.Shelf.Strconv.Itoa3
import Derived.Shelf.Strings.BuilderK
import Derived.WalkKit
import Derived.Test.YtkbboemafklkkaaGreatDoorApartPartsP1

namespace Go.Proofs.YtkbboemafklkkaaGreatDoor.V
open Go
set_option linter.unusedVariables false
section
variable {u : Bool} [Dr u]
section
variable {P : Program} {ops : Array Oper} {o : Oper} {L : Lst}
theorem t_mkmeth {β:Type} {qs:β→List Pd} {R:β→St→St→Value→Prop} {F:β→Prop} {f:FuncId} {cs:List Operand} {qc:List Pd} (hx:Opns L cs qc) (hc:∀(args:Array Value) (w:World),(callFunc f args).run P w = .ok (.enter f args) w)
  (henc:∀q∈qc,q.Enc) (h:∀q,F q→Fn P f (qc++qs q) (R q)) (ho:o.op = .makeFunc (.func f) cs.toArray #[]) (hg:o.guard=none):T P ops o L (Pd.rep (En.fun P qs R) F):=
 T.pure hg fun M n s0 a s hL=>by
  refine ⟨.func (.func f) (cs.map a.eval).toArray #[], ?_,[.func (.func f) (cs.map a.eval).toArray #[]],rfl,.inr ⟨f,(cs.map a.eval).toArray,#[],rfl,hc,fun s1 hgl hf hs q hq vs hv=>?_⟩⟩
  ·unfold execOp;rw [ho];simp [Instr.makeFunc]
  ·have:=(h q hq).run s1 (cs.map a.eval++vs) hgl (zp2 (zp1 hf hs henc (hx.vals hL)) hv);simpa using this
end
theorem zi0 {ops:Array Oper} {o:Oper} {a:Act} {b want:Bool} {j d:Nat} (hg:o.guard=some (j,want)) (hj:(ops[j]?).bind (·.dst)=some d) (hd:a.eval (.tmp d) = .bool b):Region.wanted o (yielded ops a.tmps)=true↔b=want:=by
 simp only [Region.wanted,hg];have:yielded ops a.tmps j=match a.eval (.tmp d) with | .bool x=>some x | _=>none:=by
  unfold yielded;cases ho:ops[j]? with
  | none=>rw [ho] at hj;cases hj
  | some oj=>
   rw [ho] at hj;simp only [Option.bind_some] at hj;simp only [hj,Act.eval,Option.bind_some,Array.getD_eq_getD_getElem?];cases a.tmps[d]? with
   | none=>simp [undef]
   | some v=>cases v <;> rfl
 rw [this,hd];simp
theorem zp9 {P:Program} {ops:Array Oper} {o1 o2:Oper} {L:Lst} {Q:Exit→Act→World→Prop} {rest:List Oper} {M:Nat→Prop} {n:Nat} {s0:St} {a:Act} {s:St} {te t:TypeId} {xs:List Operand} {es:List Int} {k:Nat} {parts:Array (Nat × Operand)} {b want:Bool} {j dj:Nat} (d1 d:Nat)
  (hg1:o1.guard=some (j,want)) (hg2:o2.guard=some (j,want)) (hj:(ops[j]?).bind (·.dst)=some dj) (hl:lk L dj=some (Pd.rep En.bool b)) (hl2:Nat.beq d1 dj=false)
  (hL:Has M n s0 a s L) (hx:OpL (En.int .u8) L xs es) (ht:P.underlying t=some (.slice te)) (he:P.underlying te=some (.int .u8)) (hE:Ty P te (En.int .u8)) (hk:k=xs.length) (hp:parts=(xs.zipIdx.map fun (x,i)=>(i,x)).toArray) (hs:k*(En.int .u8).sz≤16777216)
  (ho1:o1.op = .buildSlice t k parts) (ho2:o2.op = .convert t t (.tmp d1)) (hd1:o1.dst=some d1) (hn1:Nat.blt d1 n=true) (hd2:o2.dst=some d) (hn2:Nat.blt d n=true)
  (kk:∀a' s',Has M n s0 a' s' ((d,Pd.when (b=want) (Pd.rep (En.slice (En.int .u8)) es))::(d1,Pd.any)::L)→wpList P ops Q rest a' s'.w):wpList P ops Q (o1::o2::rest) a s.w:=by
 have hb:=zcv.1 (hL.get dj hl);have hne:d1≠dj:=fun e=>by subst e;simp at hl2
 by_cases hc:b=want
 ·obtain ⟨hlen,css,hEl,hr⟩:=zqb hx ht hE hk hp hs ho1 hL;refine wpList_step fun K hK=>?_;rw [if_pos ((zi0 hg1 hj hb).2 hc)];unfold Oper.wp;rw [hr];refine hK _ _ ?_;simp only [hd1];refine wpList_step fun K2 hK2=>?_;have hb2:(a.put (some d1) (.slice (some ⟨s.w.heap.size,0,none⟩) es.length es.length)).eval (.tmp dj) = .bool b:=by rw [zgp hne];exact hb
  rw [if_pos ((zi0 hg2 hj hb2).2 hc)];have hcv:=Lib.run_convert_bytes_const (P:=P) s.w t te css.flatten.toArray es.length es.length ht he;have hr2:(execOp (a.put (some d1) (.slice (some ⟨s.w.heap.size,0,none⟩) es.length es.length)).eval o2).run P (s.w.alloc (.cells css.flatten.toArray te)) = .ok (.value (.slice (some ⟨s.w.heap.size,0,none⟩) es.length es.length)) (s.w.alloc (.cells css.flatten.toArray te (css.flatten.toArray.size,css.flatten.toArray.size+1))):=by
   unfold execOp;rw [ho2];simp only [zf6 hL.size hn1,Sem.run_bind,hcv,Result.andThen_ok,Sem.run_pure]
  unfold Oper.wp;show (match (execOp _ o2).run P (s.w.alloc (.cells css.flatten.toArray te)) with | _=>_);rw [hr2];refine hK2 _ _ ?_;simp only [hd2];have h1:Has M n s0 (a.put (some d1) (.slice (some ⟨s.w.heap.size,0,none⟩) es.length es.length)) (s.push (.cells css.flatten.toArray te (css.flatten.toArray.size,css.flatten.toArray.size+1))) ((d1,Pd.any)::L):=hL.put (Ex.push s _) hn1 trivial;refine kk _ (s.push (.cells css.flatten.toArray te (css.flatten.toArray.size,css.flatten.toArray.size+1))) (h1.put (Ex.refl _) hn2 ⟨fun _=>zbx.2 ⟨some ⟨s.w.heap.size,0,none⟩,es.length,rfl,Nat.le_refl _,(fun h=>by cases h), ?_,fun _=>⟨s.w.heap.size,0,css,rfl,⟨by simp [St.push],fun h=>by have:=s.lt _ h;omega⟩,⟨hEl.1,fun i cs x a b=>(En.int .u8).psh (hEl.2 i cs x a b)⟩,zcn (heap_alloc_new s.w _)⟩⟩,fun h=>absurd hc h⟩);rw [hlen,← hk];have:k≤k*(En.int .u8).sz:=Nat.le_mul_of_pos_right k (En.int .u8).pos;simp only [lim];omega
 ·refine wpList_step fun K hK=>?_;rw [if_neg fun h=>hc ((zi0 hg1 hj hb).1 h)];refine hK _ _ ?_;simp only [hd1];refine wpList_step fun K2 hK2=>?_;have hb2:(a.put (some d1) undef).eval (.tmp dj) = .bool b:=by rw [zgp hne];exact hb
  rw [if_neg fun h=>hc ((zi0 hg2 hj hb2).1 h)];refine hK2 _ _ ?_;simp only [hd2];have h1:Has M n s0 (a.put (some d1) undef) s ((d1,Pd.any)::L):=hL.put (Ex.refl s) hn1 trivial;exact kk _ s (h1.put (Ex.refl s) hn2 ⟨fun h=>absurd h hc,fun _=>rfl⟩)
end
end Go.Proofs.YtkbboemafklkkaaGreatDoor.V
namespace Go.Proofs.YtkbboemafklkkaaGreatDoor.V
open Go
set_option linter.unusedVariables false
section
variable {u : Bool} [Dr u]
class Ud (P:Program) (t:TypeId) (d:outParam TypeDesc):Prop where
 h:P.underlying t=some d
class Tq {α:outParam Type} (P:Program) (t:TypeId) (E:outParam (En α)):Prop where
 h:Ty P t E
class Ag {α:Type} (E:En α):Prop where
 h:E.agg=true
instance ag1 {α β:Type} {E:En α} {F:En β}:Ag (En.cat E F):=⟨rfl⟩
class Us (P:Program) (t:TypeId) (n:outParam Nat):Prop where
 h:(P.info? t).map (·.size)=some n
class Fd {α:Type} {β:outParam Type} (P:Program) (t:TypeId) (f:Nat) (E:En α) (a:α) (off:outParam Nat) (E':outParam (En β)) (y:outParam β):Prop where
 h:∃(fs:Array Field) (fd:Field),P.underlying t=some (.struct fs)∧fs[f]?=some fd∧Prt E off E' a y∧fd.offset=off∧Ty P fd.type E'
class Ev {α:Sort _} (a:α) (b:outParam α):Prop where
 h:a=b
instance evr {α:Sort _} {a:α}:Ev a a:=⟨rfl⟩
@[reducible] def lkr:Lst→Nat→Option Pd
 | [],_=>none
 | (d,q)::r,t=>match Nat.beq d t with
  | true=>some q
  | false=>lkr r t
theorem lkr_lk:∀{L:Lst} {t:Nat},lkr L t=lk L t
 | [],_=>rfl
 | (d,q)::r,t=>by
  rw [lk,lkr];cases Nat.beq d t
  ·exact lkr_lk
  ·rfl
class Lx (L:Lst) (t:Nat) (q:outParam Pd):Prop where
 h:lk L t=some q
instance lxi {L:Lst} {t:Nat} {q:Pd} [h:Ev (lkr L t) (some q)]:Lx L t q:=⟨lkr_lk ▸ h.h⟩
class Imp (c d:Prop):Prop where
 h:c→d
instance imp0 {c:Prop}:Imp c c:=⟨id⟩
instance imp2 {a b c:Prop} [h:Imp b c]:Imp (a∧b) c:=⟨fun x=>h.h x.2⟩
class Vw (c:Prop) (q:Pd) (q':outParam Pd):Prop where
 h:∀s v,c→q.p s v→q'.p s v
instance (priority:=low) vw0 {c:Prop} {q:Pd}:Vw c q q:=⟨fun _ _ _ h=>h⟩
instance vw1 {c d:Prop} {q:Pd} [i:Imp c d]:Vw c (Pd.when d q) q:=⟨fun _ _ hc h=>h.1 (i.h hc)⟩
class Ki (k:IntKind) (x:Int):Prop where
 h:InR k x
@[reducible] def inb:IntKind→Int→Bool
 | .i64,.ofNat n=>Nat.ble n 9223372036854775807
 | .u8,.ofNat n=>Nat.ble n 255
 | .u64,.ofNat n=>Nat.ble n 18446744073709551615
 | _,_=>false
instance kix {k:IntKind} {x:Int} [h:Ev (inb k x) true]:Ki k x:=⟨by
 have e:=h.h
 unfold inb at e
 split at e
 all_goals first | (have:=Nat.le_of_ble_eq_true e;simp [InR,IntKind.min,IntKind.max,IntKind.signed,IntKind.bits];omega) | cases e⟩
instance kin {x:Int} [h:Ev (inb .i64 x) true]:Ki .i64 (-x):=⟨by
 have e:=h.h
 unfold inb at e
 split at e
 all_goals first | (have:=Nat.le_of_ble_eq_true e;simp [InR,IntKind.min,IntKind.max,IntKind.signed,IntKind.bits];omega) | cases e | contradiction⟩
class Oc (c:Prop) (L:Lst) (x:Operand) (q:outParam Pd):Prop where
 h:c→Opn L x q
instance oct {c:Prop} {L:Lst} {t:Nat} {q q':Pd} [h:Lx L t q] [v:Vw c q q']:Oc c L (.tmp t) q':=⟨fun hc M n s0 a s hL=>v.h s _ hc (hL.get t h.h)⟩
instance oci {c:Prop} {L:Lst} {k:IntKind} {x:Int} [h:Ki k x]:Oc c L (.const (.int k x)) (Pd.rep (En.int k) x):=⟨fun _=>o_i h.h⟩
instance ocb {c:Prop} {L:Lst} {x:Bool}:Oc c L (.const (.bool x)) (Pd.rep En.bool x):=⟨fun _=>o_b⟩
class Or {α:outParam Type} (c:Prop) (L:Lst) (x:Operand) (E:outParam (En α)) (N:outParam Nat) (te:outParam TypeId) (og:outParam (Option Nat)) (xs:outParam (List α)):Prop where
 h:c→Opn L x (Pd.row E N te og xs)
instance or0 {α:Type} {E:En α} {N te:Nat} {og:Option Nat} {xs:List α} {c:Prop} {L:Lst} {x:Operand} [h:Oc c L x (Pd.row E N te og xs)]:Or c L x E N te og xs:=⟨h.h⟩
instance or1 {α:Type} {E:En α} {te:Nat} {v0:Value} {xs:List α} {c:Prop} {L:Lst} {x:Operand} [h:Oc c L x (Pd.prow E te v0 xs)]:Or c L x E 0 te v0.ownBlock xs:=⟨fun hc=>o_p (h.h hc)⟩
theorem op {L:Lst} {x:Operand} {q:Pd} [h:Oc True L x q]:Opn L x q:=h.h trivial
theorem opc {c:Prop} (hc:c) {L:Lst} {x:Operand} {q:Pd} [h:Oc c L x q]:Opn L x q:=h.h hc
class Oz (c:Prop) (L:Lst) (xs:List Operand) (qs:List Pd):Prop where
 h:c→Opns L xs qs
instance oz0 {c:Prop} {L:Lst}:Oz c L [] []:=⟨fun _=>.nil⟩
instance oz1 {c:Prop} {L:Lst} {x:Operand} {xs:List Operand} {q:Pd} {qs:List Pd} [h:Oc c L x q] [k:Oz c L xs qs]:Oz c L (x::xs) (q::qs):=⟨fun hc=>.cons (h.h hc) (k.h hc)⟩
instance oz2 {α:Type} {E:En α} {c:Prop} {L:Lst} {xs:List Operand} {qs:List Pd} [k:Oz c L xs qs]:Oz c L (.const (.slice none 0 0)::xs) (Pd.rep (En.slice E) []::qs):=⟨fun hc=>.cons zns (k.h hc)⟩
instance oz3 {α:Type} {E:En α} {c:Prop} {L:Lst} {xs:List Operand} {qs:List Pd} [k:Oz c L xs qs]:Oz c L (.const (.slice none 0 0)::xs) (Pd.rep (En.nilv E) []::qs):=⟨fun hc=>.cons o_nilv (k.h hc)⟩
class Ol {α:Type} (E:En α) (c:Prop) (L:Lst) (xs:List Operand) (es:outParam (List α)):Prop where
 h:c→OpL E L xs es
instance ol0 {α:Type} {E:En α} {c:Prop} {L:Lst}:Ol E c L [] []:=⟨fun _=>.nil⟩
instance ol1 {α:Type} {E:En α} {c:Prop} {L:Lst} {x:Operand} {xs:List Operand} {e:α} {es:List α} [h:Oc c L x (Pd.rep E e)] [k:Ol E c L xs es]:Ol E c L (x::xs) (e::es):=⟨fun hc=>.cons (h.h hc) (k.h hc)⟩
theorem opz {L:Lst} {xs:List Operand} {qs:List Pd} [h:Oz True L xs qs]:Opns L xs qs:=h.h trivial
class Lp (parts:Array (Nat × Operand)) (xs:outParam (List Operand)) (n:Nat):Prop where
 h:parts=(xs.zipIdx.map fun (x,i)=>(i,x)).toArray∧n=xs.length
inductive Lq:Nat→List (Nat × Operand)→List Operand→Prop
 | nil {i:Nat}:Lq i [] []
 | cons {i:Nat} {x:Operand} {l:List (Nat × Operand)} {xs:List Operand} (h:Lq (i+1) l xs):Lq i ((i,x)::l) (x::xs)
theorem Lq.e {i:Nat} {l:List (Nat × Operand)} {xs:List Operand} (h:Lq i l xs):l=(xs.zipIdx i).map (fun (x,i)=>(i,x)):=by
 induction h with
 | nil=>rfl
 | cons _ ih=>rw [ih];rfl
class Lr (i:Nat) (l:List (Nat × Operand)) (xs:outParam (List Operand)) (n:outParam Nat):Prop where
 h:Lq i l xs∧n=xs.length
instance lr0 {i:Nat}:Lr i [] [] 0:=⟨.nil,rfl⟩
instance lr1 {i j n:Nat} {x:Operand} {l:List (Nat × Operand)} {xs:List Operand} [e:Ev (Nat.beq i j) true] [h:Lr (i+1) l xs n]:Lr i ((j,x)::l) (x::xs) (n+1):=⟨by rw [← Nat.eq_of_beq_eq_true e.h];exact .cons h.h.1,by rw [h.h.2];rfl⟩
instance lp0 {l:List (Nat × Operand)} {xs:List Operand} {n m:Nat} [h:Lr 0 l xs m] [e:Ev (Nat.beq n m) true]:Lp l.toArray xs n:=⟨by rw [h.h.1.e],by rw [Nat.eq_of_beq_eq_true e.h,h.h.2]⟩
theorem lp_lit {P:Program} {ops:Array Oper} {L:Lst} {α:Type} {E:En α} {t te:TypeId} {xs:List Operand} {es:List α} {n:Nat} {parts:Array (Nat × Operand)} {d:Option Nat} {ty:TypeId} {ps:String} {af:Array Edge} (hx:OpL E L xs es) (ht:P.underlying t=some (.slice te)) (hE:Ty P te E) (h:Lp parts xs n) (hn:n*E.sz≤16777216):T P ops ⟨d,.buildSlice t n parts,ty,ps,af,none⟩ L (Pd.rep (En.slice E) es):=t_lit hx ht hE h.h.2 h.h.1 hn rfl rfl
class Cj (a b:Prop) (c:outParam Prop):Prop where
 h:c→a∧b
instance (priority:=high) cj0 {a:Prop}:Cj True a a:=⟨fun h=>⟨trivial,h⟩⟩
instance (priority:=900) cj1 {a:Prop}:Cj a True a:=⟨fun h=>⟨h,trivial⟩⟩
instance (priority:=low) cj2 {a b:Prop}:Cj a b (a∧b):=⟨id⟩
class Gi (c r:Prop) (r':outParam Prop):Prop where
 h:r'→c→r
instance (priority:=high) gi0 {c:Prop}:Gi c True True:=⟨fun _ _=>trivial⟩
instance (priority:=low) gi1 {c r:Prop}:Gi c r (c→r):=⟨id⟩
class TO (c:Prop) (P:Program) (ops:Array Oper) (o:Oper) (L:Lst) (q:outParam Pd) (r:outParam Prop):Prop where
 h:r→c→T P ops o L q
class TH (p c:Prop) (P:Program) (ops:Array Oper) (o:Oper) (L:Lst) (q:outParam Pd):Prop where
 h:p→c→T P ops o L q
section
variable {c : Prop} {P : Program} {ops : Array Oper} {L : Lst} {d : Option Nat} {ty : TypeId} {ps : String} {af : Array Edge} {x y z : Operand} {t u' : TypeId} {k : IntKind} {a b : Int}
instance to1 {q:Pd} [i0:Oc c L x q]:TO c P ops ⟨d,.move x,ty,ps,af,none⟩ L (q) (True):=⟨fun hr hc=>zt (i0.h hc) rfl rfl⟩
instance to2 {q:Pd} [i0:Oc c L x q]:TO c P ops ⟨d,.assign x,ty,ps,af,none⟩ L (q) (True):=⟨fun hr hc=>zbi (i0.h hc) rfl rfl⟩
instance to3 {α:Type} {E:En α} {v:α} [i0:Tq P t E] [i1:Oc c L y (Pd.ptr E v)]:TO c P ops ⟨d,.load t y,ty,ps,af,none⟩ L (Pd.rep E v) (True):=⟨fun hr hc=>zci i0.h (i1.h hc) rfl rfl⟩
instance to4 {α:Type} {E:En α} {v:α} {N off:Nat} {og:Option Nat} [i0:Tq P t E] [i1:Oc c L y (Pd.optr E N og off v)]:TO c P ops ⟨d,.load t y,ty,ps,af,none⟩ L (Pd.rep E v) (True):=⟨fun hr hc=>zb3 i0.h (i1.h hc) rfl rfl⟩
instance to5 {α:Type} {E:En α} {v:α} {N g:Nat} [i0:Tq P t E] [i1:Oc c L y (Pd.box E N g v)]:TO c P ops ⟨d,.load t y,ty,ps,af,none⟩ L (Pd.rep E v) (True):=⟨fun hr hc=>zlc i0.h (i1.h hc) rfl rfl⟩
instance to6 {α β:Type} {E:En α} {E':En β} {v:α} {w:β} {f off:Nat}  [i0:Oc c L x (Pd.ptr E v)] [i1:Fd P t f E v off E' w]:TO c P ops ⟨d,.fieldAddr t x f,ty,ps,af,none⟩ L (Pd.ptr E' w) (True):=⟨fun hr hc=>let ⟨fs,fd,h1,h2,h3,h4,h5⟩:=i1.h;zlw (i0.h hc) h1 h2 h3 h4 h5 rfl rfl⟩
instance to7 {α β:Type} {E:En α} {E':En β} {v:α} {w:β} {f off:Nat} {N o':Nat} {og:Option Nat} [i0:Oc c L x (Pd.optr E N og o' v)] [i1:Fd P t f E v off E' w]:TO c P ops ⟨d,.fieldAddr t x f,ty,ps,af,none⟩ L (Pd.optr E' N og (o'+off) w) (True):=⟨fun hr hc=>let ⟨fs,fd,h1,h2,h3,h4,h5⟩:=i1.h;t_fao (i0.h hc) h1 h2 h3 h4 h5 rfl rfl⟩
instance to8 {α β:Type} {E:En α} {E':En β} {v:α} {w:β} {f off:Nat} {N g:Nat} [i0:Oc c L x (Pd.box E N g v)] [i1:Fd P t f E v off E' w]:TO c P ops ⟨d,.fieldAddr t x f,ty,ps,af,none⟩ L (Pd.optr E' N (some g) off w) (True):=⟨fun hr hc=>let ⟨fs,fd,h1,h2,h3,h4,h5⟩:=i1.h;zp6 (i0.h hc) h1 h2 h3 h4 h5 rfl rfl⟩
instance to9 {α β:Type} {E:En α} {E':En β} {v:α} {w:β} {f off:Nat}  [i0:Oc c L x (Pd.rep E v)] [i1:Fd P t f E v off E' w] [i2:Ag E]:TO c P ops ⟨d,.field t x f,ty,ps,af,none⟩ L (Pd.rep E' w) (True):=⟨fun hr hc=>let ⟨fs,fd,h1,h2,h3,h4,h5⟩:=i1.h;t_fv (i0.h hc) i2.h h1 h2 h3 h4 h5 rfl rfl⟩
instance to10 [i0:Oc c L x (Pd.rep (En.int k) a)] [i1:Oc c L y (Pd.rep (En.int k) b)]:TO c P ops ⟨d,.binOp .lss t x y u',ty,ps,af,none⟩ L (Pd.rep En.bool (decide (a<b))) (True):=⟨fun hr hc=>t_lss (i0.h hc) (i1.h hc) rfl rfl⟩
instance to11 [i0:Oc c L x (Pd.rep (En.int k) a)] [i1:Oc c L y (Pd.rep (En.int k) b)]:TO c P ops ⟨d,.binOp .leq t x y u',ty,ps,af,none⟩ L (Pd.rep En.bool (decide (a≤b))) (True):=⟨fun hr hc=>t_leq (i0.h hc) (i1.h hc) rfl rfl⟩
instance to12 [i0:Oc c L x (Pd.rep (En.int k) a)] [i1:Oc c L y (Pd.rep (En.int k) b)]:TO c P ops ⟨d,.binOp .gtr t x y u',ty,ps,af,none⟩ L (Pd.rep En.bool (decide (b<a))) (True):=⟨fun hr hc=>t_gtr (i0.h hc) (i1.h hc) rfl rfl⟩
instance to13 [i0:Oc c L x (Pd.rep (En.int k) a)] [i1:Oc c L y (Pd.rep (En.int k) b)]:TO c P ops ⟨d,.binOp .geq t x y u',ty,ps,af,none⟩ L (Pd.rep En.bool (decide (b≤a))) (True):=⟨fun hr hc=>t_geq (i0.h hc) (i1.h hc) rfl rfl⟩
instance to14 [i0:Oc c L x (Pd.rep (En.int k) a)] [i1:Oc c L y (Pd.rep (En.int k) b)]:TO c P ops ⟨d,.binOp .eql t x y u',ty,ps,af,none⟩ L (Pd.rep En.bool (a==b)) (True):=⟨fun hr hc=>t_eqi (i0.h hc) (i1.h hc) rfl rfl⟩
instance to15 [i0:Oc c L x (Pd.rep (En.int k) a)] [i1:Oc c L y (Pd.rep (En.int k) b)]:TO c P ops ⟨d,.binOp .neq t x y u',ty,ps,af,none⟩ L (Pd.rep En.bool (a != b)) (True):=⟨fun hr hc=>t_nei (i0.h hc) (i1.h hc) rfl rfl⟩
instance to16 [i0:Oc c L x (Pd.rep (En.int .i64) a)] [i1:Oc c L y (Pd.rep (En.int .i64) b)]:TO c P ops ⟨d,.binOp .add t x y u',ty,ps,af,none⟩ L (Pd.rep (En.int .i64) (a+b)) (InR .i64 (a+b)):=⟨fun hr hc=>t_add (i0.h hc) (i1.h hc) hr rfl rfl⟩
instance to19 [i0:Oc c L x (Pd.rep (En.int .i64) a)] [i1:Oc c L y (Pd.rep (En.int .i64) b)]:TO c P ops ⟨d,.binOp .sub t x y u',ty,ps,af,none⟩ L (Pd.rep (En.int .i64) (a-b)) (InR .i64 (a-b)):=⟨fun hr hc=>zmf (i0.h hc) (i1.h hc) hr rfl rfl⟩
instance to22 [i0:Oc c L x (Pd.rep (En.int .i64) a)] [i1:Oc c L y (Pd.rep (En.int .i64) b)]:TO c P ops ⟨d,.binOp .mul t x y u',ty,ps,af,none⟩ L (Pd.rep (En.int .i64) (a*b)) (InR .i64 (a*b)):=⟨fun hr hc=>t_mul (i0.h hc) (i1.h hc) hr rfl rfl⟩
instance to26 {v:Bool} [i0:Oc c L x (Pd.rep En.bool v)]:TO c P ops ⟨d,.unOp .not t x,ty,ps,af,none⟩ L (Pd.rep En.bool (!v)) (True):=⟨fun hr hc=>t_not (i0.h hc) rfl rfl⟩
instance to34 {v w:Bool} [i0:Oc c L x (Pd.rep En.bool v)] [i1:Oc (c∧v=true) L y (Pd.rep En.bool w)]:TO c P ops ⟨d,.pick x y (.const (.bool false)),ty,ps,af,none⟩ L (Pd.rep En.bool (v&&w)) (True):=⟨fun hr hc=>t_and (i0.h hc) (fun e=>i1.h ⟨hc,e⟩) rfl rfl⟩
instance to35 {v w:Bool} [i0:Oc c L x (Pd.rep En.bool v)] [i1:Oc (c∧v=false) L y (Pd.rep En.bool w)]:TO c P ops ⟨d,.pick x (.const (.bool true)) y,ty,ps,af,none⟩ L (Pd.rep En.bool (v||w)) (True):=⟨fun hr hc=>t_or (i0.h hc) (fun e=>i1.h ⟨hc,e⟩) rfl rfl⟩
instance to36 {α:Type} {E:En α} {xs:List α} {te:TypeId} [i0:Oc c L y (Pd.rep (En.slice E) xs)] [i1:Ud P t (.slice te)]:TO c P ops ⟨d,.call { callee:=.builtin .len,args:=#[y],argTypes:=#[t] },ty,ps,af,none⟩ L (Pd.rep (En.int .i64) xs.length) (True):=⟨fun hr hc=>t_len (i0.h hc) i1.h rfl rfl⟩
instance to37 {α:Type} {E:En α} {xs:List α} {N te te':Nat} {og:Option Nat} [i0:Or c L y E N te og xs] [i1:Ud P t (.slice te')]:TO c P ops ⟨d,.call { callee:=.builtin .len,args:=#[y],argTypes:=#[t] },ty,ps,af,none⟩ L (Pd.rep (En.int .i64) xs.length) (True):=⟨fun hr hc=>t_leno (i0.h hc) i1.h rfl rfl⟩
instance to38 {v:Str} [i0:Oc c L y (Pd.rep En.str v)] [i1:Ud P t .string]:TO c P ops ⟨d,.call { callee:=.builtin .len,args:=#[y],argTypes:=#[t] },ty,ps,af,none⟩ L (Pd.rep (En.int .i64) v.length) (True):=⟨fun hr hc=>t_slen (i0.h hc) i1.h rfl rfl⟩
instance to39 {ats:Array TypeId} [i0:Oc c L x (Pd.rep (En.int k) a)] [i1:Oc c L y (Pd.rep (En.int k) b)]:TO c P ops ⟨d,.call { callee:=.builtin .max,args:=#[x,y],argTypes:=ats },ty,ps,af,none⟩ L (Pd.rep (En.int k) (max a b)) (True):=⟨fun hr hc=>t_max (i0.h hc) (i1.h hc) rfl rfl⟩
instance to40 {ats:Array TypeId} [i0:Oc c L x (Pd.rep (En.int k) a)] [i1:Oc c L y (Pd.rep (En.int k) b)]:TO c P ops ⟨d,.call { callee:=.builtin .min,args:=#[x,y],argTypes:=ats },ty,ps,af,none⟩ L (Pd.rep (En.int k) (min a b)) (True):=⟨fun hr hc=>t_min (i0.h hc) (i1.h hc) rfl rfl⟩
instance to41 {α:Type} {E:En α} {v:α} [i0:Oc c L y (Pd.rep E v)]:TO c P ops ⟨d,.box t y,ty,ps,af,none⟩ L (Pd.ptr E v) (True):=⟨fun hr hc=>t_box (i0.h hc) rfl rfl⟩
instance to42 {q r:Pd} [i0:Oc c L x (Pd.tup2 q r)]:TO c P ops ⟨d,.extract x 0,ty,ps,af,none⟩ L (q) (True):=⟨fun hr hc=>t_ext0 (i0.h hc) rfl rfl⟩
instance to43 {q r:Pd} [i0:Oc c L x (Pd.tup2 q r)]:TO c P ops ⟨d,.extract x 1,ty,ps,af,none⟩ L (r) (True):=⟨fun hr hc=>zm4 (i0.h hc) rfl rfl⟩
instance to45 {α:Type} {E:En α} {te:TypeId} {xs:List Operand} {es:List α} {n:Nat} {parts:Array (Nat × Operand)}  [i0:Ud P t (.slice te)] [i1:Tq P te E] [i2:Lp parts xs n] [i3:Ol E c L xs es]:TO c P ops ⟨d,.buildSlice t n parts,ty,ps,af,none⟩ L (Pd.rep (En.slice E) es) (n*E.sz≤16777216):=⟨fun hr hc=>lp_lit (i3.h hc) i0.h i1.h i2 hr⟩
instance to46 [i0:Oc c L y (Pd.rep (En.int k) a)] [i1:Ud P t (.int k)] [i2:Ud P u' (.int .u8)]:TO c P ops ⟨d,.convert t u' y,ty,ps,af,none⟩ L (Pd.rep (En.int .u8) (a % 256)) (True):=⟨fun hr hc=>t_u8 (i0.h hc) i1.h i2.h rfl rfl⟩
instance to47 [i0:Oc c L y (Pd.rep (En.int .u8) a)] [i1:Ud P t (.int .u8)] [i2:Ud P u' (.int .i64)]:TO c P ops ⟨d,.convert t u' y,ty,ps,af,none⟩ L (Pd.rep (En.int .i64) a) (True):=⟨fun hr hc=>t_up (i0.h hc) (by decide) i1.h i2.h rfl rfl⟩
instance to51 [i0:Oc c L y (Pd.rep (En.int .i64) a)] [i1:Ud P t (.int .i64)] [i2:Ud P u' (.int .u64)]:TO c P ops ⟨d,.convert t u' y,ty,ps,af,none⟩ L (Pd.rep (En.int .u64) (IntKind.wrap .u64 a)) (True):=⟨fun hr hc=>t_cvt (i0.h hc) i1.h i2.h rfl rfl⟩
instance to52 [i0:Oc c L y (Pd.rep (En.int .u64) a)] [i1:Ud P t (.int .u64)] [i2:Ud P u' (.int .i64)]:TO c P ops ⟨d,.convert t u' y,ty,ps,af,none⟩ L (Pd.rep (En.int .i64) (IntKind.wrap .i64 a)) (True):=⟨fun hr hc=>t_cvt (i0.h hc) i1.h i2.h rfl rfl⟩
instance to53 [i0:Oc c L x (Pd.rep (En.int .u64) a)] [i1:Oc c L y (Pd.rep (En.int .u8) b)]:TO c P ops ⟨d,.binOp .shr t x y u',ty,ps,af,none⟩ L (Pd.rep (En.int .u64) (zpj a b)) (True):=⟨fun hr hc=>t_shr (i0.h hc) (i1.h hc) (by decide) rfl rfl⟩
instance to54 [i0:Oc c L x (Pd.rep (En.int .u64) a)] [i1:Oc c L y (Pd.rep (En.int .u8) b)]:TO c P ops ⟨d,.binOp .shl t x y u',ty,ps,af,none⟩ L (Pd.rep (En.int .u64) (shlI a b)) (True):=⟨fun hr hc=>t_shl (i0.h hc) (i1.h hc) (by decide) rfl rfl⟩
instance to55 [i0:Oc c L x (Pd.rep (En.int .u64) a)] [i1:Oc c L y (Pd.rep (En.int .u64) b)]:TO c P ops ⟨d,.binOp .shr t x y u',ty,ps,af,none⟩ L (Pd.rep (En.int .u64) (zpj a b)) (True):=⟨fun hr hc=>t_shr (i0.h hc) (i1.h hc) (by decide) rfl rfl⟩
instance to57 [i0:Oc c L x (Pd.rep (En.int .u64) a)] [i1:Oc c L y (Pd.rep (En.int .u64) b)]:TO c P ops ⟨d,.binOp .and t x y u',ty,ps,af,none⟩ L (Pd.rep (En.int .u64) (andI a b)) (True):=⟨fun hr hc=>t_andb (i0.h hc) (i1.h hc) rfl rfl⟩
instance to58 [i0:Oc c L x (Pd.rep (En.int .u64) a)] [i1:Oc c L y (Pd.rep (En.int .u64) b)]:TO c P ops ⟨d,.binOp .or t x y u',ty,ps,af,none⟩ L (Pd.rep (En.int .u64) (orI a b)) (True):=⟨fun hr hc=>t_orb (i0.h hc) (i1.h hc) rfl rfl⟩
instance to59 {α:Type} {E:En α} {xs:List α} {e:α} {te:TypeId} [i0:Oc c L x (Pd.rep (En.slice E) xs)] [i1:Oc c L y (Pd.rep (En.int k) a)] [i2:Ud P t (.slice te)] [i3:Tq P te E]:TH (at? xs a=some e) c P ops ⟨d,.indexAddr t x y,ty,ps,af,none⟩ L (Pd.ptr E e):=⟨fun hr hc=>t_idx (i0.h hc) (i1.h hc) hr i2.h i3.h rfl rfl⟩
instance to60 {α:Type} {E:En α} {xs:List α} {e:α} {N te te':Nat} {og:Option Nat} [i0:Or c L x E N te' og xs] [i1:Oc c L y (Pd.rep (En.int k) a)] [i2:Ud P t (.slice te)] [i3:Tq P te E]:TH (at? xs a=some e) c P ops ⟨d,.indexAddr t x y,ty,ps,af,none⟩ L (Pd.optr E N og (a.toNat*E.sz) e):=⟨fun hr hc=>zd0 (i0.h hc) (i1.h hc) hr i2.h i3.h rfl rfl⟩
instance to61 {v:Str} {e:Int} [i0:Oc c L x (Pd.rep En.str v)] [i1:Oc c L y (Pd.rep (En.int k) a)] [i2:Ud P t .string]:TH (zd2 v a=some e) c P ops ⟨d,.index t x y,ty,ps,af,none⟩ L (Pd.rep (En.int .u8) e):=⟨fun hr hc=>t_sidx (i0.h hc) (i1.h hc) hr i2.h rfl rfl⟩
instance to62 {α:Type} {E:En α} {xs:List α} {te:TypeId}  [i0:Oc c L y (Pd.rep (En.slice E) xs)] [i1:Oc c L z (Pd.rep (En.int k) a)] [i2:Ud P t (.slice te)] [i3:Tq P te E]:TO c P ops ⟨d,.slice t y (some z) none none,ty,ps,af,none⟩ L (Pd.rep (En.slice E) (xs.drop a.toNat)) (0≤a∧a≤(xs.length:Int)):=⟨fun hr hc=>t_from (i0.h hc) (i1.h hc) hr i2.h i3.h rfl rfl⟩
instance to66 [i0:Oc c L x (Pd.rep (En.int .u8) a)] [i1:Oc c L y (Pd.rep (En.int .u8) b)]:TO c P ops ⟨d,.binOp .quo t x y u',ty,ps,af,none⟩ L (Pd.rep (En.int .u8) (a / b)) (0<b):=⟨fun hr hc=>t_quou (i0.h hc) (i1.h hc) (by decide) hr rfl rfl⟩
instance to69 [i0:Oc c L x (Pd.rep (En.int .u8) a)] [i1:Oc c L y (Pd.rep (En.int .u8) b)]:TO c P ops ⟨d,.binOp .rem t x y u',ty,ps,af,none⟩ L (Pd.rep (En.int .u8) (a % b)) (0<b):=⟨fun hr hc=>t_remu (i0.h hc) (i1.h hc) (by decide) hr rfl rfl⟩
instance to71 {w:Cl} {te:TypeId}  [i0:Oc c L x (Pd.ptr En.cls w)] [i1:Oc c L y (Pd.rep (En.int k) a)] [i2:Ud P t (.array 4 te)] [i3:Us P te 1]:TO c P ops ⟨d,.indexAddr t x y,ty,ps,af,none⟩ L (Pd.ptr (En.int .u64) (w.w a)) (0≤a∧a<4):=⟨fun hr hc=>t_idxc (i0.h hc) (i1.h hc) hr i2.h i3.h rfl rfl⟩
instance to72 {w:Cl} {te:TypeId} {N g:Nat} [i0:Oc c L x (Pd.box En.cls N g w)] [i1:Oc c L y (Pd.rep (En.int k) a)] [i2:Ud P t (.array 4 te)] [i3:Us P te 1]:TO c P ops ⟨d,.indexAddr t x y,ty,ps,af,none⟩ L (Pd.optr (En.int .u64) N (some g) a.toNat (w.w a)) (0≤a∧a<4):=⟨fun hr hc=>t_idxcb (i0.h hc) (i1.h hc) hr i2.h i3.h rfl rfl⟩
instance toc {f:FuncId} {xs:List Operand} {qs:List Pd} {q:Pd} {ats:Array TypeId} [i:Oz c L xs qs]:TH (Fn P f qs (Rq q)) c P ops ⟨d,.call { callee:=.value (.func f),args:=xs.toArray,argTypes:=ats },ty,ps,af,none⟩ L q:=⟨fun hf hc=>ze8 hf (i.h hc) rfl rfl⟩
class Gd (l:List Oper) (j:Nat) (d:outParam Nat):Prop where
 h:(l[j]?).bind (·.dst)=some d
instance gd0 {l:List Oper} {d:Nat} {op:Op} {g:Option (Nat × Bool)}:Gd (⟨some d,op,ty,ps,af,g⟩::l) 0 d:=⟨rfl⟩
instance gd1 {l:List Oper} {o:Oper} {j d:Nat} [h:Gd l j d]:Gd (o::l) (j+1) d:=⟨by simpa using h.h⟩
theorem Gd.arr {l:List Oper} {j d:Nat} (h:Gd l j d):((l.toArray)[j]?).bind (·.dst)=some d:=by simpa using h.h
section
variable {l : List Oper} {j e : Nat} {o : Op} {want v : Bool} {q : Pd} {c0 r r' p : Prop} [g : Gd l j e]
include g
instance tg1 [k:Lx L e (Pd.rep En.bool v)] [i:TO (v=want) P l.toArray ⟨d,o,ty,ps,af,none⟩ L q r] [z:Gi (v=want) r r']:TO True P l.toArray ⟨d,o,ty,ps,af,some (j,want)⟩ L (Pd.when (v=want) q) r':=⟨fun hr _=>t_g1 rfl g.arr k.h fun hc=>i.h (z.h hr hc) hc⟩
instance tg2 [k:Lx L e (Pd.when c0 (Pd.rep En.bool v))] [i:TO (c0∧v=want) P l.toArray ⟨d,o,ty,ps,af,none⟩ L q r] [z:Gi (c0∧v=want) r r']:TO True P l.toArray ⟨d,o,ty,ps,af,some (j,want)⟩ L (Pd.when (c0∧v=want) q) r':=⟨fun hr _=>t_g rfl g.arr k.h fun hc=>i.h (z.h hr hc) hc⟩
instance th1 [k:Lx L e (Pd.rep En.bool v)] [i:TH p (v=want) P l.toArray ⟨d,o,ty,ps,af,none⟩ L q]:TH (v=want→p) True P l.toArray ⟨d,o,ty,ps,af,some (j,want)⟩ L (Pd.when (v=want) q):=⟨fun hr _=>t_g1 rfl g.arr k.h fun hc=>i.h (hr hc) hc⟩
end
end
theorem rr {r:Prop} (h:r:=by first | exact trivial | assumption | exact Dis.symm (by assumption) | exact And.intro rr rr | exact fun _=>rr | exact Dis.none | exact Dis.symm Dis.none | decide):r:=h
class Sb (q:Pd):Prop where
 h:∀b,¬ q.own b
instance sb_rep {α:Type} {E:En α} {x:α}:Sb (Pd.rep E x):=⟨fun _ h=>h⟩
instance sb_ptr {α:Type} {E:En α} {x:α}:Sb (Pd.ptr E x):=⟨fun _ h=>h⟩
instance sb_any:Sb Pd.any:=⟨fun _ h=>h⟩
instance sb_nilq {α:Type} {xs:List α}:Sb (Pd.nilq xs):=⟨fun _ h=>h⟩
instance sb_row {α:Type} {E:En α} {N te:Nat} {xs:List α}:Sb (Pd.row E N te none xs):=⟨fun b h=>by cases h⟩
instance sb_when {c:Prop} {q:Pd} [h:Sb q]:Sb (Pd.when c q):=⟨h.h⟩
instance sb_tup {q r:Pd} [h:Sb q] [k:Sb r]:Sb (Pd.tup2 q r):=⟨fun b e=>e.elim (h.h b) (k.h b)⟩
class Ob (q:Pd) (o:outParam (Option Nat)):Prop where
 h:∀b,q.own b→o=some b
section
variable {α : Type} {E : En α} {N te g i : Nat} {og : Option Nat} {x : α} {xs : List α} {v0 : Value}
instance ob_row:Ob (Pd.row E N te og xs) og:=⟨fun _ h=>h⟩
instance ob_box:Ob (Pd.box E N g x) (some g):=⟨fun _ h=>congrArg some (Eq.symm h)⟩
instance ob_optr:Ob (Pd.optr E N og i x) og:=⟨fun _ h=>h⟩
instance ob_map {κ ν:Type} [DecidableEq κ] {K:En κ} {kv:κ→Value} {F:En ν} {ys:List (κ × ν)}:Ob (Pd.map K kv F N og ys) og:=⟨fun _ h=>h⟩
end
class Ka (o:Option Nat) (L:Lst) (L':outParam Lst) (r:outParam Prop):Prop where
 h:r→Kp (fun b=>o=some b) L L'
section
variable {o o' : Option Nat} {L L' : Lst} {r r' : Prop} {t : Nat} {q : Pd}
instance ka0:Ka o [] [] True:=⟨fun _=>.a0⟩
instance (priority:=1100) ka1 [s:Sb q] [k:Ka o L L' r]:Ka o ((t,q)::L) ((t,q)::L') r:=⟨fun hr=>.ak (fun b hb=>(s.h b hb).elim) (k.h hr)⟩
instance (priority:=1050) ka2 [s:Ob q o] [k:Ka o L L' r]:Ka o ((t,q)::L) ((t,Pd.any)::L') r:=⟨fun hr=>.ad (k.h hr)⟩
instance ka3 [s:Ob q o'] [k:Ka o L L' r] [z:Cj (Dis o' o) r r']:Ka o ((t,q)::L) ((t,q)::L') r':=⟨fun hr=>.ak (fun b hb e=>(z.h hr).1 b (s.h b hb) e) (k.h (z.h hr).2)⟩
instance (priority:=low) ka4 [k:Ka o L L' r]:Ka o ((t,q)::L) ((t,Pd.any)::L') r:=⟨fun hr=>.ad (k.h hr)⟩
theorem ka [i:Ka o L L' r] (hr:r:=by exact rr):Kp (fun b=>o=some b) L L':=i.h hr
class Kd (o:Option Nat) (L:Lst) (L':outParam Lst):Prop where
 h:Kp (fun _=>False) L L'
instance kd0:Kd o [] []:=⟨.a0⟩
instance (priority:=1050) kd1 [s:Ob q o] [k:Kd o L L']:Kd o ((t,q)::L) ((t,Pd.any)::L'):=⟨.ad k.h⟩
instance kd2 [k:Kd o L L']:Kd o ((t,q)::L) ((t,q)::L'):=⟨.ak (fun _ _ h=>h) k.h⟩
theorem Has.dr {M:Nat→Prop} {n:Nat} {s0:St} {a:Act} {s:St} (h:Has M n s0 a s L) (o:Option Nat) [k:Kd o L L']:Has M n s0 a s L':=h.keep k.h
class Ks (o:Option Nat) (q q':Pd) (L:Lst) (L':outParam Lst) (r:outParam Prop):Prop where
 h:r→Kw (fun b=>o=some b) L q q' L'
variable {p p' : Pd}
instance ks0:Ks o p p' [] [] True:=⟨fun _=>.a0⟩
instance (priority:=1200) ks5 [k:Ks o p p' L L' r]:Ks o p p' ((t,p)::L) ((t,p')::L') r:=⟨fun hr=>.aw (k.h hr)⟩
instance (priority:=1100) ks1 [s:Sb q] [k:Ks o p p' L L' r]:Ks o p p' ((t,q)::L) ((t,q)::L') r:=⟨fun hr=>.ak (fun b hb=>(s.h b hb).elim) (k.h hr)⟩
instance (priority:=1050) ks2 [s:Ob q o] [k:Ks o p p' L L' r]:Ks o p p' ((t,q)::L) ((t,Pd.any)::L') r:=⟨fun hr=>.ad (k.h hr)⟩
instance ks3 [s:Ob q o'] [k:Ks o p p' L L' r] [z:Cj (Dis o' o) r r']:Ks o p p' ((t,q)::L) ((t,q)::L') r':=⟨fun hr=>.ak (fun b hb e=>(z.h hr).1 b (s.h b hb) e) (k.h (z.h hr).2)⟩
theorem kw [i:Ks o p p' L L' r] (hr:r:=by exact rr):Kw (fun b=>o=some b) L p p' L':=i.h hr
end
section
variable {P : Program} {ops : Array Oper} {L L' : Lst} {Q : Exit → Act → World → Prop} {rest : List Oper} {M : Nat → Prop} {n : Nat} {s0 : St} {a : Act} {s : St}
theorem Has.kk (h:Has M n s0 a s L) (hk:Kp (fun _=>False) L L':=by repeat (first | refine .cons rfl (fun _ _ h=>h) ?_ | exact .nil)):Has M n s0 a s L':=h.keep hk
inductive TSq (P:Program) (ops:Array Oper) (n:Nat):List Oper→List Oper→Lst→Lst→Prop
 | nil {l:List Oper} {L:Lst}:TSq P ops n l l L L
 | cons {o:Oper} {l l':List Oper} {L L':Lst} {q:Pd} {d:Nat} (h:T P ops o L q) (hd:o.dst=some d) (hn:Nat.blt d n=true) (h2:TSq P ops n l l' ((d,q)::L) L'):TSq P ops n (o::l) l' L L'
theorem TSq.go {l l':List Oper} (h:TSq P ops n l l' L L'):∀{a s},Has M n s0 a s L→(∀a s,Has M n s0 a s L'→wpList P ops Q l' a s.w)→wpList P ops Q l a s.w:=by
 induction h with
 | nil=>intro a s h k;exact k a s h
 | cons h hd hn _ ih=>intro a s hL k;exact st _ h hd hn hL fun a s _ hL=>ih hL k
class TL (P:Program) (ops:Array Oper) (n m:Nat) (p:Prop) (l:List Oper) (L:Lst) (l':outParam (List Oper)) (L':outParam Lst) (r:outParam Prop):Prop where
 h:p→r→TSq P ops n l l' L L'
section
variable {o : Op} {l l' : List Oper} {q : Pd} {d m : Nat} {r1 r2 r p p1 : Prop} {ty : TypeId} {ps : String} {af : Array Edge} {g : Option (Nat × Bool)}
instance tl0:TL P ops n 0 True l L l L True:=⟨fun _ _=>.nil⟩
instance tl1 [i:TO True P ops ⟨some d,o,ty,ps,af,g⟩ L q r1] [e:Ev (Nat.ble (d+1) n) true] [k:TL P ops n m p l ((d,q)::L) l' L' r2] [z:Cj r1 r2 r]:TL P ops n (m+1) p (⟨some d,o,ty,ps,af,g⟩::l) L l' L' r:=⟨fun hp hr=>.cons (i.h (z.h hr).1 trivial) rfl e.h (k.h hp (z.h hr).2)⟩
instance tl2 [i:TH p1 True P ops ⟨some d,o,ty,ps,af,g⟩ L q] [e:Ev (Nat.ble (d+1) n) true] [k:TL P ops n m p l ((d,q)::L) l' L' r]:TL P ops n (m+1) (p1∧p) (⟨some d,o,ty,ps,af,g⟩::l) L l' L' r:=⟨fun hp hr=>.cons (i.h hp.1 trivial) rfl e.h (k.h hp.2 hr)⟩
instance (priority:=high) tl3 {α:Type} {E:En α} {x y:α} [i:TO True P ops ⟨some d,o,ty,ps,af,g⟩ L (Pd.rep E y) r1] [e:Ev (Nat.ble (d+1) n) true] [k:TL P ops n m p l ((d,Pd.rep E x)::L) l' L' r2] [z:Cj r1 r2 r]:TL P ops n (m+1) (x=y∧p) (⟨some d,o,ty,ps,af,g⟩::l) L l' L' r:=⟨fun hp hr=>.cons (by rw [hp.1];exact i.h (z.h hr).1 trivial) rfl e.h (k.h hp.2 (z.h hr).2)⟩
instance (priority:=high) tl4 {α:Type} {E:En α} {x y:α} {c:Prop} [i:TO True P ops ⟨some d,o,ty,ps,af,g⟩ L (Pd.when c (Pd.rep E y)) r1] [e:Ev (Nat.ble (d+1) n) true] [k:TL P ops n m p l ((d,Pd.when c (Pd.rep E x))::L) l' L' r2] [z:Cj r1 r2 r]:TL P ops n (m+1) (x=y∧p) (⟨some d,o,ty,ps,af,g⟩::l) L l' L' r:=⟨fun hp hr=>.cons (by rw [hp.1];exact i.h (z.h hr).1 trivial) rfl e.h (k.h hp.2 (z.h hr).2)⟩
end
theorem sl {l l':List Oper} {r p:Prop} (m:Nat) (hp:p) (hL:Has M n s0 a s L) (k:∀a s,Has M n s0 a s L'→wpList P ops Q l' a s.w) [i:TL P ops n m p l L l' L' r] (hr:r:=by exact rr):wpList P ops Q l a s.w:=(i.h hp hr).go hL k
theorem sA {l l':List Oper} {r:Prop} (m:Nat) (hL:Has M n s0 a s L) (k:∀a s, Has M n s0 a s L'→wpList P ops Q l' a s.w) [i:TL P ops n m True l L l' L' r] (hr:r := by exact rr):wpList P ops Q l a s.w := sl m trivial hL k hr
theorem sv {o:Oper} {q:Pd} {d:Nat} (h:T P ops o L q) (hL:Has M n s0 a s L) (k:∀a' s',Has M n s0 a' s' ((d,q)::L)→wpList P ops Q rest a' s'.w) (hd:o.dst=some d:=by rfl) (hn:Nat.blt d n=true:=by rfl):wpList P ops Q (o::rest) a s.w:=st d h hd hn hL fun a s _ h=>k a s h
theorem sno {α:Type} (E:En α) (te:Nat) {d:Nat} {o:Oper} (hL:Has M n s0 a s L) (k:∀a' s',Has M n s0 a' s' ((d,Pd.row E s0.w.heap.size te none ([]:List α))::L)→wpList P ops Q rest a' s'.w) (ho:o.op = .move (.const (.slice none 0 0))∨o.op = .assign (.const (.slice none 0 0)):=by first | exact .inr rfl | exact .inl rfl) (hg:o.guard=none:=by rfl) (hd:o.dst=some d:=by rfl) (hn:Nat.blt d n=true:=by rfl):wpList P ops Q (o::rest) a s.w:=sv (ho.elim (fun h=>zt o_nil h hg) fun h=>zbi o_nil h hg) hL k hd hn
theorem snr {α:Type} (E:En α) {d:Nat} {o:Oper} (hL:Has M n s0 a s L) (k:∀a' s',Has M n s0 a' s' ((d,Pd.rep (En.slice E) ([]:List α))::L)→wpList P ops Q rest a' s'.w) (ho:o.op = .move (.const (.slice none 0 0))∨o.op = .assign (.const (.slice none 0 0)):=by first | exact .inr rfl | exact .inl rfl) (hg:o.guard=none:=by rfl) (hd:o.dst=some d:=by rfl) (hn:Nat.blt d n=true:=by rfl):wpList P ops Q (o::rest) a s.w:=sv (ho.elim (fun h=>zt zns h hg) fun h=>zbi zns h hg) hL k hd hn
theorem pp {a b:Prop} (h:a) (k:b):a∧b:=⟨h,k⟩
theorem p1 {a:Prop} (h:a):a∧True := ⟨h, trivial⟩
variable {b : Code} {id : Nat} {l : List Oper}
theorem rs (h:wpList P l.toArray (Exit.then (b.wp P Q) Q) l a s.w):(Code.seq (Code.region id l.toArray false) b).wp P Q a s.w:=wp_seq (rg h)
theorem es (h:b.wp P Q a s.w):wpList P ops (Exit.then (b.wp P Q) Q) [] a s.w:=h
theorem ra {r p:Prop} (m:Nat) (hp:p) (hL:Has M n s0 a s L) (k:∀a s,Has M n s0 a s L'→b.wp P Q a s.w) [i:TL P l.toArray n m p l L [] L' r] (hr:r:=by exact rr):(Code.seq (Code.region id l.toArray false) b).wp P Q a s.w:=rs ((i.h hp hr).go hL fun a s h=>es (k a s h))
theorem rA (m:Nat) (hL:Has M n s0 a s L) (k:∀a s, Has M n s0 a s L'→b.wp P Q a s.w) {r:Prop} [i:TL P l.toArray n m True l L [] L' r] (hr:r := by exact rr):(Code.seq (Code.region id l.toArray false) b).wp P Q a s.w := ra m trivial hL k hr
theorem sB {α:Type} {E:En α} {x0 x1:α} {g:Nat} {y:Operand} {t:TypeId} {o:Oper} (c:Nat) (hL:Has M n s0 a s L) (k:∀s', Has M n s0 a s' ((c, Pd.box E s0.w.heap.size g x1)::L')→wpList P ops Q rest a s'.w) (ho:o.op = .store t (.tmp c) y := by rfl) (hc:lk L c=some (Pd.box E s0.w.heap.size g x0) := by rfl) [hy:Oc True L y (Pd.rep E x1)] [ht:Tq P t E] (hg:o.guard=none := by rfl) (hd:o.dst=none := by rfl) (hk:Kp (fun b => some g=some b) L L' := by exact ka):wpList P ops Q (o::rest) a s.w := zpg c hL hc (hy.h trivial) ht.h ho hg hd hk k
@[reducible] def bnd (e:Edge):Bool:=match e.ground with
 | .textOnly _=>false
 | .gcOnly _=>false
 | _=>true
theorem bnd_eq (e:Edge):Region.binds .any e=bnd e:=by
 unfold Region.binds bnd;cases e.ground <;> rfl
@[reducible] def nthR:Lst→Nat→Option (Nat × Pd)
 | [],_=>none
 | x::_,0=>some x
 | _::r,k+1=>nthR r k
@[reducible] def depA (i:Nat) (A L:Lst):List Edge→Lst
 | []=>L
 | e::r=>match bnd e,nthR A (Nat.sub (Nat.sub i 1) e.on) with
  | true,some x=>x::depA i A L r
  | _,_=>depA i A L r
inductive AA (P:Program) (ops:Array Oper) (L:Lst):Nat→Lst→List Oper→List Pd→Lst→Prop
 | nil {i:Nat} {A:Lst} {l:List Oper}:AA P ops L i A l [] A
 | cons {i:Nat} {A A':Lst} {o:Oper} {l:List Oper} {q:Pd} {qs:List Pd} {d:Nat} (h:T P ops o (depA i A L o.after.toList) q) (hd:o.dst=some d) (h2:AA P ops L (i+1) ((d,q)::A) l qs A'):AA P ops L i A (o::l) (q::qs) A'
theorem nthR_newL {ops:Array Oper} {qs:List Pd} {L:Lst}:∀{i:Nat},(∀j,j<i→∃d q,(ops[j]?).bind (·.dst)=some d∧qs[j]?=some q)→∀j d q,j<i→(ops[j]?).bind (·.dst)=some d→qs[j]?=some q→nthR (zon ops qs i L) (Nat.sub (Nat.sub i 1) j)=some (d,q)
 | 0,_,j,d,q,hj,_,_=>by omega
 | i+1,hall,j,d,q,hj,hd,hq=>by
  obtain ⟨d',q',h1,h2⟩:=hall i (by omega);unfold zon;rw [h1,h2]
  by_cases hji:j=i
  ·subst hji;rw [h1] at hd;rw [h2] at hq;cases hd;cases hq;have e:Nat.sub (Nat.sub (j+1) 1) j=0:=by show j+1-1-j=0;omega
   rw [e]
  ·have e:Nat.sub (Nat.sub (i+1) 1) j=Nat.sub (Nat.sub i 1) j+1:=by show i+1-1-j=i-1-j+1;omega
   rw [e];exact nthR_newL (fun j hj=>hall j (by omega)) j d q (by omega) hd hq
theorem depA_eq {ops:Array Oper} {qs:List Pd} {L:Lst} {i:Nat} (hall:∀j,j<i→∃d q,(ops[j]?).bind (·.dst)=some d∧qs[j]?=some q):∀es:List Edge,(∀e∈es,Region.binds .any e=true→e.on<i)→depA i (zon ops qs i L) L es=zk8 ops qs es L
 | [],_=>rfl
 | e::r,h=>by
  have ih:=depA_eq (L:=L) hall r fun e he=>h e (by simp [he]);unfold depA zk8;cases hb:Region.binds .any e
  ·rw [bnd_eq] at hb;rw [hb];simp only;exact ih
  ·have hlt:=h e (by simp) hb;obtain ⟨d,q,h1,h2⟩:=hall e.on hlt;rw [bnd_eq] at hb;rw [hb,nthR_newL hall e.on d q hlt h1 h2,h1,h2];simp only;rw [ih]
theorem AA.all {l0:List Oper} {n m:Nat} (hok:ze9 l0.toArray m n (L.map (·.1)) []=true):∀{l:List Oper} {i:Nat} {A A':Lst} {qs:List Pd},AA P l0.toArray L i A l qs A'→∀(pre:List Oper) (qp:List Pd),l0=pre++l→pre.length=i→qp.length=i→(∀j,j<i→∃d q,(l0[j]?).bind (·.dst)=some d∧qp[j]?=some q)→A=zon l0.toArray (qp++qs) i L →
  zbf P l0.toArray (qp++qs) L l qs∧A'=zon l0.toArray (qp++qs) (i+qs.length) L:=by
 intro l i A A' qs h
 induction h with
 | nil=>intro pre qp h1 h2 h3 h4 h5;exact ⟨zbf.nil,by simpa using h5⟩
 | cons h hd h2 ih=>
  rename_i i A A' o l q qs d
  intro pre qp h1 h2 h3 h4 h5;have e1:l0[i]?=some o:=by rw [h1,List.getElem?_append_right (by omega),show i-pre.length=0 by omega];rfl
  have hall:∀j,j<i→∃d q',((l0.toArray)[j]?).bind (·.dst)=some d∧(qp++q::qs)[j]?=some q':=fun j hj=>by
   obtain ⟨d,q',k1,k2⟩:=h4 j hj;exact ⟨d,q',by simpa using k1,by rw [List.getElem?_append_left (by omega)];exact k2⟩
  have hdep:∀e∈o.after.toList,Region.binds .any e=true→e.on<i:=by
   unfold ze9 at hok;rw [Bool.and_eq_true,List.all_eq_true] at hok;have hil:=(List.getElem?_eq_some_iff.1 e1).1;have:=List.all_eq_true.1 hok.2 i (by simpa using hil);rw [show (l0.toArray)[i]?=some o by simpa using e1] at this;simp only [Bool.and_eq_true,List.all_eq_true] at this;intro e he hb;have:=this.1 e he;simp only [hb,Bool.not_true,Bool.false_or] at this;exact Nat.le_of_ble_eq_true this
  have e2:=ih (pre++[o]) (qp++[q]) (by rw [h1,List.append_assoc];rfl) (by simp [h2]) (by simp [h3]) (fun j hj=>by
   by_cases hji:j=i
   ·subst hji;exact ⟨d,q,by rw [e1];exact hd,by rw [List.getElem?_append_right (by omega),show j-qp.length=0 by omega];rfl⟩
   ·obtain ⟨d,q',k1,k2⟩:=h4 j (by omega);exact ⟨d,q',k1,by rw [List.getElem?_append_left (by omega)];exact k2⟩) (by
   rw [List.append_assoc];show (d,q)::A=zon l0.toArray (qp++q::qs) (i+1) L;unfold zon;have k1:((l0.toArray)[i]?).bind (·.dst)=some d:=by rw [show (l0.toArray)[i]?=some o by simpa using e1];exact hd
   have k2:(qp++q::qs)[i]?=some q:=by rw [List.getElem?_append_right (by omega),show i-qp.length=0 by omega];rfl
   rw [k1,k2,h5])
  rw [List.append_assoc] at e2;refine ⟨zbf.cons ?_ e2.1, ?_⟩
  ·rw [← depA_eq hall _ hdep,← h5];exact h
  ·rw [e2.2];show zon l0.toArray (qp++q::qs) (i+1+qs.length) L=zon l0.toArray (qp++q::qs) (i+(q::qs).length) L;rw [List.length_cons];congr 1;omega
class TA (P:Program) (ops:Array Oper) (L:Lst) (i m:Nat) (p:Prop) (A:Lst) (l:List Oper) (qs:outParam (List Pd)) (A':outParam Lst) (r:outParam Prop):Prop where
 h:p→r→AA P ops L i A l qs A'
section
variable {o : Op} {l : List Oper} {q : Pd} {qs : List Pd} {A A' : Lst} {d i m : Nat} {r1 r2 r p p1 : Prop} {ty : TypeId} {ps : String} {af : List Edge} {g : Option (Nat × Bool)}
instance ta0:TA P ops L i 0 True A l [] A True:=⟨fun _ _=>.nil⟩
instance ta1 [j:TO True P ops ⟨some d,o,ty,ps,af.toArray,g⟩ (depA i A L af) q r1] [k:TA P ops L (i+1) m p ((d,q)::A) l qs A' r2] [z:Cj r1 r2 r]:TA P ops L i (m+1) p A (⟨some d,o,ty,ps,af.toArray,g⟩::l) (q::qs) A' r:=⟨fun hp hr=>.cons (j.h (z.h hr).1 trivial) rfl (k.h hp (z.h hr).2)⟩
instance ta2 [j:TH p1 True P ops ⟨some d,o,ty,ps,af.toArray,g⟩ (depA i A L af) q] [k:TA P ops L (i+1) m p ((d,q)::A) l qs A' r]:TA P ops L i (m+1) (p1∧p) A (⟨some d,o,ty,ps,af.toArray,g⟩::l) (q::qs) A' r:=⟨fun hp hr=>.cons (j.h hp.1 trivial) rfl (k.h hp.2 hr)⟩
end
class Dp (m:Nat) (l:List Oper) (l':outParam (List Oper)):Prop where
 h:l.drop m=l'
instance dp0 {l:List Oper}:Dp 0 l l:=⟨rfl⟩
instance dp1 {m:Nat} {o:Oper} {l l':List Oper} [h:Dp m l l']:Dp (m+1) (o::l) l':=⟨by rw [List.drop_succ_cons];exact h.h⟩
theorem dp {m:Nat} {l l':List Oper} [i:Dp m l l'] (h:wpList P ops Q l' a s.w):wpList P ops Q (l.drop m) a s.w:=i.h ▸ h
theorem rdx {l':List Oper} {r p:Prop} {qs:List Pd} (m:Nat) (hp:p) (hL:Has M n s0 a s L) (hB:∀a' s',Has M n s0 a' s' L'→wpList P l.toArray Q l' a' s'.w) [i:TA P l.toArray L 0 m p L l qs L' r] [j:Dp m l l'] (hr:r:=by exact rr)
  (hf:P.follows .mixedOrders=true:=by exact zc1) (hok:ze9 l.toArray m n (L.map (·.1)) []=true:=by kernel_rfl) (hq:Nat.beq qs.length m=true:=by rfl) (hm:Nat.ble m l.length=true:=by rfl):(Code.region id l.toArray true).wp P Q a s.w:=by
 have h:=AA.all hok (i.h hp hr) [] [] rfl rfl rfl (fun j hj=>by omega) rfl;refine rda hf m qs hL hok hq hm h.1 fun a s _ hL=>dp (hB a s ?_);have e:=h.2;rw [Nat.zero_add,Nat.eq_of_beq_eq_true hq] at e;rw [e];exact hL
theorem cn {t:Nat} {b:Bool} {x y:Code} {A B:Prop} (hL:Has M n s0 a s L) (h:(b=true→A)∧(b=false→B)) (h1:A→x.wp P Q a s.w) (h2:B→y.wp P Q a s.w) (hl:lk L t=some (Pd.rep En.bool b):=by rfl):(Code.cond (.tmp t) x y).wp P Q a s.w:=cnd hL hl (fun e=>h1 (h.1 e)) (fun e=>h2 (h.2 e))
section
variable {α : Type} {E : En α} {te g : Nat} {og : Option Nat} {xs : List α} {x : α}
theorem fzl (t:Nat) (hL:Has M n s0 a s L) (k:∀s',Has M n s0 a s' ((t,Pd.rep (En.slice E) xs)::L')→wpList P ops Q l a s'.w) (hl:lk L t=some (Pd.row E s0.w.heap.size te og xs):=by rfl) (hk:Kp (fun b=>og=some b) L L':=by exact ka):wpList P ops Q l a s.w:=by
 obtain ⟨s',hw,h⟩:=hL.freeze t hl hk;rw [← hw];exact k s' h
theorem fzc (t:Nat) (hL:Has M n s0 a s L) (k:∀s',Has M n s0 a s' ((t,Pd.rep (En.slice E) xs)::L')→b.wp P Q a s'.w) (hl:lk L t=some (Pd.row E s0.w.heap.size te og xs):=by rfl) (hk:Kp (fun b=>og=some b) L L':=by exact ka):b.wp P Q a s.w:=by
 obtain ⟨s',hw,h⟩:=hL.freeze t hl hk;rw [← hw];exact k s' h
theorem fbc (t:Nat) (hL:Has M n s0 a s L) (k:∀s',Has M n s0 a s' ((t,Pd.ptr E x)::L')→b.wp P Q a s'.w) (hl:lk L t=some (Pd.box E s0.w.heap.size g x):=by rfl) (hk:Kp (fun b=>some g=some b) L L':=by exact ka):b.wp P Q a s.w:=by
 obtain ⟨s',hw,h⟩:=hL.freezeb t hl hk;rw [← hw];exact k s' h
end
theorem lpn {c:Code} (I:Nat→Act→St→Prop) (k0:Nat) (h0:I k0 a s)
  (round:∀k a s,I (k+1) a s→∀K:Act→World→Prop,(∀a' s',I k a' s'→K a' s'.w)→c.wp P (Exit.then K Q) a s.w) (hz:∀a s,I 0 a s→False:=by intro a s h;repeat (obtain ⟨_,h⟩:=h)):(Code.loop c).wp P Q a s.w:=
 lpg I k0 h0 fun k a s h K hK=>match k,h with
  | 0,h=>(hz a s h).elim
  | k+1,h=>round k a s h K fun a' s' h'=>hK k a' s' (Nat.lt_succ_self k) h'
end
end
end Go.Proofs.YtkbboemafklkkaaGreatDoor.V
namespace Go.Proofs.YtkbboemafklkkaaGreatDoor.V
open Go
set_option linter.unusedVariables false
set_option maxRecDepth 100000
section
variable {u : Bool} [Dr u]
noncomputable abbrev En.SItem:En SItem:=(En.cat (En.int .i64) (En.cat (En.int .i64) (En.cat (En.int .i64) (En.int .i64))))
noncomputable abbrev En.Sthing_apart:En Sthing_apart:=(En.cat (En.slice (En.slice En.SItem)) (En.cat (En.slice (En.slice En.SItem)) (En.int .i64)))
noncomputable abbrev EnF103:En (Sthing_apart × Str→Prop):=En.fun Tryz.prog (fun q=>[Pd.rep En.Sthing_apart q.1]) (fun q=>Rq (Pd.rep En.str q.2))
noncomputable abbrev En.SOn_scantling_apart_thing_search:En SOn_scantling_apart_thing_search:=(En.cat (En.int .u8) En.Sthing_apart)
noncomputable abbrev EnF104:En (Sthing_apart × (List SOn_scantling_apart_thing_search)→Prop):=En.fun Tryz.prog (fun q=>[Pd.rep En.Sthing_apart q.1]) (fun q=>Rq (Pd.rep (En.slice En.SOn_scantling_apart_thing_search) q.2))
noncomputable abbrev EnF105:En (Sthing_apart × Bool→Prop):=En.fun Tryz.prog (fun q=>[Pd.rep En.Sthing_apart q.1]) (fun q=>Rq (Pd.rep En.bool q.2))
noncomputable abbrev EnF135:En ((List SItem) × Bool→Prop):=En.fun Tryz.prog (fun q=>[Pd.rep (En.slice En.SItem) q.1]) (fun q=>Rq (Pd.rep En.bool q.2))
noncomputable abbrev EnF201:En (SItem × SItem × Int→Prop):=En.fun Tryz.prog (fun q=>[Pd.rep En.SItem q.1,Pd.rep En.SItem q.2.1]) (fun q=>Rq (Pd.rep (En.int .i64) q.2.2))
noncomputable abbrev EnF260:En (Cl × Int→Prop):=En.fun Tryz.prog (fun q=>[Pd.rep En.cls q.1]) (fun q=>Rq (Pd.rep (En.int .i64) q.2))
noncomputable abbrev EnF262:En (Cl × Cl × Int→Prop):=En.fun Tryz.prog (fun q=>[Pd.rep En.cls q.1,Pd.rep En.cls q.2.1]) (fun q=>Rq (Pd.rep (En.int .i64) q.2.2))
noncomputable abbrev En.SNode:En SNode:=(En.cat (En.int .i64) (En.cat (En.int .i64) (En.cat (En.int .i64) (En.cat (En.int .i64) (En.cat (En.int .i64) (En.cat En.cls En.str))))))
noncomputable abbrev En.SDesc:En SDesc:=En.solo (En.slice En.SNode)
noncomputable abbrev En.SVerdict:En SVerdict:=(En.cat (En.int .i64) (En.cat (En.slice (En.int .u8)) (En.cat (En.slice (En.int .u8)) (En.cat (En.int .i64) (En.cat (En.int .i64) (En.cat (En.int .i64) (En.int .i64)))))))
noncomputable abbrev En.Sboth_apart:En Sboth_apart:=(En.cat En.SDesc En.SDesc)
noncomputable abbrev En.SFound_scantling_apart_thing_search:En SFound_scantling_apart_thing_search:=(En.cat En.SVerdict En.Sthing_apart)
noncomputable abbrev En.SSpace_scantling_apart_thing_search:En SSpace_scantling_apart_thing_search:=(En.cat En.Sthing_apart (En.cat EnF103 (En.cat EnF104 EnF105)))
noncomputable abbrev En.SBranch:En SBranch:=(En.cat (En.slice En.SItem) (En.int .i64))
noncomputable abbrev En.Smade_scantling_apart_thing_search:En Smade_scantling_apart_thing_search:=(En.cat En.Sthing_apart (En.cat (En.int .i64) (En.int .u8)))
noncomputable abbrev En.Sstep_next:En Sstep_next:=(En.cat En.SNode (En.cat En.SItem (En.int .u8)))
theorem ty3:Ty Tryz.prog 3 (En.int .i64):=⟨⟨_,_,rfl,rfl,rfl,rfl,by decide⟩,_,rfl,rfl⟩
theorem ty4:Ty Tryz.prog 4 En.bool:=⟨⟨_,_,rfl,rfl,rfl,rfl,by decide⟩,_,rfl,rfl⟩
theorem ty5:Ty Tryz.prog 5 (En.int .u8):=⟨⟨_,_,rfl,rfl,rfl,rfl,by decide⟩,_,rfl,rfl⟩
theorem ty9:Ty Tryz.prog 9 En.str:=⟨⟨_,_,rfl,rfl,rfl,rfl,by decide⟩,_,rfl,rfl⟩
theorem ty22:Ty Tryz.prog 22 (En.slice En.SNode):=⟨⟨_,_,rfl,rfl,rfl,rfl,by decide⟩,_,rfl,rfl⟩
theorem ty24:Ty Tryz.prog 24 En.SDesc:=⟨⟨_,_,rfl,rfl,rfl,rfl,by decide⟩,_,rfl,rfl⟩
theorem ty25:Ty Tryz.prog 25 (En.slice (En.int .u8)):=⟨⟨_,_,rfl,rfl,rfl,rfl,by decide⟩,_,rfl,rfl⟩
theorem ty31:Ty Tryz.prog 31 En.SVerdict:=⟨⟨_,_,rfl,rfl,rfl,rfl,by decide⟩,_,rfl,rfl⟩
theorem ty36:Ty Tryz.prog 36 (En.int .u64):=⟨⟨_,_,rfl,rfl,rfl,rfl,by decide⟩,_,rfl,rfl⟩
theorem zf8:Ty Tryz.prog 38 En.cls:=⟨⟨_,_,rfl,rfl,rfl,rfl,by decide⟩,_,rfl,rfl⟩
theorem ty40:Ty Tryz.prog 40 En.SNode:=⟨⟨_,_,rfl,rfl,rfl,rfl,by decide⟩,_,rfl,rfl⟩
theorem ty62:Ty Tryz.prog 62 (En.slice En.SItem):=⟨⟨_,_,rfl,rfl,rfl,rfl,by decide⟩,_,rfl,rfl⟩
theorem ty78:Ty Tryz.prog 78 (En.slice (En.slice En.SItem)):=⟨⟨_,_,rfl,rfl,rfl,rfl,by decide⟩,_,rfl,rfl⟩
theorem ty98:Ty Tryz.prog 98 En.Sboth_apart:=⟨⟨_,_,rfl,rfl,rfl,rfl,by decide⟩,_,rfl,rfl⟩
theorem ty100:Ty Tryz.prog 100 En.Sthing_apart:=⟨⟨_,_,rfl,rfl,rfl,rfl,by decide⟩,_,rfl,rfl⟩
theorem ty102:Ty Tryz.prog 102 En.SFound_scantling_apart_thing_search:=⟨⟨_,_,rfl,rfl,rfl,rfl,by decide⟩,_,rfl,rfl⟩
theorem ty103:Ty Tryz.prog 103 EnF103:=⟨⟨_,_,rfl,rfl,rfl,rfl,by decide⟩,_,rfl,rfl⟩
theorem ty104:Ty Tryz.prog 104 EnF104:=⟨⟨_,_,rfl,rfl,rfl,rfl,by decide⟩,_,rfl,rfl⟩
theorem ty105:Ty Tryz.prog 105 EnF105:=⟨⟨_,_,rfl,rfl,rfl,rfl,by decide⟩,_,rfl,rfl⟩
theorem zie:Ty Tryz.prog 114 En.SItem:=⟨⟨_,_,rfl,rfl,rfl,rfl,by decide⟩,_,rfl,rfl⟩
theorem ty137:Ty Tryz.prog 137 (En.slice En.cls):=⟨⟨_,_,rfl,rfl,rfl,rfl,by decide⟩,_,rfl,rfl⟩
theorem ty144:Ty Tryz.prog 144 En.SBranch:=⟨⟨_,_,rfl,rfl,rfl,rfl,by decide⟩,_,rfl,rfl⟩
theorem ty156:Ty Tryz.prog 156 En.SOn_scantling_apart_thing_search:=⟨⟨_,_,rfl,rfl,rfl,rfl,by decide⟩,_,rfl,rfl⟩
theorem ty159:Ty Tryz.prog 159 En.Smade_scantling_apart_thing_search:=⟨⟨_,_,rfl,rfl,rfl,rfl,by decide⟩,_,rfl,rfl⟩
theorem ty260:Ty Tryz.prog 260 EnF260:=⟨⟨_,_,rfl,rfl,rfl,rfl,by decide⟩,_,rfl,rfl⟩
theorem zp3:TyZ Tryz.prog 24 En.SDesc ([]:SDesc):=⟨_,_,[.slice none 0 0],rfl,rfl,by rfl,fun _ _=>⟨_,rfl,zc9 _ _ _⟩⟩
theorem zlb:TyZ Tryz.prog 31 En.SVerdict ((0,[],[],0,0,0,0):SVerdict):=⟨_,_,([.int .i64 0]++([.slice none 0 0]++([.slice none 0 0]++([.int .i64 0]++([.int .i64 0]++([.int .i64 0]++[.int .i64 0])))))),rfl,rfl,by rfl,fun _ _=>⟨_,_,rfl,⟨rfl,by decide⟩,⟨_,_,rfl,⟨_,rfl,zc9 _ _ _⟩,⟨_,_,rfl,⟨_,rfl,zc9 _ _ _⟩,⟨_,_,rfl,⟨rfl,by decide⟩,⟨_,_,rfl,⟨rfl,by decide⟩,⟨_,_,rfl,⟨rfl,by decide⟩,⟨rfl,by decide⟩⟩⟩⟩⟩⟩⟩⟩
theorem zmz:TyZ Tryz.prog 38 En.cls ((0#256):Cl):=⟨_,_,zbu 0#256,rfl,rfl,by rfl,fun _ _=>rfl⟩
theorem zme:TyZ Tryz.prog 40 En.SNode ((0,0,0,0,0,(0#256),([]:Str)):SNode):=⟨_,_,([.int .i64 0]++([.int .i64 0]++([.int .i64 0]++([.int .i64 0]++([.int .i64 0]++(zbu 0#256++[.string ⟨#[]⟩])))))),rfl,rfl,by rfl,fun _ _=>⟨_,_,rfl,⟨rfl,by decide⟩,⟨_,_,rfl,⟨rfl,by decide⟩,⟨_,_,rfl,⟨rfl,by decide⟩,⟨_,_,rfl,⟨rfl,by decide⟩,⟨_,_,rfl,⟨rfl,by decide⟩,⟨_,_,rfl,rfl,⟨rfl,by decide⟩⟩⟩⟩⟩⟩⟩⟩
theorem tyz98:TyZ Tryz.prog 98 En.Sboth_apart (([],[]):Sboth_apart):=⟨_,_,([.slice none 0 0]++[.slice none 0 0]),rfl,rfl,by rfl,fun _ _=>⟨_,_,rfl,⟨_,rfl,zc9 _ _ _⟩,⟨_,rfl,zc9 _ _ _⟩⟩⟩
theorem zm0:TyZ Tryz.prog 100 En.Sthing_apart (([],[],0):Sthing_apart):=⟨_,_,([.slice none 0 0]++([.slice none 0 0]++[.int .i64 0])),rfl,rfl,by rfl,fun _ _=>⟨_,_,rfl,⟨_,rfl,zc9 _ _ _⟩,⟨_,_,rfl,⟨_,rfl,zc9 _ _ _⟩,⟨rfl,by decide⟩⟩⟩⟩
theorem tyz102:TyZ Tryz.prog 102 En.SFound_scantling_apart_thing_search (((0,[],[],0,0,0,0),([],[],0)):SFound_scantling_apart_thing_search):=⟨_,_,(([.int .i64 0]++([.slice none 0 0]++([.slice none 0 0]++([.int .i64 0]++([.int .i64 0]++([.int .i64 0]++[.int .i64 0]))))))++([.slice none 0 0]++([.slice none 0 0]++[.int .i64 0]))),rfl,rfl,by rfl,fun _ _=>⟨_,_,rfl,⟨_,_,rfl,⟨rfl,by decide⟩,⟨_,_,rfl,⟨_,rfl,zc9 _ _ _⟩,⟨_,_,rfl,⟨_,rfl,zc9 _ _ _⟩,⟨_,_,rfl,⟨rfl,by decide⟩,⟨_,_,rfl,⟨rfl,by decide⟩,⟨_,_,rfl,⟨rfl,by decide⟩,⟨rfl,by decide⟩⟩⟩⟩⟩⟩⟩,⟨_,_,rfl,⟨_,rfl,zc9 _ _ _⟩,⟨_,_,rfl,⟨_,rfl,zc9 _ _ _⟩,⟨rfl,by decide⟩⟩⟩⟩⟩
theorem tyz107:TyZ Tryz.prog 107 En.SSpace_scantling_apart_thing_search ((([],[],0),(fun _=>False),(fun _=>False),(fun _=>False)):SSpace_scantling_apart_thing_search):=⟨_,_,(([.slice none 0 0]++([.slice none 0 0]++[.int .i64 0]))++([.nilFunc]++([.nilFunc]++[.nilFunc]))),rfl,rfl,by rfl,fun _ _=>⟨_,_,rfl,⟨_,_,rfl,⟨_,rfl,zc9 _ _ _⟩,⟨_,_,rfl,⟨_,rfl,zc9 _ _ _⟩,⟨rfl,by decide⟩⟩⟩,⟨_,_,rfl,.inl ⟨rfl,fun _ h=>h⟩,⟨_,_,rfl,.inl ⟨rfl,fun _ h=>h⟩,.inl ⟨rfl,fun _ h=>h⟩⟩⟩⟩⟩
theorem zf2:TyZ Tryz.prog 114 En.SItem ((0,0,0,0):SItem):=⟨_,_,([.int .i64 0]++([.int .i64 0]++([.int .i64 0]++[.int .i64 0]))),rfl,rfl,by rfl,fun _ _=>⟨_,_,rfl,⟨rfl,by decide⟩,⟨_,_,rfl,⟨rfl,by decide⟩,⟨_,_,rfl,⟨rfl,by decide⟩,⟨rfl,by decide⟩⟩⟩⟩⟩
theorem zjq:TyZ Tryz.prog 144 En.SBranch (([],0):SBranch):=⟨_,_,([.slice none 0 0]++[.int .i64 0]),rfl,rfl,by rfl,fun _ _=>⟨_,_,rfl,⟨_,rfl,zc9 _ _ _⟩,⟨rfl,by decide⟩⟩⟩
theorem zo9:TyZ Tryz.prog 156 En.SOn_scantling_apart_thing_search ((0,([],[],0)):SOn_scantling_apart_thing_search):=⟨_,_,([.int .u8 0]++([.slice none 0 0]++([.slice none 0 0]++[.int .i64 0]))),rfl,rfl,by rfl,fun _ _=>⟨_,_,rfl,⟨rfl,by decide⟩,⟨_,_,rfl,⟨_,rfl,zc9 _ _ _⟩,⟨_,_,rfl,⟨_,rfl,zc9 _ _ _⟩,⟨rfl,by decide⟩⟩⟩⟩⟩
theorem tyz159:TyZ Tryz.prog 159 En.Smade_scantling_apart_thing_search ((([],[],0),0,0):Smade_scantling_apart_thing_search):=⟨_,_,(([.slice none 0 0]++([.slice none 0 0]++[.int .i64 0]))++([.int .i64 0]++[.int .u8 0])),rfl,rfl,by rfl,fun _ _=>⟨_,_,rfl,⟨_,_,rfl,⟨_,rfl,zc9 _ _ _⟩,⟨_,_,rfl,⟨_,rfl,zc9 _ _ _⟩,⟨rfl,by decide⟩⟩⟩,⟨_,_,rfl,⟨rfl,by decide⟩,⟨rfl,by decide⟩⟩⟩⟩
theorem tyz223:TyZ Tryz.prog 223 En.Sstep_next (((0,0,0,0,0,(0#256),([]:Str)),(0,0,0,0),0):Sstep_next):=⟨_,_,(([.int .i64 0]++([.int .i64 0]++([.int .i64 0]++([.int .i64 0]++([.int .i64 0]++(zbu 0#256++[.string ⟨#[]⟩]))))))++(([.int .i64 0]++([.int .i64 0]++([.int .i64 0]++[.int .i64 0])))++[.int .u8 0])),rfl,rfl,by rfl,fun _ _=>⟨_,_,rfl,⟨_,_,rfl,⟨rfl,by decide⟩,⟨_,_,rfl,⟨rfl,by decide⟩,⟨_,_,rfl,⟨rfl,by decide⟩,⟨_,_,rfl,⟨rfl,by decide⟩,⟨_,_,rfl,⟨rfl,by decide⟩,⟨_,_,rfl,rfl,⟨rfl,by decide⟩⟩⟩⟩⟩⟩⟩,⟨_,_,rfl,⟨_,_,rfl,⟨rfl,by decide⟩,⟨_,_,rfl,⟨rfl,by decide⟩,⟨_,_,rfl,⟨rfl,by decide⟩,⟨rfl,by decide⟩⟩⟩⟩,⟨rfl,by decide⟩⟩⟩⟩
theorem tyz260:TyZ Tryz.prog 260 EnF260 ((fun _=>False):(Cl × Int→Prop)):=⟨_,_,[.nilFunc],rfl,rfl,by rfl,fun _ _=>.inl ⟨rfl,fun _ h=>h⟩⟩
theorem tyv3:TyV Tryz.prog 3 (En.int .i64) (0:Int):=⟨_,[.int .i64 0],rfl,by rfl,fun _ _=>⟨rfl,by decide⟩⟩
theorem tyv4:TyV Tryz.prog 4 En.bool (false:Bool):=⟨_,[.bool false],rfl,by rfl,fun _ _=>(by rfl)⟩
theorem stt24:Stt Tryz.prog 24 [(0,1)]:=⟨_,Tryz.underlying24,by kernel_rfl⟩
theorem stt31:Stt Tryz.prog 31 [(0,1),(1,1),(2,1),(3,1),(4,1),(5,1),(6,1)]:=⟨_,Tryz.underlying31,by kernel_rfl⟩
theorem stt40:Stt Tryz.prog 40 [(0,1),(1,1),(2,1),(3,1),(4,1),(5,4),(9,1)]:=⟨_,Tryz.underlying40,by kernel_rfl⟩
theorem stt98:Stt Tryz.prog 98 [(0,1),(1,1)]:=⟨_,Tryz.underlying98,by kernel_rfl⟩
theorem zpe:Stt Tryz.prog 100 [(0,1),(1,1),(2,1)]:=⟨_,Tryz.underlying100,by kernel_rfl⟩
theorem stt102:Stt Tryz.prog 102 [(0,7),(7,3)]:=⟨_,Tryz.underlying102,by kernel_rfl⟩
theorem stt107:Stt Tryz.prog 107 [(0,3),(3,1),(4,1),(5,1)]:=⟨_,Tryz.underlying107,by kernel_rfl⟩
theorem zly:Stt Tryz.prog 114 [(0,1),(1,1),(2,1),(3,1)]:=⟨_,Tryz.underlying114,by kernel_rfl⟩
theorem stt144:Stt Tryz.prog 144 [(0,1),(1,1)]:=⟨_,Tryz.underlying144,by kernel_rfl⟩
theorem stt156:Stt Tryz.prog 156 [(0,1),(1,3)]:=⟨_,Tryz.underlying156,by kernel_rfl⟩
theorem stt159:Stt Tryz.prog 159 [(0,3),(3,1),(4,1)]:=⟨_,Tryz.underlying159,by kernel_rfl⟩
theorem stt223:Stt Tryz.prog 223 [(0,10),(10,4),(14,1)]:=⟨_,Tryz.underlying223,by kernel_rfl⟩
instance ud3:Ud Tryz.prog 3 (.int .i64):=⟨Tryz.underlying3⟩
instance ud5:Ud Tryz.prog 5 (.int .u8):=⟨Tryz.underlying5⟩
instance ud9:Ud Tryz.prog 9 (.string):=⟨Tryz.underlying9⟩
instance ud22:Ud Tryz.prog 22 (.slice 40):=⟨Tryz.underlying22⟩
instance ud25:Ud Tryz.prog 25 (.slice 5):=⟨Tryz.underlying25⟩
instance ud38:Ud Tryz.prog 38 (.array 4 36):=⟨Tryz.underlying38⟩
instance ud61:Ud Tryz.prog 61 (.slice 114):=⟨Tryz.underlying61⟩
instance ud62:Ud Tryz.prog 62 (.slice 114):=⟨Tryz.underlying62⟩
instance ud75:Ud Tryz.prog 75 (.slice 3):=⟨Tryz.underlying75⟩
instance ud78:Ud Tryz.prog 78 (.slice 62):=⟨Tryz.underlying78⟩
instance ud125:Ud Tryz.prog 125 (.map 9 4):=⟨Tryz.underlying125⟩
instance ud137:Ud Tryz.prog 137 (.slice 38):=⟨Tryz.underlying137⟩
instance ud140:Ud Tryz.prog 140 (.map 9 62):=⟨Tryz.underlying140⟩
instance ud141:Ud Tryz.prog 141 (.slice 144):=⟨Tryz.underlying141⟩
instance ud153:Ud Tryz.prog 153 (.slice 156):=⟨Tryz.underlying153⟩
instance ud160:Ud Tryz.prog 160 (.slice 159):=⟨Tryz.underlying160⟩
instance ud188:Ud Tryz.prog 188 (.map 38 4):=⟨Tryz.underlying188⟩
instance ud190:Ud Tryz.prog 190 (.map 9 3):=⟨Tryz.underlying190⟩
instance ud197:Ud Tryz.prog 197 (.int .u64):=⟨Tryz.underlying197⟩
instance ud280:Ud Tryz.prog 280 (.slice 137):=⟨Tryz.underlying280⟩
instance ud285:Ud Tryz.prog 285 (.array 10 4):=⟨Tryz.underlying285⟩
instance us36:Us Tryz.prog 36 1:=⟨by rfl⟩
instance tq3:Tq Tryz.prog 3 (En.int .i64):=⟨ty3⟩
instance tq4:Tq Tryz.prog 4 En.bool:=⟨ty4⟩
instance tq5:Tq Tryz.prog 5 (En.int .u8):=⟨ty5⟩
instance tq9:Tq Tryz.prog 9 En.str:=⟨ty9⟩
instance tq22:Tq Tryz.prog 22 (En.slice En.SNode):=⟨ty22⟩
instance tq24:Tq Tryz.prog 24 En.SDesc:=⟨ty24⟩
instance tq25:Tq Tryz.prog 25 (En.slice (En.int .u8)):=⟨ty25⟩
instance tq31:Tq Tryz.prog 31 En.SVerdict:=⟨ty31⟩
instance tq36:Tq Tryz.prog 36 (En.int .u64):=⟨ty36⟩
instance tq38:Tq Tryz.prog 38 En.cls:=⟨zf8⟩
instance tq40:Tq Tryz.prog 40 En.SNode:=⟨ty40⟩
instance tq62:Tq Tryz.prog 62 (En.slice En.SItem):=⟨ty62⟩
instance tq78:Tq Tryz.prog 78 (En.slice (En.slice En.SItem)):=⟨ty78⟩
instance tq98:Tq Tryz.prog 98 En.Sboth_apart:=⟨ty98⟩
instance tq100:Tq Tryz.prog 100 En.Sthing_apart:=⟨ty100⟩
instance tq102:Tq Tryz.prog 102 En.SFound_scantling_apart_thing_search:=⟨ty102⟩
instance tq103:Tq Tryz.prog 103 EnF103:=⟨ty103⟩
instance tq104:Tq Tryz.prog 104 EnF104:=⟨ty104⟩
instance tq105:Tq Tryz.prog 105 EnF105:=⟨ty105⟩
instance tq114:Tq Tryz.prog 114 En.SItem:=⟨zie⟩
instance tq137:Tq Tryz.prog 137 (En.slice En.cls):=⟨ty137⟩
instance tq144:Tq Tryz.prog 144 En.SBranch:=⟨ty144⟩
instance tq156:Tq Tryz.prog 156 En.SOn_scantling_apart_thing_search:=⟨ty156⟩
instance tq159:Tq Tryz.prog 159 En.Smade_scantling_apart_thing_search:=⟨ty159⟩
instance tq260:Tq Tryz.prog 260 EnF260:=⟨ty260⟩
instance fd24_0 {a:SDesc}:Fd Tryz.prog 24 0 En.SDesc a 0 (En.slice En.SNode) a:=⟨_,_,Tryz.underlying24,rfl,(zki (zy _ _)),rfl,ty22⟩
instance fd31_0 {a:SVerdict}:Fd Tryz.prog 31 0 En.SVerdict a 0 (En.int .i64) a.1:=⟨_,_,Tryz.underlying31,rfl,(zbg (zy _ _)),rfl,ty3⟩
instance fd31_1 {a:SVerdict}:Fd Tryz.prog 31 1 En.SVerdict a 1 (En.slice (En.int .u8)) a.2.1:=⟨_,_,Tryz.underlying31,rfl,(zp (zbg (zy _ _)) rfl),rfl,ty25⟩
instance fd31_2 {a:SVerdict}:Fd Tryz.prog 31 2 En.SVerdict a 2 (En.slice (En.int .u8)) a.2.2.1:=⟨_,_,Tryz.underlying31,rfl,(zp (zp (zbg (zy _ _)) rfl) rfl),rfl,ty25⟩
instance fd31_4 {a:SVerdict}:Fd Tryz.prog 31 4 En.SVerdict a 4 (En.int .i64) a.2.2.2.2.1:=⟨_,_,Tryz.underlying31,rfl,(zp (zp (zp (zp (zbg (zy _ _)) rfl) rfl) rfl) rfl),rfl,ty3⟩
instance fd31_6 {a:SVerdict}:Fd Tryz.prog 31 6 En.SVerdict a 6 (En.int .i64) a.2.2.2.2.2.2:=⟨_,_,Tryz.underlying31,rfl,(zp (zp (zp (zp (zp (zp (zy _ _) rfl) rfl) rfl) rfl) rfl) rfl),rfl,ty3⟩
instance fd40_0 {a:SNode}:Fd Tryz.prog 40 0 En.SNode a 0 (En.int .i64) a.1:=⟨_,_,Tryz.underlying40,rfl,(zbg (zy _ _)),rfl,ty3⟩
instance fd40_1 {a:SNode}:Fd Tryz.prog 40 1 En.SNode a 1 (En.int .i64) a.2.1:=⟨_,_,Tryz.underlying40,rfl,(zp (zbg (zy _ _)) rfl),rfl,ty3⟩
instance fd40_2 {a:SNode}:Fd Tryz.prog 40 2 En.SNode a 2 (En.int .i64) a.2.2.1:=⟨_,_,Tryz.underlying40,rfl,(zp (zp (zbg (zy _ _)) rfl) rfl),rfl,ty3⟩
instance fd40_3 {a:SNode}:Fd Tryz.prog 40 3 En.SNode a 3 (En.int .i64) a.2.2.2.1:=⟨_,_,Tryz.underlying40,rfl,(zp (zp (zp (zbg (zy _ _)) rfl) rfl) rfl),rfl,ty3⟩
instance fd40_4 {a:SNode}:Fd Tryz.prog 40 4 En.SNode a 4 (En.int .i64) a.2.2.2.2.1:=⟨_,_,Tryz.underlying40,rfl,(zp (zp (zp (zp (zbg (zy _ _)) rfl) rfl) rfl) rfl),rfl,ty3⟩
instance fd40_5 {a:SNode}:Fd Tryz.prog 40 5 En.SNode a 5 En.cls a.2.2.2.2.2.1:=⟨_,_,Tryz.underlying40,rfl,(zp (zp (zp (zp (zp (zbg (zy _ _)) rfl) rfl) rfl) rfl) rfl),rfl,zf8⟩
instance fd40_6 {a:SNode}:Fd Tryz.prog 40 6 En.SNode a 9 En.str a.2.2.2.2.2.2:=⟨_,_,Tryz.underlying40,rfl,(zp (zp (zp (zp (zp (zp (zy _ _) rfl) rfl) rfl) rfl) rfl) rfl),rfl,ty9⟩
instance fd98_0 {a:Sboth_apart}:Fd Tryz.prog 98 0 En.Sboth_apart a 0 En.SDesc a.1:=⟨_,_,Tryz.underlying98,rfl,(zbg (zy _ _)),rfl,ty24⟩
instance fd98_1 {a:Sboth_apart}:Fd Tryz.prog 98 1 En.Sboth_apart a 1 En.SDesc a.2:=⟨_,_,Tryz.underlying98,rfl,(zp (zy _ _) rfl),rfl,ty24⟩
instance fd100_0 {a:Sthing_apart}:Fd Tryz.prog 100 0 En.Sthing_apart a 0 (En.slice (En.slice En.SItem)) a.1:=⟨_,_,Tryz.underlying100,rfl,(zbg (zy _ _)),rfl,ty78⟩
instance fd100_1 {a:Sthing_apart}:Fd Tryz.prog 100 1 En.Sthing_apart a 1 (En.slice (En.slice En.SItem)) a.2.1:=⟨_,_,Tryz.underlying100,rfl,(zp (zbg (zy _ _)) rfl),rfl,ty78⟩
instance fd100_2 {a:Sthing_apart}:Fd Tryz.prog 100 2 En.Sthing_apart a 2 (En.int .i64) a.2.2:=⟨_,_,Tryz.underlying100,rfl,(zp (zp (zy _ _) rfl) rfl),rfl,ty3⟩
instance fd102_0 {a:SFound_scantling_apart_thing_search}:Fd Tryz.prog 102 0 En.SFound_scantling_apart_thing_search a 0 En.SVerdict a.1:=⟨_,_,Tryz.underlying102,rfl,(zbg (zy _ _)),rfl,ty31⟩
instance fd102_1 {a:SFound_scantling_apart_thing_search}:Fd Tryz.prog 102 1 En.SFound_scantling_apart_thing_search a 7 En.Sthing_apart a.2:=⟨_,_,Tryz.underlying102,rfl,(zp (zy _ _) rfl),rfl,ty100⟩
instance fd107_0 {a:SSpace_scantling_apart_thing_search}:Fd Tryz.prog 107 0 En.SSpace_scantling_apart_thing_search a 0 En.Sthing_apart a.1:=⟨_,_,Tryz.underlying107,rfl,(zbg (zy _ _)),rfl,ty100⟩
instance fd107_1 {a:SSpace_scantling_apart_thing_search}:Fd Tryz.prog 107 1 En.SSpace_scantling_apart_thing_search a 3 EnF103 a.2.1:=⟨_,_,Tryz.underlying107,rfl,(zp (zbg (zy _ _)) rfl),rfl,ty103⟩
instance fd107_2 {a:SSpace_scantling_apart_thing_search}:Fd Tryz.prog 107 2 En.SSpace_scantling_apart_thing_search a 4 EnF104 a.2.2.1:=⟨_,_,Tryz.underlying107,rfl,(zp (zp (zbg (zy _ _)) rfl) rfl),rfl,ty104⟩
instance fd107_3 {a:SSpace_scantling_apart_thing_search}:Fd Tryz.prog 107 3 En.SSpace_scantling_apart_thing_search a 5 EnF105 a.2.2.2:=⟨_,_,Tryz.underlying107,rfl,(zp (zp (zp (zy _ _) rfl) rfl) rfl),rfl,ty105⟩
instance fd114_0 {a:SItem}:Fd Tryz.prog 114 0 En.SItem a 0 (En.int .i64) a.1:=⟨_,_,Tryz.underlying114,rfl,(zbg (zy _ _)),rfl,ty3⟩
instance fd114_1 {a:SItem}:Fd Tryz.prog 114 1 En.SItem a 1 (En.int .i64) a.2.1:=⟨_,_,Tryz.underlying114,rfl,(zp (zbg (zy _ _)) rfl),rfl,ty3⟩
instance fd114_2 {a:SItem}:Fd Tryz.prog 114 2 En.SItem a 2 (En.int .i64) a.2.2.1:=⟨_,_,Tryz.underlying114,rfl,(zp (zp (zbg (zy _ _)) rfl) rfl),rfl,ty3⟩
instance fd114_3 {a:SItem}:Fd Tryz.prog 114 3 En.SItem a 3 (En.int .i64) a.2.2.2:=⟨_,_,Tryz.underlying114,rfl,(zp (zp (zp (zy _ _) rfl) rfl) rfl),rfl,ty3⟩
instance fd144_0 {a:SBranch}:Fd Tryz.prog 144 0 En.SBranch a 0 (En.slice En.SItem) a.1:=⟨_,_,Tryz.underlying144,rfl,(zbg (zy _ _)),rfl,ty62⟩
instance fd144_1 {a:SBranch}:Fd Tryz.prog 144 1 En.SBranch a 1 (En.int .i64) a.2:=⟨_,_,Tryz.underlying144,rfl,(zp (zy _ _) rfl),rfl,ty3⟩
instance fd156_0 {a:SOn_scantling_apart_thing_search}:Fd Tryz.prog 156 0 En.SOn_scantling_apart_thing_search a 0 (En.int .u8) a.1:=⟨_,_,Tryz.underlying156,rfl,(zbg (zy _ _)),rfl,ty5⟩
instance fd156_1 {a:SOn_scantling_apart_thing_search}:Fd Tryz.prog 156 1 En.SOn_scantling_apart_thing_search a 1 En.Sthing_apart a.2:=⟨_,_,Tryz.underlying156,rfl,(zp (zy _ _) rfl),rfl,ty100⟩
instance fd159_0 {a:Smade_scantling_apart_thing_search}:Fd Tryz.prog 159 0 En.Smade_scantling_apart_thing_search a 0 En.Sthing_apart a.1:=⟨_,_,Tryz.underlying159,rfl,(zbg (zy _ _)),rfl,ty100⟩
instance fd159_1 {a:Smade_scantling_apart_thing_search}:Fd Tryz.prog 159 1 En.Smade_scantling_apart_thing_search a 3 (En.int .i64) a.2.1:=⟨_,_,Tryz.underlying159,rfl,(zp (zbg (zy _ _)) rfl),rfl,ty3⟩
instance fd159_2 {a:Smade_scantling_apart_thing_search}:Fd Tryz.prog 159 2 En.Smade_scantling_apart_thing_search a 4 (En.int .u8) a.2.2:=⟨_,_,Tryz.underlying159,rfl,(zp (zp (zy _ _) rfl) rfl),rfl,ty5⟩
instance fd223_0 {a:Sstep_next}:Fd Tryz.prog 223 0 En.Sstep_next a 0 En.SNode a.1:=⟨_,_,Tryz.underlying223,rfl,(zbg (zy _ _)),rfl,ty40⟩
instance fd223_1 {a:Sstep_next}:Fd Tryz.prog 223 1 En.Sstep_next a 10 En.SItem a.2.1:=⟨_,_,Tryz.underlying223,rfl,(zp (zbg (zy _ _)) rfl),rfl,zie⟩
instance fd223_2 {a:Sstep_next}:Fd Tryz.prog 223 2 En.Sstep_next a 14 (En.int .u8) a.2.2:=⟨_,_,Tryz.underlying223,rfl,(zp (zp (zy _ _) rfl) rfl),rfl,ty5⟩
theorem eqi40:EqI Tryz.prog 3 40 En.SNode:=eqi_struct rfl (by kernel_rfl) (by kernel_rfl) rfl (zhm (EqI.up (zoc Tryz.underlying3) (by decide)) ty3 (by kernel_rfl) (by kernel_rfl) (zhm (EqI.up (zoc Tryz.underlying3) (by decide)) ty3 (by kernel_rfl) (by kernel_rfl) (zhm (EqI.up (zoc Tryz.underlying3) (by decide)) ty3 (by kernel_rfl) (by kernel_rfl) (zhm (EqI.up (zoc Tryz.underlying3) (by decide)) ty3 (by kernel_rfl) (by kernel_rfl) (zhm (EqI.up (zoc Tryz.underlying3) (by decide)) ty3 (by kernel_rfl) (by kernel_rfl) (zhm (EqI.up (eqi_cls Tryz.underlying38 Tryz.underlying36 (by kernel_rfl)) (by decide)) zf8 (by kernel_rfl) (by kernel_rfl) (eqfs_last (EqI.up (eqi_str Tryz.underlying9) (by decide)) ty9 (by kernel_rfl) (by kernel_rfl))))))))
theorem eq40:Eqv Tryz.prog 40 En.SNode:=eqv_struct eqi40 (by decide) rfl (by kernel_rfl)
theorem zq8:KeyT Tryz.prog 38 En.cls kvCls:=key_cls Tryz.underlying38 Tryz.underlying36 (by kernel_rfl) (by kernel_rfl) (by kernel_rfl) ⟨_,rfl⟩ (by kernel_rfl) (by kernel_rfl)
end
end Go.Proofs.YtkbboemafklkkaaGreatDoor.V
namespace Go.Proofs.YtkbboemafklkkaaGreatDoor.V
open Go
set_option linter.unusedVariables false
def zg.j1 (r_:(List SItem)) (newslice8:(List SItem)):Prop:=r_=newslice8
def zg.l1 (slices_:(List (List SItem))) (X1:(List SItem)→Prop):Nat→(List SItem)→Int→Prop
 | 0,_,_=>False
 | k_0+1,newslice11,v13=>((decide (v13<(slices_.length:Int)))=true→∃e19:(List SItem),at? slices_ v13=some e19∧(newslice11.length+e19.length≤2147483648)∧(InR .i64 (v13+1))∧zg.l1 slices_ X1 k_0 (newslice11++e19) (v13+1))∧((decide (v13<(slices_.length:Int)))=false→X1 newslice11)
def zg.j2 (slices_:(List (List SItem))) (r_:(List SItem)) (size2:Int):Prop:=∃r4:(List SItem),zdp [] size2 r4∧∃k14,zg.l1 slices_ (zg.j1 r_) k14 r4 0
def zg.l2 (slices_:(List (List SItem))) (X2:Int→Prop):Nat→Int→Int→Prop
 | 0,_,_=>False
 | k_0+1,size24,v25=>((decide (v25<(slices_.length:Int)))=true→∃e31:(List SItem),at? slices_ v25=some e31∧(InR .i64 (size24+(e31.length:Int)))∧((decide (size24+(e31.length:Int)<0))=true→False)∧((decide (size24+(e31.length:Int)<0))=false→(InR .i64 (v25+1))∧zg.l2 slices_ X2 k_0 (size24+(e31.length:Int)) (v25+1)))∧((decide (v25<(slices_.length:Int)))=false→X2 size24)
def zg (slices_:(List (List SItem))) (r_:(List SItem)):Prop:=∃k26,zg.l2 slices_ (zg.j2 slices_ r_) k26 0 0
def zed (x_:Int) (r_:Bool):Prop:=r_=(x_ != x_)
def zcs (x_:Int) (y_:Int) (r_:Int):Prop:=∃r1:Bool,zed x_ r1∧∃r3:Bool,zed y_ r3∧((r1)=true→((r3)=true→r_=0)∧((r3)=false→r_=(-1)))∧((r1)=false→((r3)=true→r_=1)∧((r3)=false→((decide (x_<y_))=true→r_=(-1))∧((decide (x_<y_))=false→((decide (y_<x_))=true→r_=1)∧((decide (y_<x_))=false→r_=0))))
def zf.j1 (s1_:(List SItem)) (s2_:(List SItem)) (r_:Int):Prop:=((decide ((s1_.length:Int)<(s2_.length:Int)))=true→r_=(-1))∧((decide ((s1_.length:Int)<(s2_.length:Int)))=false→r_=0)
def zf.l1 (s1_:(List SItem)) (s2_:(List SItem)) (cmp_:(SItem × SItem × Int→Prop)) (r_:Int) (X1:Prop):Nat→Int→Prop
 | 0,_=>False
 | k_0+1,v4=>((decide (v4<(s1_.length:Int)))=true→∃e10:SItem,at? s1_ v4=some e10∧((decide ((s2_.length:Int)≤v4))=true→r_=1)∧((decide ((s2_.length:Int)≤v4))=false→∃e14:SItem,at? s2_ v4=some e14∧∃r18:Int,cmp_ (e10,e14,r18)∧(((r18 != 0))=true→r_=r18)∧(((r18 != 0))=false→(InR .i64 (v4+1))∧zf.l1 s1_ s2_ cmp_ r_ X1 k_0 (v4+1))))∧((decide (v4<(s1_.length:Int)))=false→X1)
def zf (s1_:(List SItem)) (s2_:(List SItem)) (cmp_:(SItem × SItem × Int→Prop)) (r_:Int):Prop:=∃k5,zf.l1 s1_ s2_ cmp_ r_ (zf.j1 s1_ s2_ r_) k5 0
def zck.j1 (r_:Int):Prop:=r_=0
def zck.l1 (vals_:(List Int)) (r_:Int) (X1:Prop):Nat→Int→Prop
 | 0,_=>False
 | k_0+1,v3=>((decide (v3<(vals_.length:Int)))=true→∃e9:Int,at? vals_ v3=some e9∧(((e9 != 0))=true→r_=e9)∧(((e9 != 0))=false→(InR .i64 (v3+1))∧zck.l1 vals_ r_ X1 k_0 (v3+1)))∧((decide (v3<(vals_.length:Int)))=false→X1)
def zck (vals_:(List Int)) (r_:Int):Prop:=∃k4,zck.l1 vals_ r_ (zck.j1 r_) k4 0
def zb1 (s_:(List SItem)) (r_:(List SItem)):Prop:=∀b2:Bool,(b2=true→s_=[])→((b2)=true→r_=([]:(List SItem)))∧((b2)=false→(([]:(List SItem)).length+s_.length≤2147483648)∧r_=([]:(List SItem))++s_)
def zm.j1 (r_:Int):Prop:=r_=(-1)
def zm.l1 (s_:(List (List SItem))) (f_:((List SItem) × Bool→Prop)) (r_:Int) (X1:Prop):Nat→Int→Prop
 | 0,_=>False
 | k_0+1,v3=>((decide (v3<(s_.length:Int)))=true→∃e9:(List SItem),at? s_ v3=some e9∧∃r11:Bool,f_ (e9,r11)∧((r11)=true→r_=v3)∧((r11)=false→(InR .i64 (v3+1))∧zm.l1 s_ f_ r_ X1 k_0 (v3+1)))∧((decide (v3<(s_.length:Int)))=false→X1)
def zm (s_:(List (List SItem))) (f_:((List SItem) × Bool→Prop)) (r_:Int):Prop:=∃k4,zm.l1 s_ f_ r_ (zm.j1 r_) k4 0
def zbl (s_:(List (List SItem))) (f_:((List SItem) × Bool→Prop)) (r_:Bool):Prop:=∃r1:Int,zm s_ f_ r1∧r_=decide (0≤r1)
def zh.j1 (r_:(List Cl)) (newslice8:(List Cl)):Prop:=r_=newslice8
def zh.l1 (slices_:(List (List Cl))) (X1:(List Cl)→Prop):Nat→(List Cl)→Int→Prop
 | 0,_,_=>False
 | k_0+1,newslice11,v13=>((decide (v13<(slices_.length:Int)))=true→∃e19:(List Cl),at? slices_ v13=some e19∧((newslice11.length+e19.length)*32≤140737488355328)∧(InR .i64 (v13+1))∧zh.l1 slices_ X1 k_0 (newslice11++e19) (v13+1))∧((decide (v13<(slices_.length:Int)))=false→X1 newslice11)
def zh.j2 (slices_:(List (List Cl))) (r_:(List Cl)) (size2:Int):Prop:=∃r4:(List Cl),zdl [] size2 r4∧∃k14,zh.l1 slices_ (zh.j1 r_) k14 r4 0
def zh.l2 (slices_:(List (List Cl))) (X2:Int→Prop):Nat→Int→Int→Prop
 | 0,_,_=>False
 | k_0+1,size24,v25=>((decide (v25<(slices_.length:Int)))=true→∃e31:(List Cl),at? slices_ v25=some e31∧(InR .i64 (size24+(e31.length:Int)))∧((decide (size24+(e31.length:Int)<0))=true→False)∧((decide (size24+(e31.length:Int)<0))=false→(InR .i64 (v25+1))∧zh.l2 slices_ X2 k_0 (size24+(e31.length:Int)) (v25+1)))∧((decide (v25<(slices_.length:Int)))=false→X2 size24)
def zh (slices_:(List (List Cl))) (r_:(List Cl)):Prop:=∃k26,zh.l2 slices_ (zh.j2 slices_ r_) k26 0 0
def zd.j1 (r_:(List Cl)) (data2:(List Cl)):Prop:=r_=data2
def zd.j2 (L1_:(List Cl)→Int→Prop) (i5:Int) (data11:(List Cl)):Prop:=(InR .i64 (i5+1))∧L1_ data11 (i5+1)
def zd.l2 (a_:Int) (cmp_:(Cl × Cl × Int→Prop)) (X2:(List Cl)→Prop):Nat→(List Cl)→Int→Prop
 | 0,_,_=>False
 | k_0+1,data14,j15=>∃e20:Cl,(((decide (a_<j15))=true)→at? data14 j15=some e20)∧(((decide (a_<j15))=true)→InR .i64 (j15-1))∧∃e23:Cl,(((decide (a_<j15))=true)→at? data14 (j15-1)=some e23)∧∃r25:Int,(((decide (a_<j15))=true)→cmp_ (e20,e23,r25))∧((((decide (a_<j15))&&(decide (r25<0))))=true→(InR .i64 (j15-1))∧(InR .i64 (j15-1))∧∃e30:Cl,at? data14 (j15-1)=some e30∧∃e32:Cl,at? data14 j15=some e32∧∃e34:Cl,at? data14 j15=some e34∧∃e36:Cl,at? (data14.set (j15:Int).toNat e30) (j15-1)=some e36∧(InR .i64 (j15-1))∧zd.l2 a_ cmp_ X2 k_0 ((data14.set (j15:Int).toNat e30).set (j15-1:Int).toNat e32) (j15-1))∧((((decide (a_<j15))&&(decide (r25<0))))=false→X2 data14)
def zd.l1 (a_:Int) (b_:Int) (cmp_:(Cl × Cl × Int→Prop)) (X1:(List Cl)→Prop):Nat→(List Cl)→Int→Prop
 | 0,_,_=>False
 | k_0+1,data4,i5=>((decide (i5<b_))=true→∃k16,zd.l2 a_ cmp_ (zd.j2 (zd.l1 a_ b_ cmp_ X1 k_0) i5) k16 data4 i5)∧((decide (i5<b_))=false→X1 data4)
def zd (data_:(List Cl)) (a_:Int) (b_:Int) (cmp_:(Cl × Cl × Int→Prop)) (r_:(List Cl)):Prop:=(InR .i64 (a_+1))∧∃k6,zd.l1 a_ b_ cmp_ (zd.j1 r_) k6 data_ (a_+1)
def zk.j1 (r_:(List Cl)) (data1:(List Cl)):Prop:=r_=data1
def zk.l1 (a_:Int) (b_:Int) (nv_:Int) (X1:(List Cl)→Prop):Nat→(List Cl)→Int→Prop
 | 0,_,_=>False
 | k_0+1,data3,i4=>((decide (i4<nv_))=true→(InR .i64 (a_+i4))∧(InR .i64 (b_+i4))∧(InR .i64 (b_+i4))∧∃e13:Cl,at? data3 (b_+i4)=some e13∧(InR .i64 (a_+i4))∧∃e16:Cl,at? data3 (a_+i4)=some e16∧∃e18:Cl,at? data3 (a_+i4)=some e18∧∃e20:Cl,at? (data3.set (a_+i4:Int).toNat e13) (b_+i4)=some e20∧(InR .i64 (i4+1))∧zk.l1 a_ b_ nv_ X1 k_0 ((data3.set (a_+i4:Int).toNat e13).set (b_+i4:Int).toNat e16) (i4+1))∧((decide (i4<nv_))=false→X1 data3)
def zk (data_:(List Cl)) (a_:Int) (b_:Int) (nv_:Int) (cmp_:(Cl × Cl × Int→Prop)) (r_:(List Cl)):Prop:=∃k5,zk.l1 a_ b_ nv_ (zk.j1 r_) k5 data_ 0
def zq.j1 (m_:Int) (cmp_:(Cl × Cl × Int→Prop)) (r_:(List Cl)) (data4:(List Cl)) (i5:Int):Prop:=(InR .i64 (m_-i5))∧∃r8:(List Cl),zk data4 (m_-i5) m_ i5 cmp_ r8∧r_=r8
def zq.l1 (m_:Int) (cmp_:(Cl × Cl × Int→Prop)) (X1:(List Cl)→Int→Prop):Nat→(List Cl)→Int→Int→Prop
 | 0,_,_,_=>False
 | k_0+1,data10,i11,j12=>(((i11 != j12))=true→((decide (j12<i11))=true→(InR .i64 (m_-i11))∧∃r18:(List Cl),zk data10 (m_-i11) m_ j12 cmp_ r18∧(InR .i64 (i11-j12))∧zq.l1 m_ cmp_ X1 k_0 r18 (i11-j12) j12)∧((decide (j12<i11))=false→(InR .i64 (m_-i11))∧(InR .i64 (m_+j12))∧(InR .i64 ((m_+j12)-i11))∧∃r24:(List Cl),zk data10 (m_-i11) ((m_+j12)-i11) i11 cmp_ r24∧(InR .i64 (j12-i11))∧zq.l1 m_ cmp_ X1 k_0 r24 i11 (j12-i11)))∧(((i11 != j12))=false→X1 data10 i11)
def zq (data_:(List Cl)) (a_:Int) (m_:Int) (b_:Int) (cmp_:(Cl × Cl × Int→Prop)) (r_:(List Cl)):Prop:=(InR .i64 (m_-a_))∧(InR .i64 (b_-m_))∧∃k13,zq.l1 m_ cmp_ (zq.j1 m_ cmp_ r_) k13 data_ (m_-a_) (b_-m_)
def za.j1 (r_:(List Cl)) (data7:(List Cl)):Prop:=r_=data7
def za.l1 (i4:Int) (X1:(List Cl)→Prop):Nat→(List Cl)→Int→Prop
 | 0,_,_=>False
 | k_0+1,data9,k10=>(InR .i64 (i4-1))∧((decide (k10<i4-1))=true→(InR .i64 (k10+1))∧(InR .i64 (k10+1))∧∃e19:Cl,at? data9 (k10+1)=some e19∧∃e21:Cl,at? data9 k10=some e21∧∃e23:Cl,at? data9 k10=some e23∧∃e25:Cl,at? (data9.set (k10:Int).toNat e19) (k10+1)=some e25∧(InR .i64 (k10+1))∧za.l1 i4 X1 k_0 ((data9.set (k10:Int).toNat e19).set (k10+1:Int).toNat e21) (k10+1))∧((decide (k10<i4-1))=false→X1 data9)
def za.j2 (data_:(List Cl)) (a_:Int) (r_:(List Cl)) (i4:Int):Prop:=∃k11,za.l1 i4 (za.j1 r_) k11 data_ a_
def za.l2 (data_:(List Cl)) (a_:Int) (cmp_:(Cl × Cl × Int→Prop)) (X2:Int→Prop):Nat→Int→Int→Prop
 | 0,_,_=>False
 | k_0+1,i28,j29=>((decide (i28<j29))=true→(InR .i64 (i28+j29))∧∃i35:Int,i35=(IntKind.wrap .i64 (zpj (IntKind.wrap .u64 (i28+j29)) 1))∧∃e37:Cl,at? data_ i35=some e37∧∃e39:Cl,at? data_ a_=some e39∧∃r41:Int,cmp_ (e37,e39,r41)∧((decide (r41<0))=true→(InR .i64 (i35+1))∧za.l2 data_ a_ cmp_ X2 k_0 (i35+1) j29)∧((decide (r41<0))=false→za.l2 data_ a_ cmp_ X2 k_0 i28 i35))∧((decide (i28<j29))=false→X2 i28)
def za.j3 (r_:(List Cl)) (data50:(List Cl)):Prop:=r_=data50
def za.l3 (i47:Int) (X3:(List Cl)→Prop):Nat→(List Cl)→Int→Prop
 | 0,_,_=>False
 | k_0+1,data52,k53=>((decide (i47<k53))=true→(InR .i64 (k53-1))∧(InR .i64 (k53-1))∧∃e61:Cl,at? data52 (k53-1)=some e61∧∃e63:Cl,at? data52 k53=some e63∧∃e65:Cl,at? data52 k53=some e65∧∃e67:Cl,at? (data52.set (k53:Int).toNat e61) (k53-1)=some e67∧(InR .i64 (k53-1))∧za.l3 i47 X3 k_0 ((data52.set (k53:Int).toNat e61).set (k53-1:Int).toNat e63) (k53-1))∧((decide (i47<k53))=false→X3 data52)
def za.j4 (data_:(List Cl)) (m_:Int) (r_:(List Cl)) (i47:Int):Prop:=∃k54,za.l3 i47 (za.j3 r_) k54 data_ m_
def za.l4 (data_:(List Cl)) (m_:Int) (cmp_:(Cl × Cl × Int→Prop)) (X4:Int→Prop):Nat→Int→Int→Prop
 | 0,_,_=>False
 | k_0+1,i70,j71=>((decide (i70<j71))=true→(InR .i64 (i70+j71))∧∃i77:Int,i77=(IntKind.wrap .i64 (zpj (IntKind.wrap .u64 (i70+j71)) 1))∧∃e79:Cl,at? data_ m_=some e79∧∃e81:Cl,at? data_ i77=some e81∧∃r83:Int,cmp_ (e79,e81,r83)∧(((!(decide (r83<0))))=true→(InR .i64 (i77+1))∧za.l4 data_ m_ cmp_ X4 k_0 (i77+1) j71)∧(((!(decide (r83<0))))=false→za.l4 data_ m_ cmp_ X4 k_0 i70 i77))∧((decide (i70<j71))=false→X4 i70)
def za.j5 (n_:(List Cl)→Int→Int→Int→(Cl × Cl × Int→Prop)→(List Cl)→Prop) (m_:Int) (b_:Int) (cmp_:(Cl × Cl × Int→Prop)) (r_:(List Cl)) (i87:Int) (start96:Int) (data107:(List Cl)):Prop:=∃b109:Bool,b109=((decide (i87<(i87+m_)-start96))&&(decide ((i87+m_)-start96<b_)))∧((b109)=true→∃r111:(List Cl),n_ data107 i87 ((i87+m_)-start96) b_ cmp_ r111∧r_=r111)∧((b109)=false→r_=data107)
def za.j6 (n_:(List Cl)→Int→Int→Int→(Cl × Cl × Int→Prop)→(List Cl)→Prop) (a_:Int) (m_:Int) (b_:Int) (cmp_:(Cl × Cl × Int→Prop)) (r_:(List Cl)) (i87:Int) (start96:Int) (data102:(List Cl)):Prop:=∃b105:Bool,b105=((decide (a_<start96))&&(decide (start96<i87)))∧((b105)=true→∃r113:(List Cl),n_ data102 a_ start96 i87 cmp_ r113∧(za.j5 (n_) m_ b_ cmp_ r_ i87 start96) r113)∧((b105)=false→(za.j5 (n_) m_ b_ cmp_ r_ i87 start96) data102)
def za.j7 (n_:(List Cl)→Int→Int→Int→(Cl × Cl × Int→Prop)→(List Cl)→Prop) (data_:(List Cl)) (a_:Int) (m_:Int) (b_:Int) (cmp_:(Cl × Cl × Int→Prop)) (r_:(List Cl)) (i87:Int) (start96:Int):Prop:=(InR .i64 ((i87+m_)-start96))∧∃b100:Bool,b100=((decide (start96<m_))&&(decide (m_<(i87+m_)-start96)))∧((b100)=true→∃r115:(List Cl),zq data_ start96 m_ ((i87+m_)-start96) cmp_ r115∧(za.j6 (n_) a_ m_ b_ cmp_ r_ i87 start96) r115)∧((b100)=false→(za.j6 (n_) a_ m_ b_ cmp_ r_ i87 start96) data_)
def za.l5 (data_:(List Cl)) (m_:Int) (cmp_:(Cl × Cl × Int→Prop)) (i87:Int) (X5:Int→Prop):Nat→Int→Int→Prop
 | 0,_,_=>False
 | k_0+1,start117,r118=>((decide (start117<r118))=true→(InR .i64 (start117+r118))∧∃i124:Int,i124=(IntKind.wrap .i64 (zpj (IntKind.wrap .u64 (start117+r118)) 1))∧(InR .i64 (((i87+m_)-1)-i124))∧∃e127:Cl,at? data_ (((i87+m_)-1)-i124)=some e127∧∃e129:Cl,at? data_ i124=some e129∧∃r131:Int,cmp_ (e127,e129,r131)∧(((!(decide (r131<0))))=true→(InR .i64 (i124+1))∧za.l5 data_ m_ cmp_ i87 X5 k_0 (i124+1) r118)∧(((!(decide (r131<0))))=false→za.l5 data_ m_ cmp_ i87 X5 k_0 start117 i124))∧((decide (start117<r118))=false→X5 start117)
def za.j8 (n_:(List Cl)→Int→Int→Int→(Cl × Cl × Int→Prop)→(List Cl)→Prop) (data_:(List Cl)) (a_:Int) (m_:Int) (b_:Int) (cmp_:(Cl × Cl × Int→Prop)) (r_:(List Cl)) (i87:Int) (start91:Int) (r92:Int):Prop:=(InR .i64 ((i87+m_)-1))∧∃k119,za.l5 data_ m_ cmp_ i87 (za.j7 (n_) data_ a_ m_ b_ cmp_ r_ i87) k119 start91 r92
def za.n:Nat→(List Cl)→Int→Int→Int→(Cl × Cl × Int→Prop)→(List Cl)→Prop
 | 0,_,_,_,_,_,_=>False
 | k_+1,data_,a_,m_,b_,cmp_,r_=>(InR .i64 (m_-a_))∧((((m_-a_)==1))=true→∃k30,za.l2 data_ a_ cmp_ (za.j2 data_ a_ r_) k30 m_ b_)∧((((m_-a_)==1))=false→(InR .i64 (b_-m_))∧((((b_-m_)==1))=true→∃k72,za.l4 data_ m_ cmp_ (za.j4 data_ m_ r_) k72 a_ m_)∧((((b_-m_)==1))=false→(InR .i64 (a_+b_))∧∃i87:Int,i87=(IntKind.wrap .i64 (zpj (IntKind.wrap .u64 (a_+b_)) 1))∧(InR .i64 (i87+m_))∧((decide (i87<m_))=true→(InR .i64 ((i87+m_)-b_))∧(za.j8 (za.n k_) data_ a_ m_ b_ cmp_ r_ i87) ((i87+m_)-b_) i87)∧((decide (i87<m_))=false→(za.j8 (za.n k_) data_ a_ m_ b_ cmp_ r_ i87) a_ m_)))
def za (data_:(List Cl)) (a_:Int) (m_:Int) (b_:Int) (cmp_:(Cl × Cl × Int→Prop)) (r_:(List Cl)):Prop:=∃k_,za.n k_ data_ a_ m_ b_ cmp_ r_
def zb.j1 (r_:(List Cl)) (data7:(List Cl)):Prop:=r_=data7
def zb.j2 (L1_:(List Cl)→Int→Prop) (nv_:Int) (cmp_:(Cl × Cl × Int→Prop)) (blockSize10:Int) (data17:(List Cl)) (a18:Int):Prop:=(InR .i64 (a18+blockSize10))∧((decide (a18+blockSize10<nv_))=true→∃r22:(List Cl),za data17 a18 (a18+blockSize10) nv_ cmp_ r22∧(InR .i64 (blockSize10*2))∧L1_ r22 (blockSize10*2))∧((decide (a18+blockSize10<nv_))=false→(InR .i64 (blockSize10*2))∧L1_ data17 (blockSize10*2))
def zb.l2 (nv_:Int) (cmp_:(Cl × Cl × Int→Prop)) (blockSize10:Int) (X2:(List Cl)→Int→Prop):Nat→(List Cl)→Int→Int→Prop
 | 0,_,_,_=>False
 | k_0+1,data26,a27,b28=>((decide (b28≤nv_))=true→(InR .i64 (a27+blockSize10))∧∃r34:(List Cl),za data26 a27 (a27+blockSize10) b28 cmp_ r34∧(InR .i64 (2*blockSize10))∧(InR .i64 (b28+(2*blockSize10)))∧zb.l2 nv_ cmp_ blockSize10 X2 k_0 r34 b28 (b28+(2*blockSize10)))∧((decide (b28≤nv_))=false→X2 data26 a27)
def zb.l1 (nv_:Int) (cmp_:(Cl × Cl × Int→Prop)) (X1:(List Cl)→Prop):Nat→(List Cl)→Int→Prop
 | 0,_,_=>False
 | k_0+1,data9,blockSize10=>((decide (blockSize10<nv_))=true→(InR .i64 (2*blockSize10))∧∃k29,zb.l2 nv_ cmp_ blockSize10 (zb.j2 (zb.l1 nv_ cmp_ X1 k_0) nv_ cmp_ blockSize10) k29 data9 0 (2*blockSize10))∧((decide (blockSize10<nv_))=false→X1 data9)
def zb.j3 (nv_:Int) (cmp_:(Cl × Cl × Int→Prop)) (r_:(List Cl)) (data2:(List Cl)) (a3:Int):Prop:=∃r5:(List Cl),zd data2 a3 nv_ cmp_ r5∧∃k11,zb.l1 nv_ cmp_ (zb.j1 r_) k11 r5 20
def zb.l3 (nv_:Int) (cmp_:(Cl × Cl × Int→Prop)) (X3:(List Cl)→Int→Prop):Nat→(List Cl)→Int→Int→Prop
 | 0,_,_,_=>False
 | k_0+1,data38,a39,b40=>((decide (b40≤nv_))=true→∃r45:(List Cl),zd data38 a39 b40 cmp_ r45∧(InR .i64 (b40+20))∧zb.l3 nv_ cmp_ X3 k_0 r45 b40 (b40+20))∧((decide (b40≤nv_))=false→X3 data38 a39)
def zb (data_:(List Cl)) (nv_:Int) (cmp_:(Cl × Cl × Int→Prop)) (r_:(List Cl)):Prop:=∃k41,zb.l3 nv_ cmp_ (zb.j3 nv_ cmp_ r_) k41 data_ 0 20
def zbj (x_:(List Cl)) (cmp_:(Cl × Cl × Int→Prop)) (r_:(List Cl)):Prop:=∃r1:(List Cl),zb x_ (x_.length:Int) cmp_ r1∧r_=r1
def zu.j1 (r_:(List Int)) (s2:(List Int)):Prop:=r_=s2
def zu.l1 (X1:(List Int)→Prop):Nat→(List Int)→Int→Int→Prop
 | 0,_,_,_=>False
 | k_0+1,s4,i5,j6=>((decide (i5<j6))=true→∃e12:Int,at? s4 j6=some e12∧∃e14:Int,at? s4 i5=some e14∧∃e16:Int,at? s4 i5=some e16∧∃e18:Int,at? (s4.set (i5:Int).toNat e12) j6=some e18∧(InR .i64 (i5+1))∧(InR .i64 (j6-1))∧zu.l1 X1 k_0 ((s4.set (i5:Int).toNat e12).set (j6:Int).toNat e14) (i5+1) (j6-1))∧((decide (i5<j6))=false→X1 s4)
def zu (s_:(List Int)) (r_:(List Int)):Prop:=(InR .i64 ((s_.length:Int)-1))∧∃k7,zu.l1 (zu.j1 r_) k7 s_ 0 ((s_.length:Int)-1)
def zfz (a_:Cl) (cv_:Int) (r_:Bool):Prop:=(0≤(cv_ / 64)∧(cv_ / 64)<4)∧∃b2:Bool,b2=((andI (zpj (Cl.w a_ (cv_ / 64)) (cv_ % 64)) 1)==1)∧r_=b2
def zcz.j1 (r_:Cl) (a5:Cl):Prop:=r_=a5
def zcz.l1 (list_:(List Int)) (X1:Cl→Prop):Nat→Cl→Int→Prop
 | 0,_,_=>False
 | k_0+1,a8,v9=>((decide (v9<(list_.length:Int)))=true→∃e16:Int,at? list_ v9=some e16∧(0≤(e16 / 64)∧(e16 / 64)<4)∧(0≤(e16 / 64)∧(e16 / 64)<4)∧(InR .i64 (v9+1))∧zcz.l1 list_ X1 k_0 (Cl.setw a8 (e16 / 64) (orI (Cl.w a8 (e16 / 64)) (shlI 1 (e16 % 64)))) (v9+1))∧((decide (v9<(list_.length:Int)))=false→X1 a8)
def zcz (a_:Cl) (list_:(List Int)) (r_:Cl):Prop:=∃k10,zcz.l1 list_ (zcz.j1 r_) k10 a_ 0
def zdg.j1 (r_:Cl) (a5:Cl):Prop:=r_=a5
def zdg.l1 (from_:Int) (to_:Int) (X1:Cl→Prop):Nat→Cl→Int→Prop
 | 0,_,_=>False
 | k_0+1,a8,v9=>((decide (v9<256))=true→∃b16:Bool,b16=((decide (from_≤v9 % 256))&&(decide (v9 % 256≤to_)))∧((b16)=true→∃r18:Cl,zcz a8 [v9 % 256] r18∧(InR .i64 (v9+1))∧zdg.l1 from_ to_ X1 k_0 r18 (v9+1))∧((b16)=false→(InR .i64 (v9+1))∧zdg.l1 from_ to_ X1 k_0 a8 (v9+1)))∧((decide (v9<256))=false→X1 a8)
def zdg (from_:Int) (to_:Int) (r_:Cl):Prop:=∃k10,zdg.l1 from_ to_ (zdg.j1 r_) k10 (0#256) 0
def zcy.j1 (r_:Cl) (a5:Cl):Prop:=r_=a5
def zcy.l1 (X1:Cl→Prop):Nat→Cl→Int→Prop
 | 0,_,_=>False
 | k_0+1,a8,v9=>((decide (v9<4))=true→(0≤v9∧v9<4)∧(0≤v9∧v9<4)∧(InR .i64 (v9+1))∧zcy.l1 X1 k_0 (Cl.setw a8 v9 (xorI 18446744073709551615 (Cl.w a8 v9))) (v9+1))∧((decide (v9<4))=false→X1 a8)
def zcy (a_:Cl) (r_:Cl):Prop:=∃k10,zcy.l1 (zcy.j1 r_) k10 a_ 0
def zcg.j1 (r_:Cl) (a5:Cl):Prop:=r_=a5
def zcg.l1 (b_:Cl) (X1:Cl→Prop):Nat→Cl→Int→Prop
 | 0,_,_=>False
 | k_0+1,a8,v9=>((decide (v9<4))=true→(0≤v9∧v9<4)∧(0≤v9∧v9<4)∧(0≤v9∧v9<4)∧(InR .i64 (v9+1))∧zcg.l1 b_ X1 k_0 (Cl.setw a8 v9 (andI (Cl.w a8 v9) (Cl.w b_ v9))) (v9+1))∧((decide (v9<4))=false→X1 a8)
def zcg (a_:Cl) (b_:Cl) (r_:Cl):Prop:=∃k10,zcg.l1 b_ (zcg.j1 r_) k10 a_ 0
def zb6.j1 (r_:Int) (n2:Int):Prop:=r_=n2
def zb6.l1 (a_:Cl) (X1:Int→Prop):Nat→Int→Int→Prop
 | 0,_,_=>False
 | k_0+1,n4,v5=>((decide (v5<256))=true→∃r11:Bool,zfz a_ (v5 % 256) r11∧((r11)=true→(InR .i64 (n4+1))∧(InR .i64 (v5+1))∧zb6.l1 a_ X1 k_0 (n4+1) (v5+1))∧((r11)=false→(InR .i64 (v5+1))∧zb6.l1 a_ X1 k_0 n4 (v5+1)))∧((decide (v5<256))=false→X1 n4)
def zb6 (a_:Cl) (r_:Int):Prop:=∃k6,zb6.l1 a_ (zb6.j1 r_) k6 0 0
def zb0.j1 (r_:(Int × Bool)):Prop:=r_=(0,false)
def zb0.l1 (a_:Cl) (r_:(Int × Bool)) (X1:Prop):Nat→Int→Prop
 | 0,_=>False
 | k_0+1,v3=>((decide (v3<256))=true→∃r9:Bool,zfz a_ (v3 % 256) r9∧((r9)=true→r_=(v3 % 256,true))∧((r9)=false→(InR .i64 (v3+1))∧zb0.l1 a_ r_ X1 k_0 (v3+1)))∧((decide (v3<256))=false→X1)
def zb0 (a_:Cl) (r_:(Int × Bool)):Prop:=∃k4,zb0.l1 a_ r_ (zb0.j1 r_) k4 0
def zdk.j1 (r_:Cl) (a5:Cl):Prop:=r_=a5
def zdk.j2 (L1_:Cl→Int→Prop) (w9:Int) (a16:Cl):Prop:=(InR .i64 (w9+1))∧L1_ a16 (w9+1)
def zdk.l2 (l_:(List Bool)) (w9:Int) (X2:Cl→Prop):Nat→Cl→Int→Int→Prop
 | 0,_,_,_=>False
 | k_0+1,a20,bit21,i22=>((decide (i22<64))=true→(InR .i64 (64*w9))∧(InR .i64 ((64*w9)+i22))∧∃e32:Bool,at? l_ ((64*w9)+i22)=some e32∧((e32)=true→(0≤w9∧w9<4)∧(0≤w9∧w9<4)∧(InR .i64 (i22+1))∧zdk.l2 l_ w9 X2 k_0 (Cl.setw a20 w9 (IntKind.wrap .u64 ((Cl.w a20 w9)+bit21))) (IntKind.wrap .u64 (bit21*2)) (i22+1))∧((e32)=false→(InR .i64 (i22+1))∧zdk.l2 l_ w9 X2 k_0 a20 (IntKind.wrap .u64 (bit21*2)) (i22+1)))∧((decide (i22<64))=false→X2 a20)
def zdk.l1 (l_:(List Bool)) (X1:Cl→Prop):Nat→Cl→Int→Prop
 | 0,_,_=>False
 | k_0+1,a8,w9=>((decide (w9<4))=true→∃k23,zdk.l2 l_ w9 (zdk.j2 (zdk.l1 l_ X1 k_0) w9) k23 a8 1 0)∧((decide (w9<4))=false→X1 a8)
def zdk (l_:(List Bool)) (r_:Cl):Prop:=∃k10,zdk.l1 l_ (zdk.j1 r_) k10 (0#256) 0
def ze0.j1 (r_:Cl) (l5:(List Bool)):Prop:=∃r9:Cl,zdk l5 r9∧r_=r9
def ze0.l1 (to_:Int) (X1:(List Bool)→Prop):Nat→(List Bool)→Int→Prop
 | 0,_,_=>False
 | k_0+1,l11,i13=>((decide (i13≤to_))=true→∃e20:Bool,at? l11 i13=some e20∧(InR .i64 (i13+1))∧ze0.l1 to_ X1 k_0 (l11.set (i13:Int).toNat true) (i13+1))∧((decide (i13≤to_))=false→X1 l11)
def ze0 (from_:Int) (to_:Int) (r_:Cl):Prop:=∃k14,ze0.l1 to_ (ze0.j1 r_) k14 (List.replicate 256 false) from_
def ze1.j1 (r_:Bool) (w4:Int):Prop:=r_=((w4 % 2)==1)
def ze1.l1 (cv_:Int) (X1:Int→Prop):Nat→Int→Int→Prop
 | 0,_,_=>False
 | k_0+1,w6,i7=>(0≤cv_)∧((decide (i7<cv_ % 64))=true→(InR .i64 (i7+1))∧ze1.l1 cv_ X1 k_0 (w6 / 2) (i7+1))∧((decide (i7<cv_ % 64))=false→X1 w6)
def ze1 (a_:Cl) (cv_:Int) (r_:Bool):Prop:=(0≤cv_)∧(0≤(cv_ / 64)∧(cv_ / 64)<4)∧∃k8,ze1.l1 cv_ (ze1.j1 r_) k8 (Cl.w a_ (cv_ / 64)) 0
def zdy (a_:Cl) (r_:Int):Prop:=∃r1:(Int × Bool),zb0 a_ r1∧r_=r1.1
def zeh (a_:Cl) (b_:Cl) (cap0_:(Cl × Int→Prop)) (r_:Int):Prop:=∃r1:Int,cap0_ (a_,r1)∧∃r3:Int,cap0_ (b_,r3)∧(InR .i64 (r1-r3))∧r_=r1-r3
def zz.j1 (r_:(List Cl)) (out2:(List Cl)):Prop:=∃r7:(List Cl),zbj out2 (fun q_=>zeh q_.1 q_.2.1 (fun q_=>zdy q_.1 q_.2) q_.2.2) r7∧r_=r7
def zz.j2 (L1_:(List Cl)→Int→Prop) (v11:Int) (out27:(List Cl)):Prop:=(InR .i64 (v11+1))∧L1_ out27 (v11+1)
def zz.l2 (r21:Cl) (r25:Cl) (X2:(List Cl)→Prop):Nat→(List Cl)→Int→Prop
 | 0,_,_=>False
 | k_0+1,out31,v33=>((decide (v33<([r21,r25].length:Int)))=true→∃e39:Cl,at? [r21,r25] v33=some e39∧∃r43:Int,zb6 e39 r43∧((decide (0<r43))=true→(out31.length+[e39].length≤2147483648)∧(InR .i64 (v33+1))∧zz.l2 r21 r25 X2 k_0 (out31++[e39]) (v33+1))∧((decide (0<r43))=false→(InR .i64 (v33+1))∧zz.l2 r21 r25 X2 k_0 out31 (v33+1)))∧((decide (v33<([r21,r25].length:Int)))=false→X2 out31)
def zz.l1 (parts_:(List Cl)) (a_:Cl) (X1:(List Cl)→Prop):Nat→(List Cl)→Int→Prop
 | 0,_,_=>False
 | k_0+1,out9,v11=>((decide (v11<(parts_.length:Int)))=true→∃e17:Cl,at? parts_ v11=some e17∧∃r21:Cl,zcg e17 a_ r21∧∃r23:Cl,zcy a_ r23∧∃r25:Cl,zcg e17 r23 r25∧∃k34,zz.l2 r21 r25 (zz.j2 (zz.l1 parts_ a_ X1 k_0) v11) k34 out9 0)∧((decide (v11<(parts_.length:Int)))=false→X1 out9)
def zz (parts_:(List Cl)) (a_:Cl) (r_:(List Cl)):Prop:=∃k12,zz.l1 parts_ a_ (zz.j1 r_) k12 ([]:(List Cl)) 0
def zb8.j1 (r_:(List Cl)) (out5:(List Cl)):Prop:=r_=out5
def zb8.l1 (list_:(List Cl)) (X1:(List Cl)→Prop):Nat→(List Cl)→Int→Prop
 | 0,_,_=>False
 | k_0+1,out8,v10=>((decide (v10<(list_.length:Int)))=true→∃e16:Cl,at? list_ v10=some e16∧∃r20:(List Cl),zz out8 e16 r20∧(InR .i64 (v10+1))∧zb8.l1 list_ X1 k_0 r20 (v10+1))∧((decide (v10<(list_.length:Int)))=false→X1 out8)
def zb8 (list_:(List Cl)) (r_:(List Cl)):Prop:=∃r1:Cl,zcy (0#256) r1∧∃k11,zb8.l1 list_ (zb8.j1 r_) k11 [r1] 0
def zb4.j1 (r_:(List Int)) (out4:(List Int)):Prop:=r_=out4
def zb4.l1 (r2:(List Cl)) (X1:(List Int)→Prop):Nat→(List Int)→Int→Prop
 | 0,_,_=>False
 | k_0+1,out7,v9=>((decide (v9<(r2.length:Int)))=true→∃e15:Cl,at? r2 v9=some e15∧∃r19:(Int × Bool),zb0 e15 r19∧(out7.length+[r19.1].length≤2147483648)∧(InR .i64 (v9+1))∧zb4.l1 r2 X1 k_0 (out7++[r19.1]) (v9+1))∧((decide (v9<(r2.length:Int)))=false→X1 out7)
def zb4 (list_:(List Cl)) (r_:(List Int)):Prop:=∃r2:(List Cl),zb8 list_ r2∧∃k10,zb4.l1 r2 (zb4.j1 r_) k10 ([]:(List Int)) 0
def zbt.j1 (r_:Bool):Prop:=r_=true
def zbt.l1 (a_:(List Int)) (b_:(List Int)) (r_:Bool) (X1:Prop):Nat→Int→Prop
 | 0,_=>False
 | k_0+1,i4=>((decide (i4<(a_.length:Int)))=true→∃e10:Int,at? a_ i4=some e10∧∃e12:Int,at? b_ i4=some e12∧(((e10 != e12))=true→r_=false)∧(((e10 != e12))=false→(InR .i64 (i4+1))∧zbt.l1 a_ b_ r_ X1 k_0 (i4+1)))∧((decide (i4<(a_.length:Int)))=false→X1)
def zbt (a_:(List Int)) (b_:(List Int)) (r_:Bool):Prop:=((((a_.length:Int) != (b_.length:Int)))=true→r_=false)∧((((a_.length:Int) != (b_.length:Int)))=false→∃k5,zbt.l1 a_ b_ r_ (zbt.j1 r_) k5 0)
def zfm (s_:Str) (i_:Int) (from_:Int) (to_:Int) (r_:Bool):Prop:=∃c1:Int,(((decide (i_<(s_.length:Int)))=true)→zd2 s_ i_=some c1)∧∃b3:Bool,b3=((decide (i_<(s_.length:Int)))&&(decide (from_≤c1)))∧∃c5:Int,(((b3)=true)→zd2 s_ i_=some c5)∧r_=(b3&&(decide (c5≤to_)))
def zbk.j1 (r_:Bool):Prop:=r_=true
def zbk.l1 (s_:Str) (r_:Bool) (X1:Prop):Nat→Int→Prop
 | 0,_=>False
 | k_0+1,i3=>((decide (i3<(s_.length:Int)))=true→∃c8:Int,zd2 s_ i3=some c8∧(InR .i64 (i3+1))∧∃r11:Bool,zfm s_ (i3+1) 128 191 r11∧(InR .i64 (i3+2))∧∃r14:Bool,zfm s_ (i3+2) 128 191 r14∧(InR .i64 (i3+3))∧∃r17:Bool,zfm s_ (i3+3) 128 191 r17∧((decide (c8<128))=true→(InR .i64 (i3+1))∧zbk.l1 s_ r_ X1 k_0 (i3+1))∧((decide (c8<128))=false→∃b20:Bool,b20=(((decide (194≤c8))&&(decide (c8≤223)))&&r11)∧((b20)=true→(InR .i64 (i3+2))∧zbk.l1 s_ r_ X1 k_0 (i3+2))∧((b20)=false→((((c8==224))=true)→InR .i64 (i3+1))∧∃r24:Bool,((((c8==224))=true)→zfm s_ (i3+1) 160 191 r24)∧(((((c8==224)&&r24)&&r14))=true→(InR .i64 (i3+3))∧zbk.l1 s_ r_ X1 k_0 (i3+3))∧(((((c8==224)&&r24)&&r14))=false→∃b27:Bool,b27=(((decide (225≤c8))&&(decide (c8≤236)))||(c8==238))∧(((((b27||(c8==239))&&r11)&&r14))=true→(InR .i64 (i3+3))∧zbk.l1 s_ r_ X1 k_0 (i3+3))∧(((((b27||(c8==239))&&r11)&&r14))=false→((((c8==237))=true)→InR .i64 (i3+1))∧∃r31:Bool,((((c8==237))=true)→zfm s_ (i3+1) 128 159 r31)∧(((((c8==237)&&r31)&&r14))=true→(InR .i64 (i3+3))∧zbk.l1 s_ r_ X1 k_0 (i3+3))∧(((((c8==237)&&r31)&&r14))=false→((((c8==240))=true)→InR .i64 (i3+1))∧∃r35:Bool,((((c8==240))=true)→zfm s_ (i3+1) 144 191 r35)∧((((((c8==240)&&r35)&&r14)&&r17))=true→(InR .i64 (i3+4))∧zbk.l1 s_ r_ X1 k_0 (i3+4))∧((((((c8==240)&&r35)&&r14)&&r17))=false→∃b38:Bool,b38=(((decide (241≤c8))&&(decide (c8≤243)))&&r11)∧((((b38&&r14)&&r17))=true→(InR .i64 (i3+4))∧zbk.l1 s_ r_ X1 k_0 (i3+4))∧((((b38&&r14)&&r17))=false→((((c8==244))=true)→InR .i64 (i3+1))∧∃r42:Bool,((((c8==244))=true)→zfm s_ (i3+1) 128 143 r42)∧((((((c8==244)&&r42)&&r14)&&r17))=true→(InR .i64 (i3+4))∧zbk.l1 s_ r_ X1 k_0 (i3+4))∧((((((c8==244)&&r42)&&r14)&&r17))=false→r_=false)))))))))∧((decide (i3<(s_.length:Int)))=false→X1)
def zbk (s_:Str) (r_:Bool):Prop:=∃k4,zbk.l1 s_ r_ (zbk.j1 r_) k4 0
def z6.j1 (r_:(List SNode)) (out2:(List SNode)):Prop:=r_=out2
def z6.j2 (L1_:(List SNode)→Int→Prop) (out5:(List SNode)) (i7:Int) (n22:SNode):Prop:=(out5.length+[n22].length≤2147483648)∧(InR .i64 (i7+1))∧L1_ (out5++[n22]) (i7+1)
def z6.j3 (L1_:(List SNode)→Int→Prop) (by_:Int) (out5:(List SNode)) (i7:Int) (n18:SNode):Prop:=((((n18.1==4)||(n18.1==5)))=true→(InR .i64 (n18.2.2.1+by_))∧(z6.j2 (L1_) out5 i7) (n18.1,n18.2.1,n18.2.2.1+by_,n18.2.2.2.1,n18.2.2.2.2.1,n18.2.2.2.2.2.1,n18.2.2.2.2.2.2))∧((((n18.1==4)||(n18.1==5)))=false→(z6.j2 (L1_) out5 i7) n18)
def z6.l1 (l_:(List SNode)) (by_:Int) (X1:(List SNode)→Prop):Nat→(List SNode)→Int→Prop
 | 0,_,_=>False
 | k_0+1,out5,i7=>((decide (i7<(l_.length:Int)))=true→∃e13:SNode,at? l_ i7=some e13∧((decide (4≤e13.1))=true→(InR .i64 (e13.2.1+by_))∧(z6.j3 (z6.l1 l_ by_ X1 k_0) by_ out5 i7) (e13.1,e13.2.1+by_,e13.2.2.1,e13.2.2.2.1,e13.2.2.2.2.1,e13.2.2.2.2.2.1,e13.2.2.2.2.2.2))∧((decide (4≤e13.1))=false→(z6.j3 (z6.l1 l_ by_ X1 k_0) by_ out5 i7) e13))∧((decide (i7<(l_.length:Int)))=false→X1 out5)
def z6 (l_:(List SNode)) (by_:Int) (r_:(List SNode)):Prop:=∃k8,z6.l1 l_ by_ (z6.j1 r_) k8 ([]:(List SNode)) 0
def zhf (kind_:Int) (a_:SDesc) (b_:SDesc) (r_:SDesc):Prop:=∃r4:(List SNode),z6 a_ 0 r4∧∃r6:(List SNode),z6 b_ (a_.length:Int) r6∧(r4.length+r6.length≤2147483648)∧(InR .i64 ((a_.length:Int)-1))∧(InR .i64 ((a_.length:Int)+(b_.length:Int)))∧(InR .i64 (((a_.length:Int)+(b_.length:Int))-1))∧((r4++r6).length+[(kind_,(a_.length:Int)-1,((a_.length:Int)+(b_.length:Int))-1,0,0,(0#256),([]:Str))].length≤2147483648)∧r_=(r4++r6)++[(kind_,(a_.length:Int)-1,((a_.length:Int)+(b_.length:Int))-1,0,0,(0#256),([]:Str))]
def zcx.j1 (d_:SDesc) (r_:Bool) (n2:Int):Prop:=∃b4:Bool,b4=((decide ((d_.length:Int)≤100))&&(decide (n2≤2000)))∧r_=b4
def zcx.l1 (d_:SDesc) (X1:Int→Prop):Nat→Int→Int→Prop
 | 0,_,_=>False
 | k_0+1,n6,i7=>∃b12:Bool,b12=((decide (i7<(d_.length:Int)))&&(decide (i7<200)))∧((b12)=true→∃e15:SNode,at? d_ i7=some e15∧(InR .i64 (n6+(e15.2.2.2.2.2.2.length:Int)))∧(InR .i64 (i7+1))∧zcx.l1 d_ X1 k_0 (n6+(e15.2.2.2.2.2.2.length:Int)) (i7+1))∧((b12)=false→X1 n6)
def zcx (d_:SDesc) (r_:Bool):Prop:=∃k8,zcx.l1 d_ (zcx.j1 d_ r_) k8 0 0
def zl.j1 (r_:Int) (l2:(List Int)):Prop:=((((l2.length:Int)==0))=true→r_=0)∧((((l2.length:Int)==0))=false→(InR .i64 ((l2.length:Int)-1))∧∃e7:Int,at? l2 ((l2.length:Int)-1)=some e7∧r_=e7)
def zl.j2 (L1_:(List Int)→Int→Prop) (l9:(List Int)) (i11:Int) (w48:Int):Prop:=(l9.length+[(min w48 1000)].length≤2147483648)∧(InR .i64 (i11+1))∧L1_ (l9++[(min w48 1000)]) (i11+1)
def zl.j3 (L1_:(List Int)→Int→Prop) (l9:(List Int)) (i11:Int) (e19:SNode) (a26:Int) (w44:Int):Prop:=(((e19.1==7))=true→(InR .i64 (1+(max 0 (min e19.2.2.2.2.1 1000))))∧(InR .i64 ((1+(max 0 (min e19.2.2.2.2.1 1000)))*a26))∧(zl.j2 (L1_) l9 i11) ((1+(max 0 (min e19.2.2.2.2.1 1000)))*a26))∧(((e19.1==7))=false→(zl.j2 (L1_) l9 i11) w44)
def zl.j4 (L1_:(List Int)→Int→Prop) (l9:(List Int)) (i11:Int) (e19:SNode) (a26:Int) (w40:Int):Prop:=(((((e19.1==6)||(e19.1==8))||(e19.1==9)))=true→(InR .i64 (a26+1))∧(zl.j3 (L1_) l9 i11 e19 a26) (a26+1))∧(((((e19.1==6)||(e19.1==8))||(e19.1==9)))=false→(zl.j3 (L1_) l9 i11 e19 a26) w40)
def zl.j5 (L1_:(List Int)→Int→Prop) (l9:(List Int)) (i11:Int) (e19:SNode) (a26:Int) (b32:Int) (w36:Int):Prop:=((((e19.1==4)||(e19.1==5)))=true→(InR .i64 (a26+b32))∧(zl.j4 (L1_) l9 i11 e19 a26) (a26+b32))∧((((e19.1==4)||(e19.1==5)))=false→(zl.j4 (L1_) l9 i11 e19 a26) w36)
def zl.j6 (L1_:(List Int)→Int→Prop) (l9:(List Int)) (i11:Int) (e19:SNode) (a26:Int) (b32:Int):Prop:=(((e19.1==3))=true→(InR .i64 (1+(min (e19.2.2.2.2.2.2.length:Int) 1000)))∧(zl.j5 (L1_) l9 i11 e19 a26 b32) (1+(min (e19.2.2.2.2.2.2.length:Int) 1000)))∧(((e19.1==3))=false→(zl.j5 (L1_) l9 i11 e19 a26 b32) 1)
def zl.j7 (L1_:(List Int)→Int→Prop) (l9:(List Int)) (i11:Int) (e19:SNode) (a26:Int):Prop:=∃b30:Bool,b30=((decide (0≤e19.2.2.1))&&(decide (e19.2.2.1<(l9.length:Int))))∧((b30)=true→∃e58:Int,at? l9 e19.2.2.1=some e58∧(zl.j6 (L1_) l9 i11 e19 a26) e58)∧((b30)=false→(zl.j6 (L1_) l9 i11 e19 a26) 0)
def zl.l1 (d_:SDesc) (X1:(List Int)→Prop):Nat→(List Int)→Int→Prop
 | 0,_,_=>False
 | k_0+1,l9,i11=>∃b16:Bool,b16=((decide (i11<(d_.length:Int)))&&(decide (i11<200)))∧((b16)=true→∃e19:SNode,at? d_ i11=some e19∧∃b24:Bool,b24=((decide (0≤e19.2.1))&&(decide (e19.2.1<(l9.length:Int))))∧((b24)=true→∃e60:Int,at? l9 e19.2.1=some e60∧(zl.j7 (zl.l1 d_ X1 k_0) l9 i11 e19) e60)∧((b24)=false→(zl.j7 (zl.l1 d_ X1 k_0) l9 i11 e19) 0))∧((b16)=false→X1 l9)
def zl (d_:SDesc) (r_:Int):Prop:=∃k12,zl.l1 d_ (zl.j1 r_) k12 ([]:(List Int)) 0
def zcd.j1 (s_:Str) (r_:Bool):Prop:=∃r3:Bool,(((decide (0<(s_.length:Int)))=true)→zbk s_ r3)∧r_=((decide (0<(s_.length:Int)))&&r3)
def zcd.l1 (s_:Str) (r_:Bool) (X1:Prop):Nat→Int→Prop
 | 0,_=>False
 | k_0+1,i5=>((decide (i5<(s_.length:Int)))=true→∃c11:Int,zd2 s_ i5=some c11∧(((c11==34))=true→r_=false)∧(((c11==34))=false→(InR .i64 (i5+1))∧zcd.l1 s_ r_ X1 k_0 (i5+1)))∧((decide (i5<(s_.length:Int)))=false→X1)
def zcd (s_:Str) (r_:Bool):Prop:=∃k6,zcd.l1 s_ r_ (zcd.j1 s_ r_) k6 0
def zx.j1 (n_:(List SNode)→Int→Int→Prop) (l_:(List SNode)) (i_:Int) (r_:Int) (e2:SNode) (want23:SNode):Prop:=(InR .i64 (i_-1))∧∃r27:Int,n_ l_ (i_-1) r27∧(((e2 != want23))=true→r_=(-1))∧(((e2 != want23))=false→r_=r27)
def zx.j2 (n_:(List SNode)→Int→Int→Prop) (l_:(List SNode)) (i_:Int) (r_:Int) (e2:SNode) (v33:Bool):Prop:=((v33)=true→(InR .i64 (i_-1))∧(InR .i64 (i_-1))∧∃r38:Int,n_ l_ (i_-1) r38∧((decide (r38<0))=true→r_=(-1))∧((decide (r38<0))=false→(InR .i64 (r38-1))∧(InR .i64 (r38-1))∧∃r43:Int,n_ l_ (r38-1) r43∧∃b46:Bool,b46=(e2 != (e2.1,r38-1,i_-1,0,0,(0#256),([]:Str)))∧((b46)=true→r_=(-1))∧((b46)=false→r_=r43)))∧((v33)=false→r_=(-1))
def zx.j3 (n_:(List SNode)→Int→Int→Prop) (l_:(List SNode)) (i_:Int) (r_:Int) (e2:SNode) (v18:Bool):Prop:=((v18)=true→(InR .i64 (i_-1))∧(((e2.1==7))=true→∃b30:Bool,b30=((decide (e2.2.2.2.1<0))||(decide (e2.2.2.2.2.1<e2.2.2.2.1)))∧(((b30||(decide (255<e2.2.2.2.2.1))))=true→r_=(-1))∧(((b30||(decide (255<e2.2.2.2.2.1))))=false→(zx.j1 (n_) l_ i_ r_ e2) (e2.1,i_-1,0,e2.2.2.2.1,e2.2.2.2.2.1,(0#256),([]:Str))))∧(((e2.1==7))=false→(zx.j1 (n_) l_ i_ r_ e2) (e2.1,i_-1,0,0,0,(0#256),([]:Str))))∧((v18)=false→(((e2.1==4))=true→(zx.j2 (n_) l_ i_ r_ e2) (e2.1==4))∧(((e2.1==4))=false→(zx.j2 (n_) l_ i_ r_ e2) (e2.1==5)))
def zx.n:Nat→(List SNode)→Int→Int→Prop
 | 0,_,_,_=>False
 | k_+1,l_,i_,r_=>((decide (i_<0))=true→r_=(-1))∧((decide (i_<0))=false→∃e2:SNode,at? l_ i_=some e2∧(((e2.1==1))=true→(((e2 != (e2.1,0,0,0,0,(0#256),([]:Str))))=true→r_=(-1))∧(((e2 != (e2.1,0,0,0,0,(0#256),([]:Str))))=false→r_=i_))∧(((e2.1==1))=false→(((e2.1==2))=true→∃b10:Bool,b10=(e2 != (e2.1,0,0,0,0,e2.2.2.2.2.2.1,([]:Str)))∧((b10)=true→r_=(-1))∧((b10)=false→r_=i_))∧(((e2.1==2))=false→(((e2.1==3))=true→∃r12:Bool,zcd e2.2.2.2.2.2.2 r12∧(((!r12))=true→r_=(-1))∧(((!r12))=false→∃b15:Bool,b15=(e2 != (e2.1,0,0,0,0,(0#256),e2.2.2.2.2.2.2))∧((b15)=true→r_=(-1))∧((b15)=false→r_=i_)))∧(((e2.1==3))=false→(((e2.1==6))=true→(zx.j3 (zx.n k_) l_ i_ r_ e2) (e2.1==6))∧(((e2.1==6))=false→(((e2.1==7))=true→(zx.j3 (zx.n k_) l_ i_ r_ e2) (e2.1==7))∧(((e2.1==7))=false→(((e2.1==8))=true→(zx.j3 (zx.n k_) l_ i_ r_ e2) (e2.1==8))∧(((e2.1==8))=false→(zx.j3 (zx.n k_) l_ i_ r_ e2) (e2.1==9))))))))
def zx (l_:(List SNode)) (i_:Int) (r_:Int):Prop:=∃k_,zx.n k_ l_ i_ r_
def zi5 (d_:SDesc) (r_:Bool):Prop:=(((decide (0<(d_.length:Int)))=true)→InR .i64 ((d_.length:Int)-1))∧∃r2:Int,(((decide (0<(d_.length:Int)))=true)→zx d_ ((d_.length:Int)-1) r2)∧r_=((decide (0<(d_.length:Int)))&&(r2==0))
def zbz.j1 (r_:Bool):Prop:=r_=false
def zbz.l1 (d_:SDesc) (r_:Bool) (X1:Prop):Nat→Int→Prop
 | 0,_=>False
 | k_0+1,i3=>((decide (i3<(d_.length:Int)))=true→∃e9:SNode,at? d_ i3=some e9∧∃e11:SNode,((((e9.1==8))=false)→at? d_ i3=some e11)∧((((e9.1==8)||(e11.1==9)))=true→r_=true)∧((((e9.1==8)||(e11.1==9)))=false→(InR .i64 (i3+1))∧zbz.l1 d_ r_ X1 k_0 (i3+1)))∧((decide (i3<(d_.length:Int)))=false→X1)
def zbz (d_:SDesc) (r_:Bool):Prop:=∃k4,zbz.l1 d_ r_ (zbz.j1 r_) k4 0
def zgw (d_:SDesc) (ev_:SDesc) (nv_:Int) (r_:Int):Prop:=∃r2:Bool,zbz d_ r2∧∃r4:Bool,(((r2)=false)→zbz ev_ r4)∧(((r2||r4))=true→r_=(min nv_ 10))∧(((r2||r4))=false→r_=nv_)
def zo.j1 (i_:Int) (r_:Int) (l2:(List Int)):Prop:=∃e5:Int,at? l2 i_=some e5∧r_=e5
def zo.j2 (L1_:(List Int)→Int→Prop) (l7:(List Int)) (k9:Int) (w20:Int):Prop:=(l7.length+[(min 2 w20)].length≤2147483648)∧(InR .i64 (k9+1))∧L1_ (l7++[(min 2 w20)]) (k9+1)
def zo.j3 (L2_:Int→Int→Prop) (w37:Int) (t38:Int) (p46:Int):Prop:=(InR .i64 (w37+p46))∧(InR .i64 (t38+1))∧L2_ (min 2 (w37+p46)) (t38+1)
def zo.l3 (l7:(List Int)) (e15:SNode) (t38:Int) (X3:Int→Prop):Nat→Int→Int→Prop
 | 0,_,_=>False
 | k_0+1,p51,m52=>((decide (m52<t38))=true→∃e59:Int,at? l7 e15.2.1=some e59∧(InR .i64 (p51*e59))∧(InR .i64 (m52+1))∧zo.l3 l7 e15 t38 X3 k_0 (min 2 (p51*e59)) (m52+1))∧((decide (m52<t38))=false→X3 p51)
def zo.l2 (l7:(List Int)) (e15:SNode) (X2:Int→Prop):Nat→Int→Int→Prop
 | 0,_,_=>False
 | k_0+1,w37,t38=>((decide (t38≤e15.2.2.2.2.1))=true→∃k53,zo.l3 l7 e15 t38 (zo.j3 (zo.l2 l7 e15 X2 k_0) w37 t38) k53 1 0)∧((decide (t38≤e15.2.2.2.2.1))=false→X2 w37)
def zo.l1 (d_:SDesc) (i_:Int) (X1:(List Int)→Prop):Nat→(List Int)→Int→Prop
 | 0,_,_=>False
 | k_0+1,l7,k9=>((decide (k9≤i_))=true→∃e15:SNode,at? d_ k9=some e15∧(((e15.1==1))=true→(zo.j2 (zo.l1 d_ i_ X1 k_0) l7 k9) 1)∧(((e15.1==1))=false→(((e15.1==4))=true→∃e25:Int,at? l7 e15.2.1=some e25∧∃e27:Int,at? l7 e15.2.2.1=some e27∧(InR .i64 (e25*e27))∧(zo.j2 (zo.l1 d_ i_ X1 k_0) l7 k9) (e25*e27))∧(((e15.1==4))=false→(((e15.1==5))=true→∃e30:Int,at? l7 e15.2.1=some e30∧∃e32:Int,at? l7 e15.2.2.1=some e32∧(InR .i64 (e30+e32))∧(zo.j2 (zo.l1 d_ i_ X1 k_0) l7 k9) (e30+e32))∧(((e15.1==5))=false→(((e15.1==6))=true→∃e35:Int,at? l7 e15.2.1=some e35∧((decide (0<e35))=true→(zo.j2 (zo.l1 d_ i_ X1 k_0) l7 k9) 2)∧((decide (0<e35))=false→(zo.j2 (zo.l1 d_ i_ X1 k_0) l7 k9) 1))∧(((e15.1==6))=false→(((e15.1==7))=true→∃k39,zo.l2 l7 e15 (zo.j2 (zo.l1 d_ i_ X1 k_0) l7 k9) k39 0 e15.2.2.2.1)∧(((e15.1==7))=false→(zo.j2 (zo.l1 d_ i_ X1 k_0) l7 k9) 0))))))∧((decide (k9≤i_))=false→X1 l7)
def zo (d_:SDesc) (i_:Int) (r_:Int):Prop:=∃k10,zo.l1 d_ i_ (zo.j1 i_ r_) k10 ([]:(List Int)) 0
def zb5.j1 (r_:(Int × Bool)):Prop:=r_=(0,false)
def zb5.l1 (d_:SDesc) (r_:(Int × Bool)) (X1:Prop):Nat→Int→Prop
 | 0,_=>False
 | k_0+1,i3=>((decide (i3<(d_.length:Int)))=true→∃e9:SNode,at? d_ i3=some e9∧∃e11:SNode,(((((e9.1==6)||(e9.1==7)))=true)→at? d_ i3=some e11)∧∃r13:Int,(((((e9.1==6)||(e9.1==7)))=true)→zo d_ e11.2.1 r13)∧(((((e9.1==6)||(e9.1==7))&&(r13 != 0)))=true→r_=(i3,true))∧(((((e9.1==6)||(e9.1==7))&&(r13 != 0)))=false→(InR .i64 (i3+1))∧zb5.l1 d_ r_ X1 k_0 (i3+1)))∧((decide (i3<(d_.length:Int)))=false→X1)
def zb5 (d_:SDesc) (r_:(Int × Bool)):Prop:=∃k4,zb5.l1 d_ r_ (zb5.j1 r_) k4 0
def zgi (d_:SDesc) (r_:Bool):Prop:=∃r2:Bool,zi5 d_ r2∧(((!r2))=true→r_=false)∧(((!r2))=false→∃r4:(Int × Bool),zb5 d_ r4∧r_=(!r4.2))
def zdh (x_:SItem) (y_:SItem) (r_:Int):Prop:=∃r1:Int,zcs x_.1 y_.1 r1∧∃r3:Int,zcs x_.2.1 y_.2.1 r3∧∃r5:Int,zcs x_.2.2.1 y_.2.2.1 r5∧∃r7:Int,zcs x_.2.2.2 y_.2.2.2 r7∧∃r9:Int,zck [r1,r3,r5,r7] r9∧r_=r9
def zfw (a_:(List SItem)) (b_:(List SItem)) (r_:Int):Prop:=∃r2:Int,zcs (a_.length:Int) (b_.length:Int) r2∧(((r2 != 0))=true→r_=r2)∧(((r2 != 0))=false→∃r4:Int,zf a_ b_ (fun q_=>zdh q_.1 q_.2.1 q_.2.2) r4∧r_=r4)
def zce.j1 (r_:((List SItem) × Bool)) (out5:(List SItem)):Prop:=r_=(out5,true)
def zce.l1 (r1:(List SItem)) (r_:((List SItem) × Bool)) (X1:(List SItem)→Prop):Nat→(List SItem)→Int→Prop
 | 0,_,_=>False
 | k_0+1,out8,v10=>((decide (v10<(r1.length:Int)))=true→∃e16:SItem,at? out8 v10=some e16∧(((e16.1 != 5))=true→(InR .i64 (v10+1))∧zce.l1 r1 r_ X1 k_0 out8 (v10+1))∧(((e16.1 != 5))=false→((decide (e16.2.2.1≤0))=true→r_=(([]:(List SItem)),false))∧((decide (e16.2.2.1≤0))=false→∃e23:SItem,at? out8 v10=some e23∧(InR .i64 (e23.2.2.1-1))∧∃e26:SItem,at? out8 v10=some e26∧(InR .i64 (v10+1))∧zce.l1 r1 r_ X1 k_0 (out8.set (v10:Int).toNat (e26.1,e26.2.1,e23.2.2.1-1,e26.2.2.2)) (v10+1))))∧((decide (v10<(r1.length:Int)))=false→X1 out8)
def zce (s_:(List SItem)) (r_:((List SItem) × Bool)):Prop:=∃r1:(List SItem),zb1 s_ r1∧∃k11,zce.l1 r1 r_ (zce.j1 r_) k11 r1 0
def zje (d_:SDesc) (r_:(List SItem)):Prop:=(InR .i64 ((d_.length:Int)-1))∧r_=[(1,(d_.length:Int)-1,0,0)]
def zj4 (d_:SDesc) (s_:(List SItem)) (r_:Bool):Prop:=((((s_.length:Int)==0))=true→r_=true)∧((((s_.length:Int)==0))=false→∃e3:SItem,at? s_ 0=some e3∧(((e3.1==1))=true→∃e6:SNode,at? d_ e3.2.1=some e6∧∃e8:Bool,(((decide (e6.1<10))=true)→at? gdat1 e6.1=some e8)∧r_=((decide (e6.1<10))&&e8))∧(((e3.1==1))=false→(((e3.1==3))=true→(((e3.1==3))=true→r_=true)∧(((e3.1==3))=false→r_=false))∧(((e3.1==3))=false→(((e3.1==4))=true→r_=true)∧(((e3.1==4))=false→r_=false))))
def zcf (rest_:(List SItem)) (list_:(List SItem)) (r_:(List SItem)):Prop:=∃r1:(List SItem),zg [list_,rest_] r1∧r_=r1
def zeq (i_:Int) (r_:SItem):Prop:=r_=(1,i_,0,0)
def zcw.j1 (r_:(List (List SItem))) (out24:(List (List SItem))):Prop:=r_=out24
def zcw.j2 (s_:(List SItem)) (r_:(List (List SItem))) (e2:SItem) (e6:SNode) (out17:(List (List SItem))):Prop:=((decide (0<e2.2.2.2))=true→∃r27:SItem,zeq e6.2.1 r27∧(InR .i64 (e2.2.2.1-1))∧(InR .i64 (e2.2.2.2-1))∧∃r31:(List SItem),zcf (s_.drop (1:Int).toNat) [r27,(e2.1,e2.2.1,(max (e2.2.2.1-1) 0),e2.2.2.2-1)] r31∧(out17.length+[r31].length≤2147483648)∧(zcw.j1 r_) (out17++[r31]))∧((decide (0<e2.2.2.2))=false→(zcw.j1 r_) out17)
def zcw (d_:SDesc) (s_:(List SItem)) (r_:(List (List SItem))):Prop:=∃e2:SItem,at? s_ 0=some e2∧((0:Int)≤1∧1≤(s_.length:Int))∧∃e6:SNode,at? d_ e2.2.1=some e6∧((((e2.1==5)&&(e2.2.2.1==0)))=true→∃r11:(List SItem),zcf (s_.drop (1:Int).toNat) ([]:(List SItem)) r11∧r_=[r11])∧((((e2.1==5)&&(e2.2.2.1==0)))=false→(((e2.1==5))=true→r_=([]:(List (List SItem))))∧(((e2.1==5))=false→(((e2.1==2))=true→(((e2.2.2.1==0))=true→∃r35:(List SItem),zcf (s_.drop (1:Int).toNat) ([]:(List SItem)) r35∧(([]:(List (List SItem))).length+[r35].length≤2147483648)∧(zcw.j2 s_ r_ e2 e6) (([]:(List (List SItem)))++[r35]))∧(((e2.2.2.1==0))=false→(zcw.j2 s_ r_ e2 e6) ([]:(List (List SItem)))))∧(((e2.1==2))=false→(((e6.1==1))=true→∃r42:(List SItem),zcf (s_.drop (1:Int).toNat) ([]:(List SItem)) r42∧r_=[r42])∧(((e6.1==1))=false→(((e6.1==3))=true→∃r47:(List SItem),zcf (s_.drop (1:Int).toNat) [(3,e2.2.1,0,0)] r47∧r_=[r47])∧(((e6.1==3))=false→(((e6.1==4))=true→∃r52:SItem,zeq e6.2.1 r52∧∃r54:SItem,zeq e6.2.2.1 r54∧∃r56:(List SItem),zcf (s_.drop (1:Int).toNat) [r52,r54] r56∧r_=[r56])∧(((e6.1==4))=false→(((e6.1==5))=true→∃r61:SItem,zeq e6.2.1 r61∧∃r63:(List SItem),zcf (s_.drop (1:Int).toNat) [r61] r63∧∃r65:SItem,zeq e6.2.2.1 r65∧∃r67:(List SItem),zcf (s_.drop (1:Int).toNat) [r65] r67∧r_=[r63,r67])∧(((e6.1==5))=false→(((e6.1==6))=true→∃r72:(List SItem),zcf (s_.drop (1:Int).toNat) ([]:(List SItem)) r72∧∃r74:SItem,zeq e6.2.1 r74∧∃r76:(List SItem),zcf (s_.drop (1:Int).toNat) [r74,e2] r76∧r_=[r72,r76])∧(((e6.1==6))=false→∃r81:(List SItem),zcf (s_.drop (1:Int).toNat) [(2,e2.2.1,e6.2.2.2.1,e6.2.2.2.2.1)] r81∧r_=[r81]))))))))
def zkr (a_:SBranch) (b_:SBranch) (r_:Int):Prop:=∃r1:Int,zfw a_.1 b_.1 r1∧r_=r1
def zja (nv_:SNode) (ahead_:Int) (r_:(List SItem)):Prop:=r_=[(1,nv_.2.1,0,0),(5,0,ahead_,0)]
def zg3 (s_:Sstep_next) (r_:((List SItem) × Bool)):Prop:=(((s_.1.1==8))=true→∃r2:(List SItem),zja s_.1 s_.2.2 r2∧r_=(r2,true))∧(((s_.1.1==8))=false→(((s_.1.1==9))=true→r_=([(4,s_.2.1.2.1,s_.2.2,0)],true))∧(((s_.1.1==9))=false→∃r6:Bool,zfz s_.1.2.2.2.2.2.1 s_.2.2 r6∧r_=(([]:(List SItem)),r6)))
def zg2 (s_:Sstep_next) (r_:((List SItem) × Bool)):Prop:=(InR .i64 (s_.2.1.2.2.1+1))∧∃b4:Bool,b4=((s_.2.1.2.2.1+1)==(s_.1.2.2.2.2.2.2.length:Int))∧((b4)=true→∃c6:Int,zd2 s_.1.2.2.2.2.2.2 s_.2.1.2.2.1=some c6∧r_=(([]:(List SItem)),(c6==s_.2.2)))∧((b4)=false→∃c10:Int,zd2 s_.1.2.2.2.2.2.2 s_.2.1.2.2.1=some c10∧r_=([(s_.2.1.1,s_.2.1.2.1,s_.2.1.2.2.1+1,s_.2.1.2.2.2)],(c10==s_.2.2)))
def zg4 (s_:Sstep_next) (r_:((List SItem) × Bool)):Prop:=(InR .i64 (256*s_.2.1.2.2.1))∧(InR .i64 ((256*s_.2.1.2.2.1)+s_.2.2))∧∃r3:(List SItem),zja s_.1 ((256*s_.2.1.2.2.1)+s_.2.2) r3∧r_=(r3,true)
def next_On_1 (a_:SBranch) (b_:SBranch) (r_:Int):Prop:=∃r1:Int,zfw a_.1 b_.1 r1∧r_=r1
def dyn0 (f_:Option Nat) (x0_:Sstep_next) (r_:((List SItem) × Bool)):Prop:=(f_=some 238∧zg3 x0_ r_)∨(f_=some 239∧zg2 x0_ r_)∨(f_=some 236∧zg4 x0_ r_)
def zkm (d_:SDesc) (s_:(List SItem)) (cv_:Int) (r_:((List SItem) × Bool)):Prop:=((((s_.length:Int)==0))=true→r_=(([]:(List SItem)),false))∧((((s_.length:Int)==0))=false→((0:Int)≤1∧1≤(s_.length:Int))∧∃r3:((List SItem) × Bool),zce (s_.drop (1:Int).toNat) r3∧∃e5:SItem,at? s_ 0=some e5∧((((!r3.2)||(!(zhh gfm0 e5.1))))=true→r_=(([]:(List SItem)),false))∧((((!r3.2)||(!(zhh gfm0 e5.1))))=false→∃e8:SItem,at? s_ 0=some e8∧∃e10:SNode,at? d_ e8.2.1=some e10∧∃e12:SItem,at? s_ 0=some e12∧∃r14:((List SItem) × Bool),dyn0 (zd6 gfm0 e5.1 none) (e10,e12,cv_) r14∧(((!r14.2))=true→r_=(([]:(List SItem)),false))∧(((!r14.2))=false→∃r17:(List SItem),zg [r14.1,r3.1] r17∧r_=(r17,true))))
def zbn.j1 (r_:(List SBranch)) (out12:(List SBranch)):Prop:=∃r15:(List SBranch),zjt out12 r15∧r_=r15
def zbn.l1 (many5:(List (Str × Int))) (out7:(List SBranch)) (X1:(List SBranch)→Prop):Nat→(List SBranch)→Int→Prop
 | 0,_,_=>False
 | k_0+1,out17,v19=>((decide (v19<(out7.length:Int)))=true→∃e26:SBranch,at? out17 v19=some e26∧∃r28:Str,zkq e26.1 r28∧∃e30:SBranch,at? out17 v19=some e30∧(InR .i64 (v19+1))∧zbn.l1 many5 out7 X1 k_0 (out17.set (v19:Int).toNat (e30.1,(zd6 many5 r28 0))) (v19+1))∧((decide (v19<(out7.length:Int)))=false→X1 out17)
def zbn.j2 (r_:(List SBranch)) (many5:(List (Str × Int))) (out7:(List SBranch)):Prop:=∃k20,zbn.l1 many5 out7 (zbn.j1 r_) k20 out7 0
def zbn.j3 (L2_:(List (Str × Int))→(List SBranch)→Int→Prop) (many33:(List (Str × Int))) (v37:Int) (e44:SBranch) (r53:Str) (out56:(List SBranch)):Prop:=(InR .i64 ((zd6 many33 r53 0)+e44.2))∧(InR .i64 (v37+1))∧L2_ (zfv many33 r53 (min ((zd6 many33 r53 0)+e44.2) 2)) out56 (v37+1)
def zbn.l2 (d_:SDesc) (cv_:Int) (r3:(List SBranch)) (X2:(List (Str × Int))→(List SBranch)→Prop):Nat→(List (Str × Int))→(List SBranch)→Int→Prop
 | 0,_,_,_=>False
 | k_0+1,many33,out35,v37=>((decide (v37<(r3.length:Int)))=true→∃e44:SBranch,at? r3 v37=some e44∧∃r49:((List SItem) × Bool),zkm d_ e44.1 cv_ r49∧(((!r49.2))=true→(InR .i64 (v37+1))∧zbn.l2 d_ cv_ r3 X2 k_0 many33 out35 (v37+1))∧(((!r49.2))=false→∃r53:Str,zkq r49.1 r53∧((((zd6 many33 r53 0)==0))=true→(out35.length+[(r49.1,0)].length≤2147483648)∧(zbn.j3 (zbn.l2 d_ cv_ r3 X2 k_0) many33 v37 e44 r53) (out35++[(r49.1,0)]))∧((((zd6 many33 r53 0)==0))=false→(zbn.j3 (zbn.l2 d_ cv_ r3 X2 k_0) many33 v37 e44 r53) out35)))∧((decide (v37<(r3.length:Int)))=false→X2 many33 out35)
def zbn (d_:SDesc) (s_:(List SItem)) (cv_:Int) (r_:(List SBranch)):Prop:=∃r3:(List SBranch),zfh d_ s_ r3∧∃k38,zbn.l2 d_ cv_ r3 (zbn.j2 r_) k38 ([]:(List (Str × Int))) ([]:(List SBranch)) 0
def zcr.j1 (r_:Int):Prop:=r_=0
def zcr.l1 (r2:(List SBranch)) (r_:Int) (X1:Prop):Nat→Int→Prop
 | 0,_=>False
 | k_0+1,v5=>((decide (v5<(r2.length:Int)))=true→∃e11:SBranch,at? r2 v5=some e11∧((((e11.1.length:Int)==0))=true→r_=e11.2)∧((((e11.1.length:Int)==0))=false→(InR .i64 (v5+1))∧zcr.l1 r2 r_ X1 k_0 (v5+1)))∧((decide (v5<(r2.length:Int)))=false→X1)
def zcr (d_:SDesc) (s_:(List SItem)) (r_:Int):Prop:=∃r2:(List SBranch),zfh d_ s_ r2∧∃k6,zcr.l1 r2 r_ (zcr.j1 r_) k6 0
def zbs.j1 (r_:(List Cl)) (out2:(List Cl)):Prop:=r_=out2
def zbs.l1 (X1:(List Cl)→Prop):Nat→(List Cl)→Int→Prop
 | 0,_,_=>False
 | k_0+1,out5,v7=>((decide (v7<256))=true→∃r13:Cl,zdg (v7 % 256) (v7 % 256) r13∧(out5.length+[r13].length≤2147483648)∧(InR .i64 (v7+1))∧zbs.l1 X1 k_0 (out5++[r13]) (v7+1))∧((decide (v7<256))=false→X1 out5)
def zbs  (r_:(List Cl)):Prop:=∃k8,zbs.l1 (zbs.j1 r_) k8 ([]:(List Cl)) 0
def zbh.j1 (r_:(List Cl)) (out4:(List Cl)):Prop:=r_=out4
def zbh.l1 (d_:SDesc) (r2:(List SBranch)) (X1:(List Cl)→Prop):Nat→(List Cl)→Int→Prop
 | 0,_,_=>False
 | k_0+1,out7,v9=>((decide (v9<(r2.length:Int)))=true→∃e15:SBranch,at? r2 v9=some e15∧((((e15.1.length:Int)==0))=true→(InR .i64 (v9+1))∧zbh.l1 d_ r2 X1 k_0 out7 (v9+1))∧((((e15.1.length:Int)==0))=false→∃e21:SItem,at? e15.1 0=some e21∧∃e26:SNode,at? d_ e21.2.1=some e26∧(((e21.1==3))=true→∃c31:Int,zd2 e26.2.2.2.2.2.2 e21.2.2.1=some c31∧∃c33:Int,zd2 e26.2.2.2.2.2.2 e21.2.2.1=some c33∧∃r35:Cl,zdg c31 c33 r35∧(out7.length+[r35].length≤2147483648)∧(InR .i64 (v9+1))∧zbh.l1 d_ r2 X1 k_0 (out7++[r35]) (v9+1))∧(((e21.1==3))=false→(((e26.1==2))=true→(out7.length+[e26.2.2.2.2.2.1].length≤2147483648)∧(InR .i64 (v9+1))∧zbh.l1 d_ r2 X1 k_0 (out7++[e26.2.2.2.2.2.1]) (v9+1))∧(((e26.1==2))=false→∃r43:(List Cl),zbs  r43∧(out7.length+r43.length≤2147483648)∧(InR .i64 (v9+1))∧zbh.l1 d_ r2 X1 k_0 (out7++r43) (v9+1)))))∧((decide (v9<(r2.length:Int)))=false→X1 out7)
def zbh (d_:SDesc) (s_:(List SItem)) (r_:(List Cl)):Prop:=∃r2:(List SBranch),zfh d_ s_ r2∧∃k10,zbh.l1 d_ r2 (zbh.j1 r_) k10 ([]:(List Cl)) 0
def zhu (s_:(List SItem)) (cap0_:SDesc) (r_:Bool):Prop:=∃r1:Int,zcr cap0_ s_ r1∧r_=decide (0<r1)
def zey (d_:SDesc) (l_:(List (List SItem))) (r_:Bool):Prop:=∃r1:Bool,zbl l_ (fun q_=>zhu q_.1 d_ q_.2) r1∧r_=r1
def zbo.j1 (r_:(List Cl)) (out2:(List Cl)):Prop:=r_=out2
def zbo.l1 (d_:SDesc) (l_:(List (List SItem))) (X1:(List Cl)→Prop):Nat→(List Cl)→Int→Prop
 | 0,_,_=>False
 | k_0+1,out5,v7=>((decide (v7<(l_.length:Int)))=true→∃e13:(List SItem),at? l_ v7=some e13∧∃r15:(List Cl),zbh d_ e13 r15∧((out5.length+r15.length)*32≤140737488355328)∧(InR .i64 (v7+1))∧zbo.l1 d_ l_ X1 k_0 (out5++r15) (v7+1))∧((decide (v7<(l_.length:Int)))=false→X1 out5)
def zbo (d_:SDesc) (l_:(List (List SItem))) (r_:(List Cl)):Prop:=∃k8,zbo.l1 d_ l_ (zbo.j1 r_) k8 ([]:(List Cl)) 0
def zcq.j1 (r_:(List Cl)) (out3:(List Cl)):Prop:=r_=out3
def zcq.l1 (l_:(List Cl)) (X1:(List Cl)→Prop):Nat→(List (Cl × Bool))→(List Cl)→Int→Prop
 | 0,_,_,_=>False
 | k_0+1,met6,out8,v10=>((decide (v10<(l_.length:Int)))=true→∃e17:Cl,at? l_ v10=some e17∧(((!(zd6 met6 e17 false)))=true→(out8.length+[e17].length≤2147483648)∧(InR .i64 (v10+1))∧zcq.l1 l_ X1 k_0 (zfv met6 e17 true) (out8++[e17]) (v10+1))∧(((!(zd6 met6 e17 false)))=false→(InR .i64 (v10+1))∧zcq.l1 l_ X1 k_0 (zfv met6 e17 true) out8 (v10+1)))∧((decide (v10<(l_.length:Int)))=false→X1 out8)
def zcq (l_:(List Cl)) (r_:(List Cl)):Prop:=∃k11,zcq.l1 l_ (zcq.j1 r_) k11 ([]:(List (Cl × Bool))) ([]:(List Cl)) 0
def zb2.j1 (r_:(List (List SItem))) (found3:(List (Str × (List SItem)))):Prop:=sets_On_t found3 r_
def zb2.j2 (L1_:(List (Str × (List SItem)))→Int→Prop) (v10:Int) (found20:(List (Str × (List SItem)))):Prop:=(InR .i64 (v10+1))∧L1_ found20 (v10+1)
def zb2.l2 (r18:(List SBranch)) (X2:(List (Str × (List SItem)))→Prop):Nat→(List (Str × (List SItem)))→Int→Prop
 | 0,_,_=>False
 | k_0+1,found24,v26=>((decide (v26<(r18.length:Int)))=true→∃e32:SBranch,at? r18 v26=some e32∧∃r36:Str,zkq e32.1 r36∧(InR .i64 (v26+1))∧zb2.l2 r18 X2 k_0 (zfv found24 r36 e32.1) (v26+1))∧((decide (v26<(r18.length:Int)))=false→X2 found24)
def zb2.l1 (d_:SDesc) (l_:(List (List SItem))) (cv_:Int) (X1:(List (Str × (List SItem)))→Prop):Nat→(List (Str × (List SItem)))→Int→Prop
 | 0,_,_=>False
 | k_0+1,found8,v10=>((decide (v10<(l_.length:Int)))=true→∃e16:(List SItem),at? l_ v10=some e16∧∃r18:(List SBranch),zbn d_ e16 cv_ r18∧∃k27,zb2.l2 r18 (zb2.j2 (zb2.l1 d_ l_ cv_ X1 k_0) v10) k27 found8 0)∧((decide (v10<(l_.length:Int)))=false→X1 found8)
def zb2 (d_:SDesc) (l_:(List (List SItem))) (cv_:Int) (r_:(List (List SItem))):Prop:=∃k11,zb2.l1 d_ l_ cv_ (zb2.j1 r_) k11 ([]:(List (Str × (List SItem)))) 0
def zhe (d_:SDesc) (l_:(List (List SItem))) (r_:(List Int)):Prop:=∃r1:(List Cl),zbo d_ l_ r1∧∃r3:(List Cl),zcq r1 r3∧∃r5:(List Int),zb4 r3 r5∧r_=r5
def zf9 (d_:SDesc) (r_:(List (List SItem))):Prop:=∃r1:(List SItem),zje d_ r1∧r_=[r1]
def zw.j1 (r_:(List Int)) (out2:(List Int)):Prop:=∃r5:(List Int),zu out2 r5∧r_=r5
def zw.l1 (l_:(List Smade_scantling_apart_thing_search)) (X1:(List Int)→Prop):Nat→Int→(List Int)→Prop
 | 0,_,_=>False
 | k_0+1,i7,out8=>∃e14:Smade_scantling_apart_thing_search,at? l_ i7=some e14∧((decide (0≤e14.2.1))=true→∃e17:Smade_scantling_apart_thing_search,at? l_ i7=some e17∧(out8.length+[e17.2.2].length≤2147483648)∧∃e21:Smade_scantling_apart_thing_search,at? l_ i7=some e21∧zw.l1 l_ X1 k_0 e21.2.1 (out8++[e17.2.2]))∧((decide (0≤e14.2.1))=false→X1 out8)
def zw (l_:(List Smade_scantling_apart_thing_search)) (i_:Int) (r_:(List Int)):Prop:=∃k10,zw.l1 l_ (zw.j1 r_) k10 i_ ([]:(List Int))
def ze.j1 (r_:SFound_scantling_apart_thing_search) (v10:SFound_scantling_apart_thing_search) (list11:(List Smade_scantling_apart_thing_search)):Prop:=r_=((1,[],[],0,0,0,(list11.length:Int)),([],[],0))
def ze.j2 (L1_:SFound_scantling_apart_thing_search→(List Smade_scantling_apart_thing_search)→(List (Str × Bool))→Int→Prop) (v15:SFound_scantling_apart_thing_search) (i20:Int) (list44:(List Smade_scantling_apart_thing_search)) (seen46:(List (Str × Bool))):Prop:=(InR .i64 (i20+1))∧L1_ v15 list44 seen46 (i20+1)
def ze.l2 (s_:SSpace_scantling_apart_thing_search) (i20:Int) (r42:(List SOn_scantling_apart_thing_search)) (X2:(List Smade_scantling_apart_thing_search)→(List (Str × Bool))→Prop):Nat→(List Smade_scantling_apart_thing_search)→(List (Str × Bool))→Int→Prop
 | 0,_,_,_=>False
 | k_0+1,list53,seen55,v57=>((decide (v57<(r42.length:Int)))=true→∃e66:SOn_scantling_apart_thing_search,at? r42 v57=some e66∧∃r72:Str,s_.2.1 (e66.2,r72)∧(((!(zd6 seen55 r72 false)))=true→(list53.length+[(e66.2,i20,e66.1)].length≤2147483648)∧(InR .i64 (v57+1))∧ze.l2 s_ i20 r42 X2 k_0 (list53++[(e66.2,i20,e66.1)]) (zfv seen55 r72 true) (v57+1))∧(((!(zd6 seen55 r72 false)))=false→(InR .i64 (v57+1))∧ze.l2 s_ i20 r42 X2 k_0 list53 seen55 (v57+1)))∧((decide (v57<(r42.length:Int)))=false→X2 list53 seen55)
def ze.l1 (s_:SSpace_scantling_apart_thing_search) (budget_:Int) (r_:SFound_scantling_apart_thing_search) (X1:SFound_scantling_apart_thing_search→(List Smade_scantling_apart_thing_search)→Prop):Nat→SFound_scantling_apart_thing_search→(List Smade_scantling_apart_thing_search)→(List (Str × Bool))→Int→Prop
 | 0,_,_,_,_=>False
 | k_0+1,v15,list16,seen18,i20=>((decide (i20<(list16.length:Int)))=true→((decide (budget_≤i20))=true→r_=((3,[],[],0,0,0,(max budget_ 0)),([],[],0)))∧((decide (budget_≤i20))=false→∃e30:Smade_scantling_apart_thing_search,at? list16 i20=some e30∧∃r37:Bool,s_.2.2.2 (e30.1,r37)∧((r37)=true→∃r39:(List Int),zw list16 i20 r39∧(InR .i64 (i20+1))∧r_=((2,r39,[],0,0,0,i20+1),e30.1))∧((r37)=false→∃r42:(List SOn_scantling_apart_thing_search),s_.2.2.1 (e30.1,r42)∧∃k58,ze.l2 s_ i20 r42 (ze.j2 (ze.l1 s_ budget_ r_ X1 k_0) v15 i20) k58 list16 seen18 0)))∧((decide (i20<(list16.length:Int)))=false→X1 v15 list16)
def ze (s_:SSpace_scantling_apart_thing_search) (budget_:Int) (r_:SFound_scantling_apart_thing_search):Prop:=∃r7:Str,s_.2.1 (s_.1,r7)∧∃k21,ze.l1 s_ budget_ r_ (ze.j1 r_) k21 ((0,[],[],0,0,0,0),([],[],0)) [(s_.1,(-1),0)] (zfv ([]:(List (Str × Bool))) r7 true) 0
def zh4 (d_:SDesc) (ev_:SDesc) (a_:(List (List SItem))) (b_:(List (List SItem))) (r_:(List Int)):Prop:=∃r1:(List Cl),zbo d_ a_ r1∧∃r3:(List Cl),zbo ev_ b_ r3∧∃r5:(List Cl),zh [r1,r3] r5∧∃r7:(List Cl),zcq r5 r7∧∃r9:(List Int),zb4 r7 r9∧r_=r9
set_option maxRecDepth 100000
set_option maxHeartbeats 2000000
set_option synthInstance.maxSize 100000
set_option synthInstance.maxHeartbeats 200000
section
variable {u : Bool} [Dr u]
theorem zib {x_:Int} {r_:Bool} (h:zed x_ r_):Fn Tryz.prog 142 [(Pi x_)] (Rq (Pd.rep En.bool r_)):=by
 unfold zed at h;refine zbp Tryz.func142 J Tryz.ntmps142 (by rfl) (by simp) fun s0 a L=>?_;refine rA 1 L fun a s L=>?_;refine rA 4 L fun a s L=>?_;subst h;exact wp_ret (zdw J L J)
theorem zdf {x_:Int} {y_:Int} {r_:Int} (h:zcs x_ y_ r_):Fn Tryz.prog 111 [(Pi x_),(Pi y_)] (Rq (Pi r_)):=by
 unfold zcs at h;refine zbp Tryz.func111 J Tryz.ntmps111 (by rfl) (by simp) fun s0 a L=>?_;refine rA 1 L fun a s L=>?_;obtain ⟨r1,h2,h⟩:=h;refine ra 3 (p1 (zib h2)) L fun a s L=>?_;obtain ⟨r3,h4,h⟩:=h;refine ra 3 (p1 (zib h4)) L fun a s L=>?_;refine wp_seq_k fun K5 H5=>rA 1 L fun a s L=>?_;refine cn L h (fun h=>?_) fun h=>?_
 ·refine wp_seq_k fun K6 H6=>?_;refine rA 1 L fun a s L=>?_;refine cn L h (fun h=>?_) fun h=>?_
  ·refine rA 1 L fun a s L=>?_;subst h;exact wp_ret (zdw J L J)
  ·refine wp_skip (H6 _ _ ?_);refine rA 1 L fun a s L=>?_;subst h;exact wp_ret (zdw J L J)
 ·refine wp_skip (H5 _ _ ?_);refine wp_seq_k fun K7 H7=>rA 1 L fun a s L=>?_;refine cn L h (fun h=>?_) fun h=>?_
  ·refine rA 1 L fun a s L=>?_;subst h;exact wp_ret (zdw J L J)
  ·refine wp_skip (H7 _ _ ?_);refine wp_seq_k fun K8 H8=>rA 3 L fun a s L=>?_;refine cn L h (fun h=>?_) fun h=>?_
   ·refine rA 1 L fun a s L=>?_;subst h;exact wp_ret (zdw J L J)
   ·refine wp_skip (H8 _ _ ?_);refine wp_seq_k fun K9 H9=>rA 3 L fun a s L=>?_;refine cn L h (fun h=>?_) fun h=>?_
    ·refine rA 1 L fun a s L=>?_;subst h;exact wp_ret (zdw J L J)
    ·refine wp_skip (H9 _ _ ?_);refine rA 1 L fun a s L=>?_;subst h;exact wp_ret (zdw J L J)
theorem zcj {s1_:(List SItem)} {s2_:(List SItem)} {cmp_:(SItem × SItem × Int→Prop)} {r_:Int} (h:zf s1_ s2_ cmp_ r_):Fn Tryz.prog 112 [(Pd.rep (En.slice En.SItem) s1_),(Pd.rep (En.slice En.SItem) s2_),(Pd.rep EnF201 cmp_)] (Rq (Pi r_)):=by
 unfold zf at h;refine zbp Tryz.func112 J Tryz.ntmps112 (by rfl) (by simp) fun s0 a L=>?_;refine rA 1 L fun a s L=>?_;refine wp_seq_k fun K1 H1=>rA 3 L fun a s L=>?_;refine wp_block ?_;have J2:∀(a:Act) (s:St),Has N0 39 s0 a s [(0,(Pd.rep (En.slice En.SItem) s1_)),(1,(Pd.rep (En.slice En.SItem) s2_))]→((zf.j1 s1_ s2_ r_))→K1 a s.w:=by
  intro a s L h;unfold zf.j1 at h;show K1 a s.w;refine H1 _ _ (wp_seq_k fun K3 H3=>?_);refine rA 5 L fun a s L=>?_;refine cn L h (fun h=>?_) fun h=>?_
  ·refine rA 1 L fun a s L=>?_;subst h;exact wp_ret (zdw J L J)
  ·refine wp_skip (H3 _ _ ?_);refine rA 1 L fun a s L=>?_;subst h;exact wp_ret (zdw J L J)
 obtain ⟨k5,h⟩:=h;refine lpn (fun k6 a s=>∃(v4:Int),Has N0 39 s0 a s [(0,(Pd.rep (En.slice En.SItem) s1_)),(1,(Pd.rep (En.slice En.SItem) s2_)),(2,(Pd.rep EnF201 cmp_)),(11,(Pd.rep (En.slice En.SItem) s1_)),(12,(Pi (s1_.length:Int))),(13,(Pi v4))]∧zf.l1 s1_ s2_ cmp_ r_ (zf.j1 s1_ s2_ r_) k6 v4) k5 ⟨0,L.kk,h⟩ ?_;rintro k6 a s ⟨v4,L,h⟩ KL7 hKL7;unfold zf.l1 at h;refine rA 1 L fun a s L=>?_;refine wp_seq_k fun K8 H8=>cn L h (fun h=>?_) fun h=>?_
 ·refine wp_skip (H8 _ _ ?_);refine wp_seq_k fun K9 H9=>wp_block ?_;obtain ⟨e10,h11,h⟩:=h;refine rs (sl 3 (p1 h11) L fun a s L=>?_);refine zba En.SItem (z:=(0,0,0,0)) 8 L zf2 J J J J fun a s g12 hg_ L=>?_;refine sA 1 L fun a s L=>?_;refine sB 8 L fun s L=>?_;refine es (wp_seq_k fun K13 H13=>?_);refine rA 4 L fun a s L=>?_;refine cn L h (fun h=>?_) fun h=>?_
  ·refine rA 1 L fun a s L=>?_;subst h;exact wp_ret (zdw J L J)
  ·refine wp_skip (H13 _ _ ?_);obtain ⟨e14,h15,h⟩:=h;refine rs (sl 4 (p1 h15) L fun a s L=>?_);have lt_d17:=L.blt 8 rfl;refine zba En.SItem (z:=(0,0,0,0)) 9 L zf2 J J J J fun a s g16 hg_ L=>?_;have d17:=Dis.newg hg_ lt_d17;refine sB 9 L fun s L=>?_;refine es ?_;obtain ⟨r18,h19,h⟩:=h;refine rs (sA 3 L fun a s L=>?_);refine sv (zfc (q:=(e10,e14,r18)) op h19 opz (fun _ _ _ h_=>h_) J J) L fun a s L=>?_;refine sA 1 L fun a s L=>?_;refine es (rA 2 L fun a s L=>?_);refine cn L h (fun h=>?_) fun h=>?_
   ·refine rA 2 L fun a s L=>?_;subst h;exact wp_ret (zdw J L J)
   ·refine wp_skip (H9 _ _ ?_);obtain ⟨h20,h⟩:=h;refine rg (sA 2 L fun a s L=>?_);refine en' ?_;exact hKL7 a s ⟨(v4+1),L.kk,h⟩
 ·refine wp_exit ?_;exact J2 a s (L.kk) h
theorem zrm {vals_:(List Int)} {r_:Int} (h:zck vals_ r_):Fn Tryz.prog 114 [(Pd.rep (En.slice (En.int .i64)) vals_)] (Rq (Pi r_)):=by
 unfold zck at h;refine zbp Tryz.func114 J Tryz.ntmps114 (by rfl) (by simp) fun s0 a L=>?_;refine rA 1 L fun a s L=>?_;refine rA 1 L fun a s L=>?_;refine wp_seq_k fun K1 H1=>rA 3 L fun a s L=>?_;refine wp_block ?_;have J2:∀(a:Act) (s:St),Has N0 18 s0 a s [(3,(Pi 0))]→((zck.j1 r_))→K1 a s.w:=by
  intro a s L h;unfold zck.j1 at h;show K1 a s.w;refine H1 _ _ (rA 2 L fun a s L=>?_);subst h;exact wp_ret (zdw J L J)
 obtain ⟨k4,h⟩:=h;refine lpn (fun k5 a s=>∃(v3:Int),Has N0 18 s0 a s [(3,(Pi 0)),(6,(Pd.rep (En.slice (En.int .i64)) vals_)),(7,(Pi (vals_.length:Int))),(8,(Pi v3))]∧zck.l1 vals_ r_ (zck.j1 r_) k5 v3) k4 ⟨0,L.kk,h⟩ ?_;rintro k5 a s ⟨v3,L,h⟩ KL6 hKL6;unfold zck.l1 at h;refine rA 1 L fun a s L=>?_;refine wp_seq_k fun K7 H7=>cn L h (fun h=>?_) fun h=>?_
 ·refine wp_skip (H7 _ _ ?_);refine wp_seq_k fun K8 H8=>wp_block ?_;obtain ⟨e9,h10,h⟩:=h;refine ra 3 (p1 h10) L fun a s L=>?_;refine rA 3 L fun a s L=>?_;refine cn L h (fun h=>?_) fun h=>?_
  ·refine rA 2 L fun a s L=>?_;subst h;exact wp_ret (zdw J L J)
  ·refine wp_skip (H8 _ _ ?_);obtain ⟨h11,h⟩:=h;refine rg (sA 2 L fun a s L=>?_);refine en' ?_;exact hKL6 a s ⟨(v3+1),L.kk,h⟩
 ·refine wp_exit ?_;exact J2 a s (L.kk) h
theorem zlp {x_:SItem} {y_:SItem} {r_:Int} (h:zdh x_ y_ r_):Fn Tryz.prog 113 [(Pd.rep En.SItem x_),(Pd.rep En.SItem y_)] (Rq (Pi r_)):=by
 unfold zdh at h;refine zbp Tryz.func113 J Tryz.ntmps113 (by rfl) (by simp) fun s0 a L=>?_;refine rA 3 L fun a s L=>?_;obtain ⟨r1,h2,r3,h4,r5,h6,r7,h8,r9,h10,h⟩:=h;refine wp_seq (rdx 22 (pp (zdf h2) (pp (zdf h4) (pp (zdf h6) (pp (zdf h8) (p1 (zrm h10)))))) L fun a s L=>?_);refine sA 1 L fun a s L=>?_;refine es ?_;subst h;exact wp_ret (zdw J L J)
theorem zgm {a_:(List SItem)} {b_:(List SItem)} {r_:Int} (h:zfw a_ b_ r_):Fn Tryz.prog 82 [(Pd.rep (En.slice En.SItem) a_),(Pd.rep (En.slice En.SItem) b_)] (Rq (Pi r_)):=by
 unfold zfw at h;refine zbp Tryz.func82 J Tryz.ntmps82 (by rfl) (by simp) fun s0 a L=>?_;refine rA 1 L fun a s L=>?_;refine wp_seq_k fun K1 H1=>?_;obtain ⟨r2,h3,h⟩:=h;refine ra 6 (p1 (zdf h3)) L fun a s L=>?_;refine rA 2 L fun a s L=>?_;refine cn L h (fun h=>?_) fun h=>?_
 ·refine rA 2 L fun a s L=>?_;subst h;exact wp_ret (zdw J L J)
 ·refine wp_skip (H1 _ _ ?_);obtain ⟨r4,h5,h⟩:=h;refine rs (sA 2 L fun a s L=>?_);refine sv (ze8 (zcj h5) (xs:=[.tmp 14,.tmp 15,.func 113]) (.cons op (.cons op (.cons (o_q (Pd.rep EnF201 (fun q_=>zdh q_.1 q_.2.1 q_.2.2)) (o_fun (zdz Tryz.func113 J (by rfl)) (fun q_ h_=>zlp h_))) .nil))) J J) L fun a s L=>?_;refine sA 1 L fun a s L=>?_;refine es ?_;subst h;exact wp_ret (zdw J L J)
theorem zmi {a_:SBranch} {b_:SBranch} {r_:Int} (h:zkr a_ b_ r_):Fn Tryz.prog 122 [(Pd.rep En.SBranch a_),(Pd.rep En.SBranch b_)] (Rq (Pi r_)):=by
 unfold zkr at h;refine zbp Tryz.func122 J Tryz.ntmps122 (by rfl) (by simp) fun s0 a L=>?_;refine rA 3 L fun a s L=>?_;obtain ⟨r1,h2,h⟩:=h;refine ra 6 (p1 (zgm h2)) L fun a s L=>?_;subst h;exact wp_ret (zdw J L J)
theorem next_On_1_ok {a_:SBranch} {b_:SBranch} {r_:Int} (h:next_On_1 a_ b_ r_):Fn Tryz.prog 108 [(Pd.rep En.SBranch a_),(Pd.rep En.SBranch b_)] (Rq (Pi r_)):=by
 unfold next_On_1 at h;refine zbp Tryz.func108 J Tryz.ntmps108 (by rfl) (by simp) fun s0 a L=>?_;refine rA 3 L fun a s L=>?_;obtain ⟨r1,h2,h⟩:=h;refine ra 6 (p1 (zgm h2)) L fun a s L=>?_;subst h;exact wp_ret (zdw J L J)
end
end Go.Proofs.YtkbboemafklkkaaGreatDoor.V
namespace Go.Proofs.YtkbboemafklkkaaGreatDoor.V
open Go Go.Shelf
set_option linter.unusedVariables false
set_option maxRecDepth 100000
def sl169_ren:Go.Shelf.Ren:=⟨fun | 169=>94 | n=>n,fun | 70=>163 | 9=>9 | 0=>0 | 72=>165 | 37=>25 | 127=>204 | 3=>3 | 5=>5 | n=>n,fun | n=>n⟩
theorem sl169:Go.Proofs.Lays.n169 Tryz.prog sl169_ren where
 mixed:=by kernel_rfl
 f169:=Tryz.func94.trans (congrArg some (by kernel_rfl))
 t0:=Tryz.underlying0
 a0:=Tryz.isAgg0
 z0:=Tryz.sizeOf0
 v0:=Tryz.zeroValue0
 t3:=Tryz.underlying3
 a3:=Tryz.isAgg3
 z3:=Tryz.sizeOf3
 v3:=Tryz.zeroValue3
 t9:=Tryz.underlying9
 a9:=Tryz.isAgg9
 z9:=Tryz.sizeOf9
 v9:=Tryz.zeroValue9
 t37:=Tryz.underlying25
 a37:=Tryz.isAgg25
 z37:=Tryz.sizeOf25
 v37:=Tryz.zeroValue25
 t70:=Tryz.underlying163
 a70:=Tryz.isAgg163
 z70:=Tryz.sizeOf163
 v70:=Tryz.zeroValue163
 t72:=Tryz.underlying165
 a72:=Tryz.isAgg165
 z72:=Tryz.sizeOf165
 v72:=Tryz.zeroValue165
 t127:=Tryz.underlying204
 a127:=Tryz.isAgg204
 z127:=Tryz.sizeOf204
 v127:=Tryz.zeroValue204
def sl171_ren:Go.Shelf.Ren:=⟨fun | 171=>85 | 243=>115 | 246=>143 | 283=>186 | 284=>187 | 285=>188 | 286=>189 | 129=>141 | 317=>206 | 318=>207 | 319=>208 | 320=>209 | 337=>216 | 338=>217 | n=>n,fun | 3=>3 | 9=>9 | 2=>2 | 4=>4 | 171=>276 | 0=>0 | 53=>36 | 37=>25 | 5=>5 | 173=>278 | 212=>296 | 51=>234 | 20=>20 | 213=>297 | 46=>197 | 232=>303 | 233=>304 | n=>n,fun | 17=>2 | 18=>3 | 19=>4 | n=>n⟩
theorem sl171:Go.Proofs.LaysM.n171 Tryz.prog sl171_ren where
 mixed:=by kernel_rfl
 f129:=Tryz.func141.trans (congrArg some (by kernel_rfl))
 f171:=Tryz.func85.trans (congrArg some (by kernel_rfl))
 f243:=Tryz.func115.trans (congrArg some (by kernel_rfl))
 f246:=Tryz.func143.trans (congrArg some (by kernel_rfl))
 f283:=Tryz.func186.trans (congrArg some (by kernel_rfl))
 f284:=Tryz.func187.trans (congrArg some (by kernel_rfl))
 f285:=Tryz.func188.trans (congrArg some (by kernel_rfl))
 f286:=Tryz.func189.trans (congrArg some (by kernel_rfl))
 f317:=Tryz.func206.trans (congrArg some (by kernel_rfl))
 f318:=Tryz.func207.trans (congrArg some (by kernel_rfl))
 f319:=Tryz.func208.trans (congrArg some (by kernel_rfl))
 f320:=Tryz.func209.trans (congrArg some (by kernel_rfl))
 f337:=Tryz.func216.trans (congrArg some (by kernel_rfl))
 f338:=Tryz.func217.trans (congrArg some (by kernel_rfl))
 t0:=Tryz.underlying0
 a0:=Tryz.isAgg0
 z0:=Tryz.sizeOf0
 v0:=Tryz.zeroValue0
 t2:=Tryz.underlying2
 a2:=Tryz.isAgg2
 z2:=Tryz.sizeOf2
 v2:=Tryz.zeroValue2
 t3:=Tryz.underlying3
 a3:=Tryz.isAgg3
 z3:=Tryz.sizeOf3
 v3:=Tryz.zeroValue3
 t4:=Tryz.underlying4
 a4:=Tryz.isAgg4
 z4:=Tryz.sizeOf4
 v4:=Tryz.zeroValue4
 t5:=Tryz.underlying5
 a5:=Tryz.isAgg5
 z5:=Tryz.sizeOf5
 v5:=Tryz.zeroValue5
 t9:=Tryz.underlying9
 a9:=Tryz.isAgg9
 z9:=Tryz.sizeOf9
 v9:=Tryz.zeroValue9
 t20:=Tryz.underlying20
 a20:=Tryz.isAgg20
 z20:=Tryz.sizeOf20
 v20:=Tryz.zeroValue20
 t37:=Tryz.underlying25
 a37:=Tryz.isAgg25
 z37:=Tryz.sizeOf25
 v37:=Tryz.zeroValue25
 t46:=Tryz.underlying197
 a46:=Tryz.isAgg197
 z46:=Tryz.sizeOf197
 v46:=Tryz.zeroValue197
 t51:=Tryz.underlying234
 a51:=Tryz.isAgg234
 z51:=Tryz.sizeOf234
 v51:=Tryz.zeroValue234
 t53:=Tryz.underlying36
 a53:=Tryz.isAgg36
 z53:=Tryz.sizeOf36
 v53:=Tryz.zeroValue36
 t171:=Tryz.underlying276
 a171:=Tryz.isAgg276
 z171:=Tryz.sizeOf276
 v171:=Tryz.zeroValue276
 t173:=Tryz.underlying278
 a173:=Tryz.isAgg278
 z173:=Tryz.sizeOf278
 v173:=Tryz.zeroValue278
 t212:=Tryz.underlying296
 a212:=Tryz.isAgg296
 z212:=Tryz.sizeOf296
 v212:=Tryz.zeroValue296
 t213:=Tryz.underlying297
 a213:=Tryz.isAgg297
 z213:=Tryz.sizeOf297
 t232:=Tryz.underlying303
 a232:=Tryz.isAgg303
 z232:=Tryz.sizeOf303
 v232:=Tryz.zeroValue303
 t233:=Tryz.underlying304
 a233:=Tryz.isAgg304
 z233:=Tryz.sizeOf304
 v233:=Tryz.zeroValue304
 g17:=by kernel_rfl
 g18:=by kernel_rfl
 g19:=by kernel_rfl
 i0:=by kernel_rfl
 i2:=by kernel_rfl
 i3:=by kernel_rfl
 i4:=by kernel_rfl
 i5:=by kernel_rfl
 i9:=by kernel_rfl
 i20:=by kernel_rfl
 i37:=by kernel_rfl
 i46:=by kernel_rfl
 i51:=by kernel_rfl
 i53:=by kernel_rfl
 i171:=by kernel_rfl
 i173:=by kernel_rfl
 i212:=by kernel_rfl
 i232:=by kernel_rfl
 i233:=by kernel_rfl
 m17:=by kernel_rfl
 m18:=by kernel_rfl
 m19:=by kernel_rfl
def slsort_ren:Go.Shelf.Ren:=⟨fun | 6=>107 | 15=>110 | 14=>131 | 28=>140 | 29=>141 | 20=>173 | 21=>174 | 22=>175 | 23=>176 | 24=>177 | 25=>178 | 26=>179 | 27=>180 | 46=>202 | 47=>182 | 48=>183 | 49=>203 | 50=>204 | 57=>215 | n=>n,fun | 22=>141 | 24=>144 | 25=>194 | 3=>3 | 39=>197 | 0=>0 | 53=>234 | 55=>36 | 4=>4 | 46=>228 | 45=>227 | 50=>111 | 5=>5 | 9=>9 | 66=>270 | 70=>274 | 76=>292 | 77=>293 | n=>n,fun | n=>n⟩
theorem slsort:Go.Proofs.SlLaysF0.n6 Tryz.prog slsort_ren where
 mixed:=by kernel_rfl
 f6:=⟨"slices.SortFunc[[]scantling/api.Branch,scantling/api.Branch]",by decide,Tryz.func107.trans (congrArg some (by kernel_rfl))⟩
 f14:=⟨"slices.pdqsortCmpFunc[scantling/api.Branch]",by decide,Tryz.func131.trans (congrArg some (by kernel_rfl))⟩
 f15:=Tryz.func110.trans (congrArg some (by kernel_rfl))
 f20:=⟨"slices.insertionSortCmpFunc[scantling/api.Branch]",by decide,Tryz.func173.trans (congrArg some (by kernel_rfl))⟩
 f21:=⟨"slices.heapSortCmpFunc[scantling/api.Branch]",by decide,Tryz.func174.trans (congrArg some (by kernel_rfl))⟩
 f22:=⟨"slices.breakPatternsCmpFunc[scantling/api.Branch]",by decide,Tryz.func175.trans (congrArg some (by kernel_rfl))⟩
 f23:=⟨"slices.choosePivotCmpFunc[scantling/api.Branch]",by decide,Tryz.func176.trans (congrArg some (by kernel_rfl))⟩
 f24:=⟨"slices.reverseRangeCmpFunc[scantling/api.Branch]",by decide,Tryz.func177.trans (congrArg some (by kernel_rfl))⟩
 f25:=⟨"slices.partialInsertionSortCmpFunc[scantling/api.Branch]",by decide,Tryz.func178.trans (congrArg some (by kernel_rfl))⟩
 f26:=⟨"slices.partitionEqualCmpFunc[scantling/api.Branch]",by decide,Tryz.func179.trans (congrArg some (by kernel_rfl))⟩
 f27:=⟨"slices.partitionCmpFunc[scantling/api.Branch]",by decide,Tryz.func180.trans (congrArg some (by kernel_rfl))⟩
 f28:=Tryz.func140.trans (congrArg some (by kernel_rfl))
 f29:=Tryz.func141.trans (congrArg some (by kernel_rfl))
 f46:=⟨"slices.siftDownCmpFunc[scantling/api.Branch]",by decide,Tryz.func202.trans (congrArg some (by kernel_rfl))⟩
 f47:=Tryz.func182.trans (congrArg some (by kernel_rfl))
 f48:=Tryz.func183.trans (congrArg some (by kernel_rfl))
 f49:=⟨"slices.medianAdjacentCmpFunc[scantling/api.Branch]",by decide,Tryz.func203.trans (congrArg some (by kernel_rfl))⟩
 f50:=⟨"slices.medianCmpFunc[scantling/api.Branch]",by decide,Tryz.func204.trans (congrArg some (by kernel_rfl))⟩
 f57:=⟨"slices.order2CmpFunc[scantling/api.Branch]",by decide,Tryz.func215.trans (congrArg some (by kernel_rfl))⟩
 t0:=Tryz.underlying0
 a0:=Tryz.isAgg0
 z0:=Tryz.sizeOf0
 v0:=Tryz.zeroValue0
 t3:=Tryz.underlying3
 a3:=Tryz.isAgg3
 z3:=Tryz.sizeOf3
 v3:=Tryz.zeroValue3
 t4:=Tryz.underlying4
 a4:=Tryz.isAgg4
 z4:=Tryz.sizeOf4
 v4:=Tryz.zeroValue4
 t5:=Tryz.underlying5
 a5:=Tryz.isAgg5
 z5:=Tryz.sizeOf5
 v5:=Tryz.zeroValue5
 t9:=Tryz.underlying9
 a9:=Tryz.isAgg9
 z9:=Tryz.sizeOf9
 v9:=Tryz.zeroValue9
 t22:=Tryz.underlying141
 a22:=Tryz.isAgg141
 z22:=Tryz.sizeOf141
 v22:=Tryz.zeroValue141
 t25:=Tryz.underlying194
 a25:=Tryz.isAgg194
 z25:=Tryz.sizeOf194
 v25:=Tryz.zeroValue194
 t39:=Tryz.underlying197
 a39:=Tryz.isAgg197
 z39:=Tryz.sizeOf197
 v39:=Tryz.zeroValue197
 t45:=Tryz.underlying227
 a45:=Tryz.isAgg227
 z45:=Tryz.sizeOf227
 v45:=Tryz.zeroValue227
 t46:=Tryz.underlying228
 a46:=Tryz.isAgg228
 z46:=Tryz.sizeOf228
 v46:=Tryz.zeroValue228
 t50:=Tryz.underlying111
 a50:=Tryz.isAgg111
 z50:=Tryz.sizeOf111
 v50:=Tryz.zeroValue111
 t53:=Tryz.underlying234
 a53:=Tryz.isAgg234
 z53:=Tryz.sizeOf234
 v53:=Tryz.zeroValue234
 t55:=Tryz.underlying36
 a55:=Tryz.isAgg36
 z55:=Tryz.sizeOf36
 v55:=Tryz.zeroValue36
 t66:=Tryz.underlying270
 a66:=Tryz.isAgg270
 z66:=Tryz.sizeOf270
 v66:=Tryz.zeroValue270
 t70:=Tryz.underlying274
 a70:=Tryz.isAgg274
 z70:=Tryz.sizeOf274
 v70:=Tryz.zeroValue274
 t76:=Tryz.underlying292
 a76:=Tryz.isAgg292
 z76:=Tryz.sizeOf292
 v76:=Tryz.zeroValue292
 t77:=Tryz.underlying293
 a77:=Tryz.isAgg293
 z77:=Tryz.sizeOf293
 v77:=Tryz.zeroValue293
def slsortS_ren:Go.Shelf.Ren:=⟨fun | 6=>81 | 15=>110 | 14=>109 | 28=>140 | 29=>141 | 20=>132 | 21=>133 | 22=>134 | 23=>135 | 24=>136 | 25=>137 | 26=>138 | 27=>139 | 46=>181 | 47=>182 | 48=>183 | 49=>184 | 50=>185 | 57=>205 | n=>n,fun | 22=>78 | 24=>62 | 25=>146 | 3=>3 | 39=>197 | 0=>0 | 53=>234 | 55=>36 | 4=>4 | 46=>228 | 45=>227 | 50=>111 | 5=>5 | 9=>9 | 66=>270 | 70=>274 | 76=>292 | 77=>293 | n=>n,fun | n=>n⟩
theorem slsortS:Go.Proofs.SlLaysF0.n6 Tryz.prog slsortS_ren where
 mixed:=by kernel_rfl
 f6:=⟨"slices.SortFunc[[]scantling/api.State,scantling/api.State]",by decide,Tryz.func81.trans (congrArg some (by kernel_rfl))⟩
 f14:=⟨"slices.pdqsortCmpFunc[scantling/api.State]",by decide,Tryz.func109.trans (congrArg some (by kernel_rfl))⟩
 f15:=Tryz.func110.trans (congrArg some (by kernel_rfl))
 f20:=⟨"slices.insertionSortCmpFunc[scantling/api.State]",by decide,Tryz.func132.trans (congrArg some (by kernel_rfl))⟩
 f21:=⟨"slices.heapSortCmpFunc[scantling/api.State]",by decide,Tryz.func133.trans (congrArg some (by kernel_rfl))⟩
 f22:=⟨"slices.breakPatternsCmpFunc[scantling/api.State]",by decide,Tryz.func134.trans (congrArg some (by kernel_rfl))⟩
 f23:=⟨"slices.choosePivotCmpFunc[scantling/api.State]",by decide,Tryz.func135.trans (congrArg some (by kernel_rfl))⟩
 f24:=⟨"slices.reverseRangeCmpFunc[scantling/api.State]",by decide,Tryz.func136.trans (congrArg some (by kernel_rfl))⟩
 f25:=⟨"slices.partialInsertionSortCmpFunc[scantling/api.State]",by decide,Tryz.func137.trans (congrArg some (by kernel_rfl))⟩
 f26:=⟨"slices.partitionEqualCmpFunc[scantling/api.State]",by decide,Tryz.func138.trans (congrArg some (by kernel_rfl))⟩
 f27:=⟨"slices.partitionCmpFunc[scantling/api.State]",by decide,Tryz.func139.trans (congrArg some (by kernel_rfl))⟩
 f28:=Tryz.func140.trans (congrArg some (by kernel_rfl))
 f29:=Tryz.func141.trans (congrArg some (by kernel_rfl))
 f46:=⟨"slices.siftDownCmpFunc[scantling/api.State]",by decide,Tryz.func181.trans (congrArg some (by kernel_rfl))⟩
 f47:=Tryz.func182.trans (congrArg some (by kernel_rfl))
 f48:=Tryz.func183.trans (congrArg some (by kernel_rfl))
 f49:=⟨"slices.medianAdjacentCmpFunc[scantling/api.State]",by decide,Tryz.func184.trans (congrArg some (by kernel_rfl))⟩
 f50:=⟨"slices.medianCmpFunc[scantling/api.State]",by decide,Tryz.func185.trans (congrArg some (by kernel_rfl))⟩
 f57:=⟨"slices.order2CmpFunc[scantling/api.State]",by decide,Tryz.func205.trans (congrArg some (by kernel_rfl))⟩
 t0:=Tryz.underlying0
 a0:=Tryz.isAgg0
 z0:=Tryz.sizeOf0
 v0:=Tryz.zeroValue0
 t3:=Tryz.underlying3
 a3:=Tryz.isAgg3
 z3:=Tryz.sizeOf3
 v3:=Tryz.zeroValue3
 t4:=Tryz.underlying4
 a4:=Tryz.isAgg4
 z4:=Tryz.sizeOf4
 v4:=Tryz.zeroValue4
 t5:=Tryz.underlying5
 a5:=Tryz.isAgg5
 z5:=Tryz.sizeOf5
 v5:=Tryz.zeroValue5
 t9:=Tryz.underlying9
 a9:=Tryz.isAgg9
 z9:=Tryz.sizeOf9
 v9:=Tryz.zeroValue9
 t22:=Tryz.underlying78
 a22:=Tryz.isAgg78
 z22:=Tryz.sizeOf78
 v22:=Tryz.zeroValue78
 t25:=Tryz.underlying146
 a25:=Tryz.isAgg146
 z25:=Tryz.sizeOf146
 v25:=Tryz.zeroValue146
 t39:=Tryz.underlying197
 a39:=Tryz.isAgg197
 z39:=Tryz.sizeOf197
 v39:=Tryz.zeroValue197
 t45:=Tryz.underlying227
 a45:=Tryz.isAgg227
 z45:=Tryz.sizeOf227
 v45:=Tryz.zeroValue227
 t46:=Tryz.underlying228
 a46:=Tryz.isAgg228
 z46:=Tryz.sizeOf228
 v46:=Tryz.zeroValue228
 t50:=Tryz.underlying111
 a50:=Tryz.isAgg111
 z50:=Tryz.sizeOf111
 v50:=Tryz.zeroValue111
 t53:=Tryz.underlying234
 a53:=Tryz.isAgg234
 z53:=Tryz.sizeOf234
 v53:=Tryz.zeroValue234
 t55:=Tryz.underlying36
 a55:=Tryz.isAgg36
 z55:=Tryz.sizeOf36
 v55:=Tryz.zeroValue36
 t66:=Tryz.underlying270
 a66:=Tryz.isAgg270
 z66:=Tryz.sizeOf270
 v66:=Tryz.zeroValue270
 t70:=Tryz.underlying274
 a70:=Tryz.isAgg274
 z70:=Tryz.sizeOf274
 v70:=Tryz.zeroValue274
 t76:=Tryz.underlying292
 a76:=Tryz.isAgg292
 z76:=Tryz.sizeOf292
 v76:=Tryz.zeroValue292
 t77:=Tryz.underlying293
 a77:=Tryz.isAgg293
 z77:=Tryz.sizeOf293
 v77:=Tryz.zeroValue293
def slsortT_ren:Go.Shelf.Ren:=⟨fun | 6=>81 | 15=>110 | 14=>109 | 28=>140 | 29=>141 | 20=>132 | 21=>133 | 22=>134 | 23=>135 | 24=>136 | 25=>137 | 26=>138 | 27=>139 | 46=>181 | 47=>182 | 48=>183 | 49=>184 | 50=>185 | 57=>205 | n=>n,fun | 22=>78 | 24=>62 | 25=>146 | 3=>3 | 39=>197 | 0=>0 | 53=>234 | 55=>36 | 4=>4 | 46=>228 | 45=>227 | 50=>111 | 5=>5 | 9=>9 | 66=>270 | 70=>274 | 76=>292 | 77=>293 | n=>n,fun | n=>n⟩
theorem slsortT:Go.Proofs.SlLaysF.n6 Tryz.prog slsortT_ren where
 mixed:=by kernel_rfl
 f6:=⟨"slices.SortFunc[[]scantling/api.State,scantling/api.State]",by decide,Tryz.func81.trans (congrArg some (by kernel_rfl))⟩
 f14:=⟨"slices.pdqsortCmpFunc[scantling/api.State]",by decide,Tryz.func109.trans (congrArg some (by kernel_rfl))⟩
 f15:=Tryz.func110.trans (congrArg some (by kernel_rfl))
 f20:=⟨"slices.insertionSortCmpFunc[scantling/api.State]",by decide,Tryz.func132.trans (congrArg some (by kernel_rfl))⟩
 f21:=⟨"slices.heapSortCmpFunc[scantling/api.State]",by decide,Tryz.func133.trans (congrArg some (by kernel_rfl))⟩
 f22:=⟨"slices.breakPatternsCmpFunc[scantling/api.State]",by decide,Tryz.func134.trans (congrArg some (by kernel_rfl))⟩
 f23:=⟨"slices.choosePivotCmpFunc[scantling/api.State]",by decide,Tryz.func135.trans (congrArg some (by kernel_rfl))⟩
 f24:=⟨"slices.reverseRangeCmpFunc[scantling/api.State]",by decide,Tryz.func136.trans (congrArg some (by kernel_rfl))⟩
 f25:=⟨"slices.partialInsertionSortCmpFunc[scantling/api.State]",by decide,Tryz.func137.trans (congrArg some (by kernel_rfl))⟩
 f26:=⟨"slices.partitionEqualCmpFunc[scantling/api.State]",by decide,Tryz.func138.trans (congrArg some (by kernel_rfl))⟩
 f27:=⟨"slices.partitionCmpFunc[scantling/api.State]",by decide,Tryz.func139.trans (congrArg some (by kernel_rfl))⟩
 f28:=Tryz.func140.trans (congrArg some (by kernel_rfl))
 f29:=Tryz.func141.trans (congrArg some (by kernel_rfl))
 f46:=⟨"slices.siftDownCmpFunc[scantling/api.State]",by decide,Tryz.func181.trans (congrArg some (by kernel_rfl))⟩
 f47:=Tryz.func182.trans (congrArg some (by kernel_rfl))
 f48:=Tryz.func183.trans (congrArg some (by kernel_rfl))
 f49:=⟨"slices.medianAdjacentCmpFunc[scantling/api.State]",by decide,Tryz.func184.trans (congrArg some (by kernel_rfl))⟩
 f50:=⟨"slices.medianCmpFunc[scantling/api.State]",by decide,Tryz.func185.trans (congrArg some (by kernel_rfl))⟩
 f57:=⟨"slices.order2CmpFunc[scantling/api.State]",by decide,Tryz.func205.trans (congrArg some (by kernel_rfl))⟩
 t0:=Tryz.underlying0
 a0:=Tryz.isAgg0
 z0:=Tryz.sizeOf0
 v0:=Tryz.zeroValue0
 t3:=Tryz.underlying3
 a3:=Tryz.isAgg3
 z3:=Tryz.sizeOf3
 v3:=Tryz.zeroValue3
 t4:=Tryz.underlying4
 a4:=Tryz.isAgg4
 z4:=Tryz.sizeOf4
 v4:=Tryz.zeroValue4
 t5:=Tryz.underlying5
 a5:=Tryz.isAgg5
 z5:=Tryz.sizeOf5
 v5:=Tryz.zeroValue5
 t9:=Tryz.underlying9
 a9:=Tryz.isAgg9
 z9:=Tryz.sizeOf9
 v9:=Tryz.zeroValue9
 t22:=Tryz.underlying78
 a22:=Tryz.isAgg78
 z22:=Tryz.sizeOf78
 v22:=Tryz.zeroValue78
 a24:=Tryz.isAgg62
 z24:=Tryz.sizeOf62
 t25:=Tryz.underlying146
 a25:=Tryz.isAgg146
 z25:=Tryz.sizeOf146
 v25:=Tryz.zeroValue146
 t39:=Tryz.underlying197
 a39:=Tryz.isAgg197
 z39:=Tryz.sizeOf197
 v39:=Tryz.zeroValue197
 t45:=Tryz.underlying227
 a45:=Tryz.isAgg227
 z45:=Tryz.sizeOf227
 v45:=Tryz.zeroValue227
 t46:=Tryz.underlying228
 a46:=Tryz.isAgg228
 z46:=Tryz.sizeOf228
 v46:=Tryz.zeroValue228
 t50:=Tryz.underlying111
 a50:=Tryz.isAgg111
 z50:=Tryz.sizeOf111
 v50:=Tryz.zeroValue111
 t53:=Tryz.underlying234
 a53:=Tryz.isAgg234
 z53:=Tryz.sizeOf234
 v53:=Tryz.zeroValue234
 t55:=Tryz.underlying36
 a55:=Tryz.isAgg36
 z55:=Tryz.sizeOf36
 v55:=Tryz.zeroValue36
 t66:=Tryz.underlying270
 a66:=Tryz.isAgg270
 z66:=Tryz.sizeOf270
 v66:=Tryz.zeroValue270
 t70:=Tryz.underlying274
 a70:=Tryz.isAgg274
 z70:=Tryz.sizeOf274
 v70:=Tryz.zeroValue274
 t76:=Tryz.underlying292
 a76:=Tryz.isAgg292
 z76:=Tryz.sizeOf292
 v76:=Tryz.zeroValue292
 t77:=Tryz.underlying293
 a77:=Tryz.isAgg293
 z77:=Tryz.sizeOf293
 v77:=Tryz.zeroValue293
open Go.RowKit
theorem bx169:Builder.Extra Tryz.prog sl169_ren where
 sizeBuilder:=by kernel_rfl
 liesBuilder:=by kernel_rfl
 t5:=Tryz.underlying5
 a5:=Tryz.isAgg5
 z5:=Tryz.sizeOf5
 v5:=Tryz.zeroValue5
 infoByte:=by kernel_rfl
 cellsByte:=by kernel_rfl
 sizeByte:=by kernel_rfl
 neB5:=by decide
theorem zmw (B b:Nat) (l:List UInt8) (w:World) (h:Lib.IsBuilderF 165 5 B b (Lib.byteCells l) w) (hBw:B≤w.heap.size):
  Calls Tryz.prog 94 #[.pointer (some ⟨b,0,none⟩)] w fun e w'=>e = .returned (.string ⟨l.toArray⟩)∧(Lib.IsBuilderF 165 5 B b (Lib.byteCells l) w'∧Below B w w'∧Lib.OthersKept 5 (some b) w w'):=Any.Builder_String_any_k sl169 bx169 B b l w h hBw
theorem b_itoa (n:Int) (h0:-9223372036854775808≤n) (h1:n≤9223372036854775807) (w:World) (htab:Lib.TabIs Tryz.prog w "internal/strconv.uint64pow10" .u64 Lib.pow10Tab):
  Calls Tryz.prog 85 #[.int .i64 n] w fun e w'=>e = .returned (.string ⟨(Lib.itoa n).toArray⟩)∧∃k os,w'=Sort.grow (w.drewN k) os:=Any.strconv_Itoa sl171 n h0 h1 w htab
set_option maxHeartbeats 1000000 in
set_option maxRecDepth 100000 in
theorem b_used (b:Nat) (w:World) (h0:w.cell? ⟨b,0,none⟩=some (.pointer (some ⟨b,0,none⟩))):
  Calls Tryz.prog 118 #[.pointer (some ⟨b,0,none⟩)] w fun e w'=>e = .returned (.tuple #[])∧w'=w:=by
 obtain ⟨j,hj,_⟩:=Option.map_eq_some_iff.1 bx169.sizeBuilder
 go_enter Tryz.func118,Tryz.ntmps118
 go_wp2
 rw [Lib.run_neq_ptr_same w _ Tryz.underlying163 hj]
 go_wp2
 go_end0
 exact ⟨rfl,rfl⟩
set_option maxHeartbeats 1000000 in
set_option maxRecDepth 100000 in
theorem b_fresh (b:Nat) (w:World) (h0:w.cell? ⟨b,0,none⟩=some (.pointer none)) (hsh:w.shape? b=some (165,2)) (hfz:w.frozen? ⟨b,0,none⟩=false):
  Calls Tryz.prog 118 #[.pointer (some ⟨b,0,none⟩)] w fun e w'=>e = .returned (.tuple #[])∧w'=w.setCell ⟨b,0,none⟩ (.pointer (some ⟨b,0,none⟩)):=by
 obtain ⟨j,hj,hjs⟩:=Option.map_eq_some_iff.1 bx169.sizeBuilder
 go_enter Tryz.func118,Tryz.ntmps118
 go_wp2
 rw [Lib.run_to_unsafe w ⟨b,0,none⟩ Tryz.underlying163 Tryz.underlying239 hj (by rw [hjs];decide) hsh (Nat.zero_lt_succ 1)];simp only [Result.andThen];rw [Oper.upon_value]
 go_wp2
 rw [run_callFunc_extern Tryz.func146 (by kernel_rfl) (by kernel_rfl) (by kernel_rfl) (e:=Extern.AbiNoEscape.same) (by kernel_rfl)];rw [Lib.run_noEscape];simp only [Result.andThen];rw [Oper.upon_value]
 go_wp2
 rw [Lib.run_from_unsafe w ⟨b,0,none⟩ Tryz.underlying239 Tryz.underlying163 hj hsh bx169.liesBuilder];simp only [Result.andThen];rw [Oper.upon_value]
 go_wp2
 go_end0
 exact ⟨rfl,rfl⟩
theorem b_check (B b:Nat) (bs:List Value) (w:World) (h:Lib.IsBuilderF 165 5 B b bs w):
  Calls Tryz.prog 118 #[.pointer (some ⟨b,0,none⟩)] w fun e w'=>e = .returned (.tuple #[])∧(Lib.BuilderAtF 165 5 B b (.pointer (some ⟨b,0,none⟩)) bs w'∧Below B w w'∧Lib.OthersKept 5 (some b) w w'):=by
 rcases h with h | h
 ·refine (b_fresh b w h.cell0 h.shape h.frozen0).mono ?_;rintro e w' ⟨rfl,rfl⟩;exact ⟨rfl,h.used _,(Below.refl B w).setCell (p:=⟨b,0,none⟩) h.1 _,(Lib.OthersKept.refl _ _ w).setCell ⟨b,0,none⟩ rfl _⟩
 ·refine (b_used b w h.cell0).mono ?_;rintro e w' ⟨rfl,rfl⟩;exact ⟨rfl,h,Below.refl B _,Lib.OthersKept.refl _ _ _⟩
set_option maxHeartbeats 2000000 in
set_option maxRecDepth 100000 in
theorem b_byte (B b:Nat) (bs:List Value) (c:Int) (w:World) (h:Lib.IsBuilderF 165 5 B b bs w) (hlen:bs.length+1≤140737488355328) (hBw:B≤w.heap.size):
  Calls Tryz.prog 93 #[.pointer (some ⟨b,0,none⟩),.int .u8 c] w fun e w'=>e = .returned .nilIface∧(Lib.BuilderAtF 165 5 B b (.pointer (some ⟨b,0,none⟩)) (bs++[.int .u8 c]) w'∧Below B w w'∧Lib.OthersKept 5 (some b) w w'):=by
 obtain ⟨i0,hi,hz0,hz1,hz2⟩:=info_parts bx169.infoByte
 go_enter Tryz.func93,Tryz.ntmps93
 go_wp2_with (go_at_call 118;refine (b_check B b bs _ h).mono ?_)
 rintro e w1 ⟨rfl,h1,hb1,hk1⟩;obtain ⟨hB,v,hbk,hown,hne⟩:=h1;have c0:w1.cell? ⟨b,0,none⟩=some (.pointer (some ⟨b,0,none⟩)):=by rw [Lib.cell_of_heap hbk];rfl
 have c1:w1.cell? ⟨b,1,none⟩=some v:=by rw [Lib.cell_of_heap hbk];rfl
 go_wp2_with (at_builtin;refine wpList_append_ownF _ rfl _ _ 25 rfl B 5 i0 (.int .u8 0) 1 1 Tryz.underlying25 hi hz0 hz1 hz2 rfl (by decide) _ _ _ rfl (hown.alloc _) ⟨w1.heap.size,0,none⟩ 1 1 [.int .u8 c] rfl rfl ?c1 ?c2 ?c3 ?c4 ?c5 ?_)
 case c1=>
  intro j u hj
  match j,hj with
  | 0,hj=>simp at hj;subst hj;simp [Addr.add]
 case c2=>intro u hu;simp at hu;subst hu;rfl
 case c3=>unfold maxLen;omega
 case c4=>omega
 case c5=>have:=hb1.size;simp;omega
 intro v' w2 hown' hgrow _;have hlt:b<w1.heap.size:=(Array.getElem?_eq_some_iff.1 hbk).1;have hb2:w2.heap[b]?=some (.cells #[.pointer (some ⟨b,0,none⟩),v] 165 (0,0)):=by
  rw [hgrow.block b (by simp;omega) (fun e=>hne e.symm),Lib.alloc_old w1 _ b hlt];exact hbk
 have d0:w2.cell? ⟨b,0,none⟩=some (.pointer (some ⟨b,0,none⟩)):=by rw [Lib.cell_of_heap hb2];rfl
 have d1:w2.cell? ⟨b,1,none⟩=some v:=by rw [Lib.cell_of_heap hb2];rfl
 have f1:w2.frozen? ⟨b,1,none⟩=false:=Lib.frozen_of_heap hb2 1;obtain ⟨g,cap,rfl⟩:∃g cap,v' = .slice (some ⟨g,0,none⟩) (bs.length+1) cap:=by
  rcases hown'.2 with ⟨_,h0⟩ | ⟨g,cap,cur,fz,hv,_⟩
  ·omega
  ·exact ⟨g,cap,hv⟩
 go_wp2
 go_ret
 refine ⟨rfl, ?_, ?_,((hk1.alloc _).grown hgrow (Lib.ownsRowF_kind (hown.alloc _))).setCell ⟨b,1,none⟩ rfl _⟩
 ·exact Lib.BuilderAtF.put (T:=165) (e:=5) hB hb2 (bs':=bs++[.int .u8 c]) (by simpa using hown') (by decide)
 ·exact ((hb1.alloc (by have:=hb1.size;omega) _).grown hgrow (by have:=hb1.size;simp;omega) (fun k hk=>(hown.lt k hk).1)).setCell (p:=⟨b,1,none⟩) hB _
set_option maxHeartbeats 2000000 in
set_option maxRecDepth 100000 in
theorem b_text (B b:Nat) (bs:List Value) (s:ByteArray) (w:World) (h:Lib.IsBuilderF 165 5 B b bs w) (hlen:bs.length+s.size≤140737488355328) (hBw:B≤w.heap.size):
  Calls Tryz.prog 92 #[.pointer (some ⟨b,0,none⟩),.string s] w fun e w'=>e = .returned (.tuple #[.int .i64 s.size,.nilIface])∧(Lib.BuilderAtF 165 5 B b (.pointer (some ⟨b,0,none⟩)) (bs++Lib.strCells s) w'∧Below B w w'∧Lib.OthersKept 5 (some b) w w'):=by
 obtain ⟨i0,hi,hz0,hz1,hz2⟩:=info_parts bx169.infoByte
 go_enter Tryz.func92,Tryz.ntmps92
 go_wp2_with (go_at_call 118;refine (b_check B b bs _ h).mono ?_)
 rintro e w1 ⟨rfl,h1,hb1,hk1⟩;obtain ⟨hB,v,hbk,hown,hne⟩:=h1;have c0:w1.cell? ⟨b,0,none⟩=some (.pointer (some ⟨b,0,none⟩)):=by rw [Lib.cell_of_heap hbk];rfl
 have c1:w1.cell? ⟨b,1,none⟩=some v:=by rw [Lib.cell_of_heap hbk];rfl
 go_wp2_with (at_builtin;refine Lib.wpList_append_own_stringF _ rfl _ _ 25 9 rfl B 5 i0 Tryz.underlying25 Tryz.underlying9 hi hz0 hz1 hz2 _ _ _ rfl hown s rfl ?c3 ?c4 ?c5 ?_)
 case c3=>unfold maxLen;omega
 case c4=>omega
 case c5=>have:=hb1.size;omega
 intro v' w2 hown' hgrow _;have hlt:b<w1.heap.size:=(Array.getElem?_eq_some_iff.1 hbk).1;have hb2:w2.heap[b]?=some (.cells #[.pointer (some ⟨b,0,none⟩),v] 165 (0,0)):=by
  rw [hgrow.block b hlt (fun e=>hne e.symm)];exact hbk
 have d0:w2.cell? ⟨b,0,none⟩=some (.pointer (some ⟨b,0,none⟩)):=by rw [Lib.cell_of_heap hb2];rfl
 have d1:w2.cell? ⟨b,1,none⟩=some v:=by rw [Lib.cell_of_heap hb2];rfl
 have f1:w2.frozen? ⟨b,1,none⟩=false:=Lib.frozen_of_heap hb2 1;obtain ⟨ao,n',cap,rfl⟩:∃ao n' cap,v' = .slice ao n' cap:=by
  rcases hown'.2 with ⟨hv,_⟩ | ⟨g,cap,cur,fz,hv,_⟩
  ·exact ⟨_,_,_,hv⟩
  ·exact ⟨_,_,_,hv⟩
 go_wp2
 go_ret2
 refine ⟨rfl, ?_, ?_,(hk1.grown hgrow (Lib.ownsRowF_kind hown)).setCell ⟨b,1,none⟩ rfl _⟩
 ·exact Lib.BuilderAtF.put (T:=165) (e:=5) hB hb2 (bs':=bs++Lib.strCells s) (by simpa [Lib.strCells_length] using hown') (by decide)
 ·exact (hb1.grown hgrow (by have:=hb1.size;omega) (fun k hk=>(hown.lt k hk).1)).setCell (p:=⟨b,1,none⟩) hB _
theorem zix (a:Addr) (k:Nat):(a.add k).block=a.block:=by unfold Addr.add;split <;> rfl
def zrv (w:World) (a:Addr) (xs:List SItem):Prop:=a.block<w.heap.size∧∀(i:Nat) (x:SItem),xs[i]?=some x →
 w.cell? (a.add (i*4))=some (.int .i64 x.1)∧w.cell? ⟨(a.add (i*4)).block,(a.add (i*4)).off+1,none⟩=some (.int .i64 x.2.1)∧w.cell? ⟨(a.add (i*4)).block,(a.add (i*4)).off+2,none⟩=some (.int .i64 x.2.2.1)∧w.cell? ⟨(a.add (i*4)).block,(a.add (i*4)).off+3,none⟩=some (.int .i64 x.2.2.2)
theorem zrv.below {w w':World} {a:Addr} {xs:List SItem} (h:zrv w a xs) {B:Nat} (hb:Below B w w') (hB:a.block<B) {i:Nat} {x:SItem} (hx:xs[i]?=some x):
  w'.cell? (a.add (i*4))=some (.int .i64 x.1)∧w'.cell? ⟨(a.add (i*4)).block,(a.add (i*4)).off+1,none⟩=some (.int .i64 x.2.1)∧w'.cell? ⟨(a.add (i*4)).block,(a.add (i*4)).off+2,none⟩=some (.int .i64 x.2.2.1)∧w'.cell? ⟨(a.add (i*4)).block,(a.add (i*4)).off+3,none⟩=some (.int .i64 x.2.2.2):=by
 obtain ⟨h0,h1,h2,h3⟩:=h.2 i x hx;refine ⟨?_, ?_, ?_, ?_⟩
 ·rw [hb.cell (by rw [zix];exact hB)];exact h0
 ·rw [hb.cell (by show (a.add (i*4)).block<B;rw [zix];exact hB)];exact h1
 ·rw [hb.cell (by show (a.add (i*4)).block<B;rw [zix];exact hB)];exact h2
 ·rw [hb.cell (by show (a.add (i*4)).block<B;rw [zix];exact hB)];exact h3
theorem zkw {B b:Nat} {bs:List Value} {W W':World} (h:Lib.IsBuilderF 165 5 B b bs W) (hb:Below W.heap.size W W'):Lib.IsBuilderF 165 5 B b bs W':=by
 have one:∀p,Lib.BuilderAtF 165 5 B b p bs W→Lib.BuilderAtF 165 5 B b p bs W':=fun p hp=>by
  have hlt:=hp.lt;obtain ⟨hB,v,hv,hown,hne⟩:=hp;exact ⟨hB,v,(hb.block b hlt).trans hv,hown.kept (row:=none) ⟨hb.os,hb.tape,hb.output,hb.size,fun k hk _=>hb.block k hk⟩ (Classical.em _),hne⟩
 exact h.elim (fun x=>.inl (one _ x)) (fun x=>.inr (one _ x))
theorem tab_below {B:Nat} {w w':World} (h:Lib.TabIs Tryz.prog w "internal/strconv.uint64pow10" .u64 Lib.pow10Tab) (hb:Below B w w') (hB:2<B):Lib.TabIs Tryz.prog w' "internal/strconv.uint64pow10" .u64 Lib.pow10Tab:=by
 unfold Lib.TabIs World.var? at *;have hg:Tryz.prog.globalNamed "internal/strconv.uint64pow10"=some 2:=by kernel_rfl
 rw [hg] at h ⊢;simp only [Option.bind_some] at h ⊢;rw [hb.block 2 hB];exact h
theorem alloc2 (w:World) (o1 o2:Obj):((w.alloc o1).alloc o2).heap[w.heap.size+1]?=some o2:=by
 have:=heap_alloc_new (w.alloc o1) o2
 rwa [show (w.alloc o1).heap.size=w.heap.size+1 by simp] at this
theorem keyN_snoc (l:List Int) (z:Int):zjm (l++[z])=zjm l++(Lib.itoa z++[32]):=by simp [zjm]
theorem keyS_snoc (l:List SItem) (x:SItem):keyS (l++[x])=keyS l++zjm (zc4 x):=by simp [keyS,zjm,zej]
theorem zra {l:List Int} (h:∀z∈l,InR .i64 z):(zjm l).length≤22*l.length:=by
 induction l with
 | nil=>simp [zjm]
 | cons z l ih=>
  have h1:=zgo.1 (h z (by simp));have h2:=Lib.itoa_length_le z h1.1 h1.2;have h3:=ih fun y hy=>h y (by simp [hy]);have e:zjm (z::l)=(Lib.itoa z++[32])++zjm l:=by simp [zjm]
  rw [e];simp only [List.length_append,List.length_cons,List.length_nil];omega
theorem numsS_len (l:List SItem):(zej l).length=4*l.length:=by
 induction l with
 | nil=>rfl
 | cons x l ih=>simp only [zej,List.flatMap_cons,List.length_append] at ih ⊢;rw [ih];simp [zc4];omega
set_option maxHeartbeats 4000000 in
set_option maxRecDepth 1000000 in
theorem key_walk (xs:List SItem) (a:Addr) (cap:Nat) (w:World) (hn:xs.length≤1000) (hz:∀x∈xs,∀z∈zc4 x,InR .i64 z) (hc:zrv w a xs) (htab:Lib.TabIs Tryz.prog w "internal/strconv.uint64pow10" .u64 Lib.pow10Tab):
  Calls Tryz.prog 65 #[.slice (some a) xs.length cap] w fun e w'=>e = .returned (.string ⟨(keyS xs).toArray⟩)∧Below w.heap.size w w':=by
 have hpos:2<w.heap.size:=by
  have h:=htab;unfold Lib.TabIs World.var? at h;have hg:Tryz.prog.globalNamed "internal/strconv.uint64pow10"=some 2:=by kernel_rfl
  rw [hg] at h;simp only [Option.bind_some] at h;rcases Nat.lt_or_ge 2 w.heap.size with hh | hh
  ·exact hh
  ·rw [Array.getElem?_eq_none hh] at h;cases h
 have hlen:∀i,(keyS (xs.take i)).length≤88000:=fun i=>by
  have h1:=zra (l:=zej (xs.take i)) fun z hzz=>by
   obtain ⟨x,hx,hzx⟩:=List.mem_flatMap.1 hzz;exact hz x (List.mem_of_mem_take hx) z hzx
  have h2:=numsS_len (xs.take i);have h3:(xs.take i).length≤xs.length:=by simp;omega
  show (zjm (zej (xs.take i))).length≤_;omega
 go_enter Tryz.func65,Tryz.ntmps65
 go_wp2
 go_loopw [10] (fun v10 wr=>∃i:Nat,v10 = .int .i64 i∧i≤xs.length∧Lib.IsBuilderF 165 5 w.heap.size w.heap.size (Lib.byteCells (keyS (xs.take i))) wr∧Below w.heap.size w wr) (fun v10 _=>xs.length-(Lib.intOf v10).toNat)
 case atStart=>
  refine ⟨0,rfl,Nat.zero_le _,Lib.IsBuilderF.of (Lib.fresh_isBuilder 165 5 w),(Below.refl _ w).alloc (Nat.le_refl _) _⟩
 case round=>
  obtain ⟨i,rfl,hi,hB,hbw⟩:=hrel;obtain ⟨wo,hwo⟩:∃wo,wo=wr:=⟨wr,rfl⟩;subst hwo
  by_cases hlt:i<xs.length
  ·obtain ⟨x,hx⟩:∃x,xs[i]?=some x:=⟨xs[i],by simp [hlt]⟩;have hxm:x∈xs:=List.mem_of_getElem? hx;obtain ⟨c0,c1,c2,c3⟩:=hc.below hbw hc.1 hx;have hsz:=hbw.size;have hli:=hlen i
   go_wp2
   go_loopw [24] (fun v24 wi=>∃j:Nat,v24 = .int .i64 j∧j≤4∧Lib.IsBuilderF 165 5 w.heap.size w.heap.size (Lib.byteCells (keyS (xs.take i)++zjm ((zc4 x).take j))) wi∧wi.heap[wo.heap.size+1]?=some (.cells #[.int .i64 x.1,.int .i64 x.2.1,.int .i64 x.2.2.1,.int .i64 x.2.2.2] 3 (0,0))∧Below w.heap.size w wi) (fun v24 _=>4-(Lib.intOf v24).toNat)
   case atStart=>
    refine ⟨0,rfl,by omega, ?_, ?_, ?_⟩
    ·have:keyS (xs.take i)++zjm ((zc4 x).take 0)=keyS (xs.take i):=by simp [zjm]
     rw [this];exact (hB.alloc _).alloc _
    ·exact alloc2 wo _ _
    ·exact (hbw.alloc hsz _).alloc (by simp;omega) _
   case round=>
    obtain ⟨j,rfl,hj,hBi,hgi,hbi⟩:=hrel
    by_cases hjl:j<4
    ·obtain ⟨z,hzj⟩:∃z,(zc4 x)[j]?=some z:=⟨(zc4 x)[j]'(by simpa [zc4] using hjl),by simp [zc4,hjl]⟩;have hzr:=zgo.1 (hz x hxm z (List.mem_of_getElem? hzj));have hil:=Lib.itoa_length_le z hzr.1 hzr.2;have hll:(keyS (xs.take i)++zjm ((zc4 x).take j)).length≤88088:=by
      have h1:=zra (l:=(zc4 x).take j) fun y hy=>hz x hxm y (List.mem_of_mem_take hy);have h2:((zc4 x).take j).length≤4:=by simp [zc4];omega
      rw [List.length_append];omega
     have hcell:wr.cell? ⟨wo.heap.size+1,j,none⟩=some (.int .i64 z):=by
      have e:(#[Value.int .i64 x.1,.int .i64 x.2.1,.int .i64 x.2.2.1,.int .i64 x.2.2.2]:Array Value)[j]?=((zc4 x).map (Value.int .i64))[j]?:=by simp [zc4]
      rw [cell_of_row wr (wo.heap.size+1) _ _ 3 (0,0) hgi,e,List.getElem?_map,hzj];rfl
     have hszi:=hbi.size;have htk:keyS (xs.take i)++zjm ((zc4 x).take (j+1))=(keyS (xs.take i)++zjm ((zc4 x).take j))++(Lib.itoa z++[32]):=by
      rw [List.take_add_one,hzj,Option.toList_some,keyN_snoc,List.append_assoc]
     generalize hK:keyS (xs.take i)++zjm ((zc4 x).take j)=K at *
     go_wp2_with (go_at_call 85;refine (b_itoa z hzr.1 hzr.2 _ (tab_below htab hbi hpos)).mono ?_;rintro e w1 ⟨rfl,k,os,rfl⟩;refine Hid.out ?_)
     refine Lib.hid ?_;have hb1:Below wr.heap.size wr (Sort.grow (wr.drewN k) os):=Lib.below_grow _ wr (Nat.le_refl _) k os;generalize Sort.grow (wr.drewN k) os=W1 at *;have hB1:=zkw hBi hb1;have hgl:wo.heap.size+1<wr.heap.size:=(Array.getElem?_eq_some_iff.1 hgi).1;have hg1:=(hb1.block _ hgl).trans hgi;have hbi1:=hbi.trans (hb1.mono hszi);have hsz1:=hbi1.size
     go_wp2_with (go_at_call 92;refine (b_text w.heap.size w.heap.size _ ⟨(Lib.itoa z).toArray⟩ W1 hB1 (by rw [Lib.byteCells_length];show K.length+(Lib.itoa z).toArray.size≤_;simp;omega) hsz1).mono ?_;rintro e w2 ⟨rfl,h2,b2,k2⟩;refine Hid.out ?_)
     refine Lib.hid ?_;have hB2:Lib.IsBuilderF 165 5 w.heap.size w.heap.size (Lib.byteCells (K++Lib.itoa z)) w2:=by rw [Lib.byteCells_append];exact .inr h2
     have hg2:=k2 _ _ hg1 (by simp;omega) (by intro c fz he;cases he);have hsz2:=(hbi1.trans b2).size
     go_wp2_with (go_at_call 93;refine (b_byte w.heap.size w.heap.size _ 32 w2 hB2 (by rw [Lib.byteCells_length,List.length_append];omega) hsz2).mono ?_;rintro e w3 ⟨rfl,h3,b3,k3⟩;refine Hid.out ?_)
     refine Lib.hid ?_;have hB3:Lib.IsBuilderF 165 5 w.heap.size w.heap.size (Lib.byteCells (K++(Lib.itoa z++[32]))) w3:=by
      rw [← List.append_assoc,Lib.byteCells_append];exact .inr h3
     have hg3:=k3 _ _ hg2 (by simp;omega) (by intro c fz he;cases he);have hb3:=(hbi1.trans b2).trans b3
     go_wp2
     go_roundw
     case rel=>exact ⟨j+1,rfl,by omega,by rw [htk];exact hB3,hg3,hb3⟩
     case measure=>simp [Lib.intOf];omega
    ·have hj4:j=4:=by omega
     subst hj4
     go_wp2
     go_roundw
     case rel=>
      refine ⟨i+1,rfl,by omega, ?_,hbi⟩;have e:xs.take (i+1)=xs.take i++[x]:=by rw [List.take_add_one,hx];rfl
      rw [e,keyS_snoc];have e4:(zc4 x).take 4=zc4 x:=rfl;rw [e4] at hBi;exact hBi
     case measure=>simp [Lib.intOf];omega
  ·have hin:i=xs.length:=by omega
   subst hin
   go_wp2_with (go_at_call 94;refine (zmw w.heap.size w.heap.size _ _ hB hbw.size).mono ?_)
   rintro e W1 ⟨rfl,_,b1,_⟩
   go_wp2
   go_ret
   exact ⟨by simp,hbw.trans b1⟩
set_option maxHeartbeats 4000000 in
set_option maxRecDepth 1000000 in
theorem key_none (ad:Option Addr) (cap:Nat) (w:World):Calls Tryz.prog 65 #[.slice ad 0 cap] w fun e w'=>e = .returned (.string ⟨#[]⟩)∧Below w.heap.size w w':=by
 go_enter Tryz.func65,Tryz.ntmps65
 go_wp2
 go_loopw [10] (fun v10 wr=>v10 = .int .i64 0∧Lib.IsBuilderF 165 5 w.heap.size w.heap.size (Lib.byteCells []) wr∧Below w.heap.size w wr) (fun _ _=>0)
 case atStart=>
  exact ⟨rfl,Lib.IsBuilderF.of (Lib.fresh_isBuilder 165 5 w),(Below.refl _ w).alloc (Nat.le_refl _) _⟩
 case round=>
  obtain ⟨rfl,hB,hbw⟩:=hrel
  go_wp2_with (go_at_call 94;refine (zmw w.heap.size w.heap.size _ _ hB hbw.size).mono ?_)
  rintro e W1 ⟨rfl,_,b1,_⟩
  go_wp2
  go_ret
  exact ⟨rfl,hbw.trans b1⟩
theorem zrc {w:World} {S:Nat→Prop} {v:Value} {xs:List SItem} (h:SlV En.SItem w S v xs) (hS:∀b,S b→b<w.heap.size) (hne:xs≠[]):∃a cap,v = .slice (some a) xs.length cap∧zrv w a xs∧∀x∈xs,∀z∈zc4 x,InR .i64 z:=by
 obtain ⟨ad,cap,rfl,h1,h2,h3,h4⟩:=h;obtain ⟨b,off,css,rfl,hb,hE,hc⟩:=h4 hne;have key:∀(i:Nat) (x:SItem),xs[i]?=some x→∃p q r t:Int,x=(p,q,r,t)∧InR .i64 p∧InR .i64 q∧InR .i64 r∧InR .i64 t∧css[i]?=some [.int .i64 p,.int .i64 q,.int .i64 r,.int .i64 t]:=by
  intro i x hx;have hlt:i<xs.length:=(List.getElem?_eq_some_iff.1 hx).1;obtain ⟨cs,hcs⟩:∃cs,css[i]?=some cs:=⟨css[i]'(by rw [hE.1];exact hlt),by simp⟩;obtain ⟨c0,r0,rfl,⟨rfl,i0⟩,c1,r1,rfl,⟨rfl,i1⟩,c2,c3,rfl,⟨rfl,i2⟩,⟨rfl,i3⟩⟩:=hE.2 i cs x hcs hx;exact ⟨_,_,_,_,rfl,i0,i1,i2,i3,hcs⟩
 refine ⟨⟨b,off,none⟩,cap,rfl,⟨hS b hb,fun i x hx=>?_⟩,fun x hx z hz=>?_⟩
 ·obtain ⟨p,q,r,t,rfl,_,_,_,_,hcs⟩:=key i x hx;have hf:=fun (j:Nat) (u:Value) (hu:[Value.int .i64 p,.int .i64 q,.int .i64 r,.int .i64 t][j]?=some u)=>hc _ u (zjf hE.lens hcs hu);have hsz:En.SItem.sz=4:=rfl;rw [hsz] at hf;rw [zep];refine ⟨hf 0 _ rfl, ?_, ?_, ?_⟩
  ·have:=hf 1 _ rfl;rw [← Nat.add_assoc] at this;exact this
  ·have:=hf 2 _ rfl;rw [← Nat.add_assoc] at this;exact this
  ·have:=hf 3 _ rfl;rw [← Nat.add_assoc] at this;exact this
 ·obtain ⟨i,hi⟩:=List.getElem?_of_mem hx;obtain ⟨p,q,r,t,rfl,i0,i1,i2,i3,_⟩:=key i x hi;simp only [zc4,List.mem_cons,List.not_mem_nil,or_false] at hz;rcases hz with rfl | rfl | rfl | rfl <;> assumption
theorem zq9 {l:List SItem} (h:∀x∈l,∀z∈zc4 x,InR .i64 z):(keyS l).length≤88*l.length:=by
 have h1:=zra (l:=zej l) fun z hzz=>by
  obtain ⟨x,hx,hzx⟩:=List.mem_flatMap.1 hzz;exact h x hx z hzx
 have h2:=numsS_len l;show (zjm (zej l)).length≤_;omega
theorem zh2 {s_:(List SItem)} {r_:Str} (h:zkq s_ r_):Fn Tryz.prog 65 [(Pd.rep (En.slice En.SItem) s_)] (Rq (Pd.rep En.str r_)):=by
 obtain ⟨hn,rfl⟩:=h;refine ⟨zdz Tryz.func65 rfl (by rfl),fun s vs hgl hv=>?_⟩
 match vs,hv with
 | [v],⟨hv,_⟩=>
  have hsl:=zbx.1 hv;have fin:∀(x:Str) (w':World),x.length≤9223372036854775807→Below s.w.heap.size s.w w'→∃(v:Value) (s':St),Ending.returned (.string ⟨x.toArray⟩) = .returned v∧s'.w=w'∧Ex s s'∧Rq (Pd.rep En.str x) s s' v:=fun x w' hx hb=>
   ⟨_,⟨w',s.X,fun b hb'=>Nat.lt_of_lt_of_le (s.lt b hb') hb.size⟩,rfl,rfl,⟨⟨DR.kit,hb.os,hb.tape,hb.output,hb.size,fun b hb' _=>hb.block b hb',fun _ h=>h.elim,fun b h=>.inl h⟩,fun b h=>h⟩,zhw.2 ⟨rfl,hx⟩⟩
  by_cases hne:s_=[]
  ·subst hne;obtain ⟨ad,cap,rfl,_⟩:=hsl;refine (key_none ad cap s.w).mono fun e w' ⟨he,hb⟩=>?_;subst he;exact fin [] w' (by simp) hb
  ·obtain ⟨a,cap,rfl,hat,hz⟩:=zrc hsl (fun b hb=>hb.1) hne;have htab:Lib.TabIs Tryz.prog s.w "internal/strconv.uint64pow10" .u64 Lib.pow10Tab:=by
    obtain ⟨_,t,fr,h2⟩:=hgl.1 _ (by unfold gtab;exact List.mem_cons_self);unfold Lib.TabIs World.var?;have hg:Tryz.prog.globalNamed "internal/strconv.uint64pow10"=some 2:=by kernel_rfl
    rw [hg];simp only [Option.bind_some];rw [h2];simp [Lib.pow10Tab]
   have hl:=zq9 hz;refine (key_walk s_ a cap s.w hn hz hat htab).mono fun e w' ⟨he,hb⟩=>?_;subst he;exact fin _ w' (by omega) hb
theorem SlV.same {α:Type} {E:En α} {w w':World} {S:Nat→Prop} {v:Value} {xs:List α} (hs:Same S w w') (h:SlV E w S v xs):SlV E w' S v xs:=by
 have:=(En.slice E).move hs (cs:=[v]) (x:=xs) ⟨v,rfl,h⟩;obtain ⟨u,e,k⟩:=this;injection e with e1 e2;subst e1;exact k
theorem key_any (xs:List SItem) (v:Value) (w:World) (hn:xs.length≤1000) (hv:SlV En.SItem w (fun b=>b<w.heap.size) v xs) (htab:Lib.TabIs Tryz.prog w "internal/strconv.uint64pow10" .u64 Lib.pow10Tab):
  Calls Tryz.prog 65 #[v] w fun e w'=>e = .returned (.string ⟨(keyS xs).toArray⟩)∧Below w.heap.size w w':=by
 by_cases hne:xs=[]
 ·subst hne;obtain ⟨ad,cap,rfl,_⟩:=hv;exact key_none ad cap w
 ·obtain ⟨a,cap,rfl,hat,hz⟩:=zrc hv (fun b hb=>hb) hne;exact key_walk xs a cap w hn hz hat htab
theorem keyL_snoc (l:List (List SItem)) (x:List SItem):zj3 (l++[x])=zj3 l++(keyS x++[47]):=by simp [zj3]
def StatesAt (w:World) (a:Addr) (l:List (List SItem)):Prop:=a.block<w.heap.size∧∀(i:Nat) (x:List SItem),l[i]?=some x→∃v,w.cell? (a.add i)=some v∧SlV En.SItem w (fun b=>b<w.heap.size) v x
theorem states_z {w:World} {S:Nat→Prop} {v:Value} {xs:List SItem} (h:SlV En.SItem w S v xs) (hS:∀b,S b→b<w.heap.size):∀x∈xs,∀z∈zc4 x,InR .i64 z:=by
 by_cases hne:xs=[]
 ·subst hne;intro x hx;cases hx
 ·obtain ⟨_,_,_,_,hz⟩:=zrc h hS hne;exact hz
theorem zrb {l:List (List SItem)} (h:∀s∈l,s.length≤1000∧∀x∈s,∀z∈zc4 x,InR .i64 z):(zj3 l).length≤88001*l.length:=by
 induction l with
 | nil=>simp [zj3]
 | cons s l ih=>
  have h1:=h s (by simp);have h2:=zq9 h1.2;have h3:=ih fun u hu=>h u (by simp [hu]);have e:zj3 (s::l)=(keyS s++[47])++zj3 l:=by simp [zj3]
  rw [e];simp only [List.length_append,List.length_cons,List.length_nil];omega
set_option maxHeartbeats 4000000 in
set_option maxRecDepth 1000000 in
theorem skey_walk (l:List (List SItem)) (a:Addr) (cap:Nat) (w:World) (hn:l.length≤1000000000) (hl:∀s∈l,s.length≤1000) (hc:StatesAt w a l) (htab:Lib.TabIs Tryz.prog w "internal/strconv.uint64pow10" .u64 Lib.pow10Tab):
  Calls Tryz.prog 83 #[.slice (some a) l.length cap] w fun e w'=>e = .returned (.string ⟨(zj3 l).toArray⟩)∧Below w.heap.size w w':=by
 have hpos:2<w.heap.size:=by
  have h:=htab;unfold Lib.TabIs World.var? at h;have hg:Tryz.prog.globalNamed "internal/strconv.uint64pow10"=some 2:=by kernel_rfl
  rw [hg] at h;simp only [Option.bind_some] at h;rcases Nat.lt_or_ge 2 w.heap.size with hh | hh
  ·exact hh
  ·rw [Array.getElem?_eq_none hh] at h;cases h
 have hzz:∀s∈l,s.length≤1000∧∀x∈s,∀z∈zc4 x,InR .i64 z:=fun s hs=>by
  obtain ⟨i,hi⟩:=List.getElem?_of_mem hs;obtain ⟨v,_,h2⟩:=hc.2 i s hi;exact ⟨hl s hs,states_z h2 fun b hb=>hb⟩
 have hlen:∀i,(zj3 (l.take i)).length≤88001000000000:=fun i=>by
  have h1:=zrb (l:=l.take i) fun s hs=>hzz s (List.mem_of_mem_take hs);have h3:(l.take i).length≤l.length:=by simp;omega
  omega
 go_enter Tryz.func83,Tryz.ntmps83
 go_wp2
 go_loopw [8] (fun v8 wr=>∃i:Nat,v8 = .int .i64 i∧i≤l.length∧Lib.IsBuilderF 165 5 w.heap.size w.heap.size (Lib.byteCells (zj3 (l.take i))) wr∧Below w.heap.size w wr) (fun v8 _=>l.length-(Lib.intOf v8).toNat)
 case atStart=>
  refine ⟨0,rfl,Nat.zero_le _,Lib.IsBuilderF.of (Lib.fresh_isBuilder 165 5 w),(Below.refl _ w).alloc (Nat.le_refl _) _⟩
 case round=>
  obtain ⟨i,rfl,hi,hB,hbw⟩:=hrel
  by_cases hlt:i<l.length
  ·obtain ⟨x,hx⟩:∃x,l[i]?=some x:=⟨l[i],by simp [hlt]⟩;have hxm:x∈l:=List.mem_of_getElem? hx;obtain ⟨v,c0,hsv⟩:=hc.2 i x hx;have c1:wr.cell? (a.add i)=some v:=by rw [hbw.cell (by rw [zix];exact hc.1)];exact c0
   have hsz:=hbw.size;have hsv1:SlV En.SItem wr (fun b=>b<wr.heap.size) v x:=by
    have h1:=SlV.same (w':=wr) (fun b hb=>hbw.block b hb) hsv;obtain ⟨u,e,k⟩:=(En.slice En.SItem).mono (S':=fun b=>b<wr.heap.size) (fun b hb=>Nat.lt_of_lt_of_le hb hsz) (cs:=[v]) (x:=x) ⟨v,rfl,h1⟩;injection e with e1 e2;subst e1;exact k
   have hli:=hlen i;have hkl:=zq9 (hzz x hxm).2;have hx1000:=hl x hxm;have htk:zj3 (l.take (i+1))=zj3 (l.take i)++(keyS x++[47]):=by
    rw [List.take_add_one,hx,Option.toList_some,keyL_snoc]
   generalize hK:zj3 (l.take i)=K at *
   go_wp2_with (go_at_call 65;refine (key_any x v _ hx1000 hsv1 (tab_below htab hbw hpos)).mono ?_;rintro e w1 ⟨rfl,hb1⟩;refine Hid.out ?_)
   refine Lib.hid ?_;have hB1:=zkw hB hb1;have hbw1:=hbw.trans (hb1.mono hsz);have hsz1:=hbw1.size
   go_wp2_with (go_at_call 92;refine (b_text w.heap.size w.heap.size _ ⟨(keyS x).toArray⟩ w1 hB1 (by rw [Lib.byteCells_length];show K.length+(keyS x).toArray.size≤_;simp;omega) hsz1).mono ?_;rintro e w2 ⟨rfl,h2,b2,k2⟩;refine Hid.out ?_)
   refine Lib.hid ?_;have hB2:Lib.IsBuilderF 165 5 w.heap.size w.heap.size (Lib.byteCells (K++keyS x)) w2:=by rw [Lib.byteCells_append];exact .inr h2
   have hsz2:=(hbw1.trans b2).size
   go_wp2_with (go_at_call 93;refine (b_byte w.heap.size w.heap.size _ 47 w2 hB2 (by rw [Lib.byteCells_length,List.length_append];omega) hsz2).mono ?_;rintro e w3 ⟨rfl,h3,b3,k3⟩;refine Hid.out ?_)
   refine Lib.hid ?_;have hB3:Lib.IsBuilderF 165 5 w.heap.size w.heap.size (Lib.byteCells (K++(keyS x++[47]))) w3:=by
    rw [← List.append_assoc,Lib.byteCells_append];exact .inr h3
   have hb3:=(hbw1.trans b2).trans b3
   go_wp2
   go_roundw
   case rel=>exact ⟨i+1,rfl,by omega,by rw [htk];exact hB3,hb3⟩
   case measure=>simp [Lib.intOf];omega
  ·have hin:i=l.length:=by omega
   subst hin
   go_wp2_with (go_at_call 94;refine (zmw w.heap.size w.heap.size _ _ hB hbw.size).mono ?_)
   rintro e W1 ⟨rfl,_,b1,_⟩
   go_wp2
   go_ret
   exact ⟨by simp,hbw.trans b1⟩
set_option maxHeartbeats 4000000 in
set_option maxRecDepth 1000000 in
theorem skey_none (ad:Option Addr) (cap:Nat) (w:World):Calls Tryz.prog 83 #[.slice ad 0 cap] w fun e w'=>e = .returned (.string ⟨#[]⟩)∧Below w.heap.size w w':=by
 go_enter Tryz.func83,Tryz.ntmps83
 go_wp2
 go_loopw [8] (fun v8 wr=>v8 = .int .i64 0∧Lib.IsBuilderF 165 5 w.heap.size w.heap.size (Lib.byteCells []) wr∧Below w.heap.size w wr) (fun _ _=>0)
 case atStart=>
  exact ⟨rfl,Lib.IsBuilderF.of (Lib.fresh_isBuilder 165 5 w),(Below.refl _ w).alloc (Nat.le_refl _) _⟩
 case round=>
  obtain ⟨rfl,hB,hbw⟩:=hrel
  go_wp2_with (go_at_call 94;refine (zmw w.heap.size w.heap.size _ _ hB hbw.size).mono ?_)
  rintro e W1 ⟨rfl,_,b1,_⟩
  go_wp2
  go_ret
  exact ⟨rfl,hbw.trans b1⟩
theorem znd {l_:(List (List SItem))} {r_:Str} (h:zmo l_ r_):Fn Tryz.prog 83 [(Pd.rep (En.slice (En.slice En.SItem)) l_)] (Rq (Pd.rep En.str r_)):=by
 obtain ⟨hn,hl,rfl⟩:=h;refine ⟨zdz Tryz.func83 rfl (by rfl),fun s vs hgl hv=>?_⟩
 match vs,hv with
 | [v],⟨hv,_⟩=>
  have hsl:=zbx.1 hv;have fin:∀(x:Str) (w':World),x.length≤9223372036854775807→Below s.w.heap.size s.w w'→∃(v:Value) (s':St),Ending.returned (.string ⟨x.toArray⟩) = .returned v∧s'.w=w'∧Ex s s'∧Rq (Pd.rep En.str x) s s' v:=fun x w' hx hb=>
   ⟨_,⟨w',s.X,fun b hb'=>Nat.lt_of_lt_of_le (s.lt b hb') hb.size⟩,rfl,rfl,⟨⟨DR.kit,hb.os,hb.tape,hb.output,hb.size,fun b hb' _=>hb.block b hb',fun _ h=>h.elim,fun b h=>.inl h⟩,fun b h=>h⟩,zhw.2 ⟨rfl,hx⟩⟩
  by_cases hne:l_=[]
  ·subst hne;obtain ⟨ad,cap,rfl,_⟩:=hsl;refine (skey_none ad cap s.w).mono fun e w' ⟨he,hb⟩=>?_;subst he;exact fin [] w' (by simp) hb
  ·obtain ⟨ad,cap,rfl,h1,h2,h3,h4⟩:=hsl;obtain ⟨b,off,css,rfl,hb,hE,hc⟩:=h4 hne;have hat:StatesAt s.w ⟨b,off,none⟩ l_:=by
    refine ⟨hb.1,fun i x hx=>?_⟩;have hlt:i<l_.length:=(List.getElem?_eq_some_iff.1 hx).1;obtain ⟨cs,hcs⟩:∃cs,css[i]?=some cs:=⟨css[i]'(by rw [hE.1];exact hlt),by simp⟩;obtain ⟨u,rfl,hu⟩:=hE.2 i cs x hcs hx;refine ⟨u, ?_, ?_⟩
    ·have:=hc _ u (zjf hE.lens hcs (j:=0) rfl);have e1:(En.slice En.SItem).sz=1:=rfl;rw [e1,Nat.mul_one] at this;rw [zep];exact this
    ·obtain ⟨u',e,k⟩:=(En.slice En.SItem).mono (S':=fun b=>b<s.w.heap.size) (fun b hb=>hb.1) (cs:=[u]) (x:=x) ⟨u,rfl,hu⟩;injection e with e1 e2;subst e1;exact k
   have htab:Lib.TabIs Tryz.prog s.w "internal/strconv.uint64pow10" .u64 Lib.pow10Tab:=by
    obtain ⟨_,t,fr,h2⟩:=hgl.1 _ (by unfold gtab;exact List.mem_cons_self);unfold Lib.TabIs World.var?;have hg:Tryz.prog.globalNamed "internal/strconv.uint64pow10"=some 2:=by kernel_rfl
    rw [hg];simp only [Option.bind_some];rw [h2];simp [Lib.pow10Tab]
   have hzz:∀s'∈l_,s'.length≤1000∧∀x∈s',∀z∈zc4 x,InR .i64 z:=fun s' hs=>by
    obtain ⟨i,hi⟩:=List.getElem?_of_mem hs;obtain ⟨v,_,h2⟩:=hat.2 i s' hi;exact ⟨hl s' hs,states_z h2 fun b hb=>hb⟩
   have hll:=zrb hzz;refine (skey_walk l_ ⟨b,off,none⟩ cap s.w hn hl hat htab).mono fun e w' ⟨he,hb⟩=>?_;subst he;exact fin _ w' (by omega) hb
end Go.Proofs.YtkbboemafklkkaaGreatDoor.V
namespace Go.Proofs.YtkbboemafklkkaaGreatDoor.V
open Go
set_option linter.unusedVariables false
def Pd.zr (N te sz g len:Nat):Pd:=
 ⟨fun s v=>N≤g∧s.X g∧∃cap cur,v = .slice (some ⟨g,0,none⟩) len cap∧s.w.heap[g]?=some (.cells cur te (0,0))∧cur.size=cap*sz∧cap≤maxLen∧len≤cap,fun b=>some g=some b,
  fun {T s s' v} h hb ⟨h1,h2,cap,cur,h3,h4,h5⟩=>⟨h1,(hb g rfl).2 h2,cap,cur,h3,by rw [h.blk g (Array.getElem?_eq_some_iff.1 h4).1 (hb g rfl).1];exact h4,h5⟩⟩
section
variable {P : Program} {ops : Array Oper} {o : Oper} {L : Lst} {α : Type} {E : En α} {xs : List α}
theorem t_capn {y:Operand} {t te:TypeId} (hy:Opn L y (Pd.rep (En.nilv E) xs)) (ht:P.underlying t=some (.slice te)) (ho:o.op = .call { callee:=.builtin .cap,args:=#[y],argTypes:=#[t] }) (hg:o.guard=none):T P ops o L (Pd.rep (En.int .i64) 0):=
 T.pure hg fun M n s0 ac s hL=>by
  have hv:=(zez.1 (hy M n s0 ac s hL)).1;refine ⟨.int .i64 0, ?_,z8.2 ⟨rfl,by decide⟩⟩;unfold execOp;rw [ho];simp [resolve,invoke,builtin,hv,Builtin.cap_,run_underlying ht,goInt]
theorem t_lenn {y:Operand} {t te:TypeId} (hy:Opn L y (Pd.rep (En.nilv E) xs)) (ht:P.underlying t=some (.slice te)) (ho:o.op = .call { callee:=.builtin .len,args:=#[y],argTypes:=#[t] }) (hg:o.guard=none):T P ops o L (Pd.rep (En.int .i64) 0):=
 T.pure hg fun M n s0 ac s hL=>by
  have hv:=(zez.1 (hy M n s0 ac s hL)).1;refine ⟨.int .i64 0, ?_,z8.2 ⟨rfl,by decide⟩⟩;unfold execOp;rw [ho];simp [resolve,invoke,builtin,hv,Builtin.len_,run_underlying ht,goInt]
theorem t_to0 {y z:Operand} {t te:TypeId} (hy:Opn L y (Pd.rep (En.nilv E) xs)) (hz:Opn L z (Pd.rep (En.int .i64) 0)) (ht:P.underlying t=some (.slice te)) (hE:Ty P te E) (ho:o.op = .slice t y none (some z) none) (hg:o.guard=none):T P ops o L (Pd.rep (En.nilv E) xs):=
 T.pure hg fun M n s0 ac s hL=>by
  obtain ⟨hv,hxs⟩:=zez.1 (hy M n s0 ac s hL);have hzv:=(z8.1 (hz M n s0 ac s hL)).1;refine ⟨.slice none 0 0, ?_,zez.2 ⟨rfl,hxs⟩⟩;unfold execOp;rw [ho];simp [hv,hzv,Instr.sliceAt,run_underlying ht,Instr.slice,Instr.sliceBounds,Instr.sliceBound,asIntOf,zbw hE]
theorem st_zeros {Q:Exit→Act→World→Prop} {rest:List Oper} {M:Nat→Prop} {n:Nat} {s0:St} {a:Act} {s:St} {t u te:TypeId} {x y:Operand} {k:Int} (d:Nat) (hL:Has M n s0 a s L) (hx:Opn L x (Pd.rep (En.nilv E) xs)) (hy:Opn L y (Pd.rep (En.int .i64) k)) (hk0:0<k) (hk1:k≤2147483648)
  (ht:P.underlying t=some (.slice te)) (hu:P.underlying u=some (.int .i64)) (hE:Ty P te E) (ho:o.op = .call { callee:=.builtin .append,args:=#[x,y],argTypes:=#[t,u] }) (hg:o.guard=none) (hd:o.dst=some d) (hn:Nat.blt d n=true)
  (kk:∀a' s' g,Has M n s0 a' s' ((d,Pd.zr s0.w.heap.size te E.sz g k.toNat)::L)→wpList P ops Q rest a' s'.w):wpList P ops Q (o::rest) a s.w:=by
 obtain ⟨hv,_⟩:=zez.1 (hx M n s0 a s hL);have hkv:=(z8.1 (hy M n s0 a s hL)).1;obtain ⟨i,z,hi,hsz,hz,hzs,hby⟩:=hE.info;obtain ⟨j,rfl⟩:∃j:Nat,k=(j:Int):=⟨k.toNat,by omega⟩;have hj:0<j:=by omega
 have hcap:j≤grownCap s.w j 0 te:=grownCap_ge _ _ _ _;have hr:(execOp a.eval o).run P s.w = .ok (.value (.slice (some ⟨s.w.heap.size,0,none⟩) j (grownCap s.w j 0 te))) (s.w.drew.alloc (.cells (Builtin.zeroCells z.cells j++Builtin.zeroCells z.cells (grownCap s.w j 0 te-j)) te)):=by
  unfold execOp;rw [ho];have h0:¬ ((j:Int)<0):=by omega
  have hw:IntKind.wrap .i64 (j:Int)=j:=zhr (zgo.2 ⟨by omega,by omega⟩);have hb:j*i.bytes≤140737488355328:=by
   have:=Nat.mul_le_mul (show j≤2147483648 by omega) hby;omega
  have hb2:¬ ((281474976710656:Int)<(j:Int)*(i.bytes:Int)):=by
   rw [← Int.natCast_mul];omega
  have h48:¬ (281474976710656<Builtin.nextslicecap j 0*i.bytes):=by rw [nextslicecap_zero hj];omega
  have h63:¬ (9223372036854775807<(j:Int)):=by omega
  have hjn:¬ j=0:=by omega
  have hs0:¬ (j*E.sz=0):=by have:=Nat.mul_pos hj E.pos;omega
  simp [resolve,invoke,builtin,hv,hkv,Builtin.append_,run_underlying ht,run_underlying hu,sizeOf,typeInfo,zeroValue,hi,hz,asInt,asIntOf,h0,hw,hjn,hb2,h48,h63,hs0,hsz,Question.forced,newRow,grownCap,run_firstCells_none]
 refine wpList_plain hg fun K hK=>?_;unfold Oper.wp;rw [hr];refine hK _ _ ?_;simp only [hd];have e:Ex s ⟨(s.w.drew.alloc (.cells (Builtin.zeroCells z.cells j++Builtin.zeroCells z.cells (grownCap s.w j 0 te-j)) te)),fun b=>s.X b∨b=s.w.heap.size,fun b hb=>hb.elim (fun h=>Nat.lt_of_lt_of_le (s.lt b h) (by simp)) (fun h=>by subst h;simp)⟩:=
  ⟨⟨DR.succ rfl,rfl,rfl,rfl,by simp,fun b hb _=>Go.RowKit.Below.heap_alloc s.w.drew _ b hb,fun _ h=>h.elim,fun b hb=>hb.imp id (fun h=>Nat.le_of_eq h.symm)⟩,fun b hb=>.inl hb⟩
 refine kk _ _ s.w.heap.size (hL.put e hn ⟨hL.ent.mv.size,.inr rfl,grownCap s.w j 0 te,_,rfl,heap_alloc_new s.w.drew _, ?_,grownCap_le_maxLen _ _ _ _ (by unfold maxLen;omega),hcap⟩);simp only [Array.size_append,size_zeroCells,hzs];rw [← Nat.add_mul]
 congr 1
 omega
theorem t_row0 {t te:TypeId} {x z:Operand} {N g len:Nat} (hx:Opn L x (Pd.zr N te E.sz g len)) (hz:Opn L z (Pd.rep (En.int .i64) 0)) (ht:P.underlying t=some (.slice te)) (hE:Ty P te E) (ho:o.op = .slice t x none (some z) none) (hg:o.guard=none):T P ops o L (Pd.row E N te (some g) []):=
 T.pure hg fun M n s0 a s hL=>by
  obtain ⟨hN,hX,cap,cur,hv,hgb,hcs,hcm,hlc⟩:=hx M n s0 a s hL;have hzv:=(z8.1 (hz M n s0 a s hL)).1;refine ⟨.slice (some ⟨g,0,none⟩) 0 cap, ?_,rfl,fun b hb=>by cases hb;exact hX,Nat.zero_le _,[],⟨rfl,by simp⟩,by simp,.inr ⟨g,cap,cur,rfl,hN,hgb,Nat.zero_le _,hcm,hcs,by simp⟩⟩;unfold execOp;rw [ho];simp [hv,hzv,Instr.sliceAt,run_underlying ht,Instr.slice,Instr.sliceBounds,Instr.sliceBound,asIntOf,zbw hE,Addr.add]
end
set_option maxRecDepth 100000
theorem zex {x_:List SItem} {n_:Int} {r_:List SItem} (h:zdp x_ n_ r_):Fn Tryz.prog 172 [(Pd.rep (En.nilv En.SItem) x_),(Pd.rep (En.int .i64) n_)] (Ro En.SItem 114 r_):=by
 obtain ⟨h0,h1,rfl⟩:=h;refine zbp Tryz.func172 rfl Tryz.ntmps172 (by rfl) (by simp) fun s0 a hL=>?_;refine wp_seq_k fun K1 hK1=>?_;refine rg ?_;refine st 4 (zbi (q:=Pd.any) (fun _ _ _ _ _ _=>trivial) rfl rfl) rfl rfl hL fun a s e_ hL=>?_;refine en' ?_;show K1 a s.w;refine hK1 _ _ ?_;refine wp_seq_k fun K2 hK2=>?_;refine wp_seq_k fun K3 hK3=>?_;refine rg ?_;refine st 5 (zt (o_t 1 rfl) rfl rfl) rfl rfl hL fun a s e_ hL=>?_;refine st 6 (t_lss (o_t 5 rfl) (o_i (by decide)) rfl rfl) rfl rfl hL fun a s e_ hL=>?_;refine en' ?_;show K3 a s.w;refine hK3 _ _ ?_;refine cnd hL rfl (fun hb_=>absurd hb_ (by simp;omega)) (fun _=>?_);refine wp_skip ?_;show K2 a s.w;refine hK2 _ _ ?_;refine wp_seq_k fun K4 hK4=>?_;refine wp_seq_k fun K5 hK5=>?_;refine rg ?_;refine st 8 (zt (o_t 1 rfl) rfl rfl) rfl rfl hL fun a s e_ hL=>?_;refine st 9 (zt (o_t 0 rfl) rfl rfl) rfl rfl hL fun a s e_ hL=>?_;refine st 10 (t_capn (o_t 9 rfl) Tryz.underlying62 rfl rfl) rfl rfl hL fun a s e_ hL=>?_;refine st 11 (zt (o_t 0 rfl) rfl rfl) rfl rfl hL fun a s e_ hL=>?_;refine st 12 (t_lenn (o_t 11 rfl) Tryz.underlying62 rfl rfl) rfl rfl hL fun a s e_ hL=>?_;refine st 13 (zmf (o_t 10 rfl) (o_t 12 rfl) (by decide) rfl rfl) rfl rfl hL fun a s e_ hL=>?_;refine st 14 (zmf (o_t 8 rfl) (o_t 13 rfl) (zgo.2 ⟨by omega,by omega⟩) rfl rfl) rfl rfl hL fun a s e_ hL=>?_;refine st 1 (zbi (o_t 14 rfl) rfl rfl) rfl rfl hL fun a s e_ hL=>?_;refine en' ?_;show K5 a s.w;refine hK5 _ _ ?_;refine wp_seq_k fun K6 hK6=>?_;refine rg ?_;refine st 15 (zt (o_t 1 rfl) rfl rfl) rfl rfl hL fun a s e_ hL=>?_
 refine st 16 (t_gtr (o_t 15 rfl) (o_i (by decide)) rfl rfl) rfl rfl hL fun a s e_ hL=>?_;refine en' ?_;show K6 a s.w;refine hK6 _ _ ?_;have fin:∀(a:Act) (s:St) (L:Lst) (og:Option Nat),Has N0 27 s0 a s L→lk L 0=some (Pd.row En.SItem s0.w.heap.size 114 og [])→K4 a s.w:=fun a s L og hL h0=>by
  refine hK4 _ _ ?_;refine wp_seq_k fun K7 hK7=>?_;refine rg ?_;refine st 26 (zt (o_t 0 h0) rfl rfl) rfl rfl hL fun a s e_ hL=>?_;refine st 4 (zbi (o_t 26 rfl) rfl rfl) rfl rfl hL fun a s e_ hL=>?_;refine en' ?_;show K7 a s.w;refine hK7 _ _ ?_;exact wp_ret (zif rfl hL rfl)
 refine cnd hL rfl (fun hb_=>?_) (fun hb_=>?_)
 ·have hpos:0<n_-(0-0):=by simpa using hb_
  refine rg ?_;refine st 17 (zt (o_t 0 rfl) rfl rfl) rfl rfl hL fun a s e_ hL=>?_;refine st 18 (zt (o_t 0 rfl) rfl rfl) rfl rfl hL fun a s e_ hL=>?_;refine st 19 (t_capn (o_t 18 rfl) Tryz.underlying62 rfl rfl) rfl rfl hL fun a s e_ hL=>?_;refine st 20 (t_to0 (o_t 17 rfl) (o_t 19 rfl) Tryz.underlying62 zie rfl rfl) rfl rfl hL fun a s e_ hL=>?_;refine st 21 (zt (o_t 1 rfl) rfl rfl) rfl rfl hL fun a s e_ hL=>?_;refine st_zeros 22 hL (o_t 20 rfl) (o_t 21 rfl) hpos (by omega) Tryz.underlying62 Tryz.underlying3 zie rfl rfl rfl rfl fun a s g hL=>?_;refine st 23 (zt (o_t 0 rfl) rfl rfl) rfl rfl hL fun a s e_ hL=>?_;refine st 24 (t_lenn (o_t 23 rfl) Tryz.underlying62 rfl rfl) rfl rfl hL fun a s e_ hL=>?_;refine st 25 (t_row0 (o_t 22 rfl) (o_t 24 rfl) Tryz.underlying62 zie rfl rfl) rfl rfl hL fun a s e_ hL=>?_;refine st 0 (zbi (o_t 25 rfl) rfl rfl) rfl rfl hL fun a s e_ hL=>?_;refine en' ?_;exact fin a s _ (some g) hL rfl
 ·refine wp_skip ?_;have hv:=(zez.1 (hL.get 0 rfl)).1;have hx:=(zez.1 (hL.get 0 rfl)).2;have hL2:=hL.cons 0 (q:=Pd.row En.SItem s0.w.heap.size 114 none []) (by rw [hv];exact zqx _ _ _ _);exact fin a s _ none hL2 rfl
end Go.Proofs.YtkbboemafklkkaaGreatDoor.V
namespace Go.Proofs.YtkbboemafklkkaaGreatDoor.V
open Go
set_option linter.unusedVariables false
theorem st_zerosm {P:Program} {ops:Array Oper} {o:Oper} {L:Lst} {α:Type} {E:En α} {xs:List α} {Q:Exit→Act→World→Prop} {rest:List Oper} {M:Nat→Prop} {n:Nat} {s0:St} {a:Act} {s:St} {t u te:TypeId} {x y:Operand} {k:Int} (d m:Nat) (hL:Has M n s0 a s L) (hx:Opn L x (Pd.rep (En.nilv E) xs)) (hy:Opn L y (Pd.rep (En.int .i64) k)) (hk0:0<k) (hk1:k*(m:Int)≤140737488355328) (hbm:∃i,P.info? te=some i∧0<m∧i.bytes≤m)
  (ht:P.underlying t=some (.slice te)) (hu:P.underlying u=some (.int .i64)) (hE:Ty P te E) (ho:o.op = .call { callee:=.builtin .append,args:=#[x,y],argTypes:=#[t,u] }) (hg:o.guard=none) (hd:o.dst=some d) (hn:Nat.blt d n=true)
  (kk:∀a' s' g,Has M n s0 a' s' ((d,Pd.zr s0.w.heap.size te E.sz g k.toNat)::L)→wpList P ops Q rest a' s'.w):wpList P ops Q (o::rest) a s.w:=by
 obtain ⟨hv,_⟩:=zez.1 (hx M n s0 a s hL);have hkv:=(z8.1 (hy M n s0 a s hL)).1;obtain ⟨i,z,hi,hsz,hz,hzs,_⟩:=hE.info;obtain ⟨i2,hi2,hm0,hby⟩:=hbm;rw [hi] at hi2;cases hi2;obtain ⟨j,rfl⟩:∃j:Nat,k=(j:Int):=⟨k.toNat,by omega⟩;have hj:0<j:=by omega
 have hkm:j*m≤140737488355328:=by have:((j*m:Nat):Int)≤140737488355328:=by rw [Int.natCast_mul];exact hk1
                                  omega
 have hjm:j≤140737488355328:=Nat.le_trans (Nat.le_mul_of_pos_right j hm0) hkm;have hcap:j≤grownCap s.w j 0 te:=grownCap_ge _ _ _ _;have hr:(execOp a.eval o).run P s.w = .ok (.value (.slice (some ⟨s.w.heap.size,0,none⟩) j (grownCap s.w j 0 te))) (s.w.drew.alloc (.cells (Builtin.zeroCells z.cells j++Builtin.zeroCells z.cells (grownCap s.w j 0 te-j)) te)):=by
  unfold execOp;rw [ho];have h0:¬ ((j:Int)<0):=by omega
  have hw:IntKind.wrap .i64 (j:Int)=j:=zhr (zgo.2 ⟨by omega,by omega⟩);have hb:j*i.bytes≤140737488355328:=by
   exact Nat.le_trans (Nat.mul_le_mul (Nat.le_refl j) hby) hkm
  have hb2:¬ ((281474976710656:Int)<(j:Int)*(i.bytes:Int)):=by
   rw [← Int.natCast_mul];omega
  have h48:¬ (281474976710656<Builtin.nextslicecap j 0*i.bytes):=by rw [nextslicecap_zero hj];omega
  have h63:¬ (9223372036854775807<(j:Int)):=by omega
  have hjn:¬ j=0:=by omega
  have hs0:¬ (j*E.sz=0):=by have:=Nat.mul_pos hj E.pos;omega
  simp [resolve,invoke,builtin,hv,hkv,Builtin.append_,run_underlying ht,run_underlying hu,sizeOf,typeInfo,zeroValue,hi,hz,asInt,asIntOf,h0,hw,hjn,hb2,h48,h63,hs0,hsz,Question.forced,newRow,grownCap,run_firstCells_none]
 refine wpList_plain hg fun K hK=>?_;unfold Oper.wp;rw [hr];refine hK _ _ ?_;simp only [hd];have e:Ex s ⟨(s.w.drew.alloc (.cells (Builtin.zeroCells z.cells j++Builtin.zeroCells z.cells (grownCap s.w j 0 te-j)) te)),fun b=>s.X b∨b=s.w.heap.size,fun b hb=>hb.elim (fun h=>Nat.lt_of_lt_of_le (s.lt b h) (by simp)) (fun h=>by subst h;simp)⟩:=
  ⟨⟨DR.succ rfl,rfl,rfl,rfl,by simp,fun b hb _=>Go.RowKit.Below.heap_alloc s.w.drew _ b hb,fun _ h=>h.elim,fun b hb=>hb.imp id (fun h=>Nat.le_of_eq h.symm)⟩,fun b hb=>.inl hb⟩
 refine kk _ _ s.w.heap.size (hL.put e hn ⟨hL.ent.mv.size,.inr rfl,grownCap s.w j 0 te,_,rfl,heap_alloc_new s.w.drew _, ?_,grownCap_le_maxLen _ _ _ _ (by unfold maxLen;omega),hcap⟩);simp only [Array.size_append,size_zeroCells,hzs];rw [← Nat.add_mul]
 congr 1
 omega
set_option maxRecDepth 100000
theorem zer {x_:List Cl} {n_:Int} {r_:List Cl} (h:zdl x_ n_ r_):Fn Tryz.prog 190 [(Pd.rep (En.nilv En.cls) x_),(Pd.rep (En.int .i64) n_)] (Ro En.cls 38 r_):=by
 obtain ⟨h0,h1,rfl⟩:=h;refine zbp Tryz.func190 rfl Tryz.ntmps190 (by rfl) (by simp) fun s0 a hL=>?_;refine wp_seq_k fun K1 hK1=>?_;refine rg ?_;refine st 4 (zbi (q:=Pd.any) (fun _ _ _ _ _ _=>trivial) rfl rfl) rfl rfl hL fun a s e_ hL=>?_;refine en' ?_;show K1 a s.w;refine hK1 _ _ ?_;refine wp_seq_k fun K2 hK2=>?_;refine wp_seq_k fun K3 hK3=>?_;refine rg ?_;refine st 5 (zt (o_t 1 rfl) rfl rfl) rfl rfl hL fun a s e_ hL=>?_;refine st 6 (t_lss (o_t 5 rfl) (o_i (by decide)) rfl rfl) rfl rfl hL fun a s e_ hL=>?_;refine en' ?_;show K3 a s.w;refine hK3 _ _ ?_;refine cnd hL rfl (fun hb_=>absurd hb_ (by simp;omega)) (fun _=>?_);refine wp_skip ?_;show K2 a s.w;refine hK2 _ _ ?_;refine wp_seq_k fun K4 hK4=>?_;refine wp_seq_k fun K5 hK5=>?_;refine rg ?_;refine st 8 (zt (o_t 1 rfl) rfl rfl) rfl rfl hL fun a s e_ hL=>?_;refine st 9 (zt (o_t 0 rfl) rfl rfl) rfl rfl hL fun a s e_ hL=>?_;refine st 10 (t_capn (o_t 9 rfl) Ud.h rfl rfl) rfl rfl hL fun a s e_ hL=>?_;refine st 11 (zt (o_t 0 rfl) rfl rfl) rfl rfl hL fun a s e_ hL=>?_;refine st 12 (t_lenn (o_t 11 rfl) Ud.h rfl rfl) rfl rfl hL fun a s e_ hL=>?_;refine st 13 (zmf (o_t 10 rfl) (o_t 12 rfl) (by decide) rfl rfl) rfl rfl hL fun a s e_ hL=>?_;refine st 14 (zmf (o_t 8 rfl) (o_t 13 rfl) (zgo.2 ⟨by omega,by omega⟩) rfl rfl) rfl rfl hL fun a s e_ hL=>?_;refine st 1 (zbi (o_t 14 rfl) rfl rfl) rfl rfl hL fun a s e_ hL=>?_;refine en' ?_;show K5 a s.w;refine hK5 _ _ ?_;refine wp_seq_k fun K6 hK6=>?_;refine rg ?_;refine st 15 (zt (o_t 1 rfl) rfl rfl) rfl rfl hL fun a s e_ hL=>?_
 refine st 16 (t_gtr (o_t 15 rfl) (o_i (by decide)) rfl rfl) rfl rfl hL fun a s e_ hL=>?_;refine en' ?_;show K6 a s.w;refine hK6 _ _ ?_;have fin:∀(a:Act) (s:St) (L:Lst) (og:Option Nat),Has N0 27 s0 a s L→lk L 0=some (Pd.row En.cls s0.w.heap.size 38 og [])→K4 a s.w:=fun a s L og hL h0=>by
  refine hK4 _ _ ?_;refine wp_seq_k fun K7 hK7=>?_;refine rg ?_;refine st 26 (zt (o_t 0 h0) rfl rfl) rfl rfl hL fun a s e_ hL=>?_;refine st 4 (zbi (o_t 26 rfl) rfl rfl) rfl rfl hL fun a s e_ hL=>?_;refine en' ?_;show K7 a s.w;refine hK7 _ _ ?_;exact wp_ret (zif rfl hL rfl)
 refine cnd hL rfl (fun hb_=>?_) (fun hb_=>?_)
 ·have hpos:0<n_-(0-0):=by simpa using hb_
  refine rg ?_;refine st 17 (zt (o_t 0 rfl) rfl rfl) rfl rfl hL fun a s e_ hL=>?_;refine st 18 (zt (o_t 0 rfl) rfl rfl) rfl rfl hL fun a s e_ hL=>?_;refine st 19 (t_capn (o_t 18 rfl) Ud.h rfl rfl) rfl rfl hL fun a s e_ hL=>?_;refine st 20 (t_to0 (o_t 17 rfl) (o_t 19 rfl) Ud.h zf8 rfl rfl) rfl rfl hL fun a s e_ hL=>?_;refine st 21 (zt (o_t 1 rfl) rfl rfl) rfl rfl hL fun a s e_ hL=>?_;refine st_zerosm 22 32 hL (o_t 20 rfl) (o_t 21 rfl) hpos (by omega) ⟨_,rfl,by decide,by decide⟩ Ud.h Tryz.underlying3 zf8 rfl rfl rfl rfl fun a s g hL=>?_;refine st 23 (zt (o_t 0 rfl) rfl rfl) rfl rfl hL fun a s e_ hL=>?_;refine st 24 (t_lenn (o_t 23 rfl) Ud.h rfl rfl) rfl rfl hL fun a s e_ hL=>?_;refine st 25 (t_row0 (o_t 22 rfl) (o_t 24 rfl) Ud.h zf8 rfl rfl) rfl rfl hL fun a s e_ hL=>?_;refine st 0 (zbi (o_t 25 rfl) rfl rfl) rfl rfl hL fun a s e_ hL=>?_;refine en' ?_;exact fin a s _ (some g) hL rfl
 ·refine wp_skip ?_;have hv:=(zez.1 (hL.get 0 rfl)).1;have hx:=(zez.1 (hL.get 0 rfl)).2;have hL2:=hL.cons 0 (q:=Pd.row En.cls s0.w.heap.size 38 none []) (by rw [hv];exact zqx _ _ _ _);exact fin a s _ none hL2 rfl
open Go.Shelf Go.RowKit
theorem zm6 {i_:Int} {r_:Str} (h:zlz i_ r_):Fn Tryz.prog 85 [(Pd.rep (En.int .i64) i_)] (Rq (Pd.rep En.str r_)):=by
 obtain ⟨hn,rfl⟩:=h;refine ⟨zdz Tryz.func85 rfl (by rfl),fun s vs hgl hv=>?_⟩
 match vs,hv with
 | [v],⟨hv,_⟩=>
  obtain ⟨rfl,hr⟩:=z8.1 hv;have fin:∀(x:Str) (w':World),x.length≤9223372036854775807→Below s.w.heap.size s.w w'→∃(v:Value) (s':St),Ending.returned (.string ⟨x.toArray⟩) = .returned v∧s'.w=w'∧Ex s s'∧Rq (Pd.rep En.str x) s s' v:=fun x w' hx hb=>
   ⟨_,⟨w',s.X,fun b hb'=>Nat.lt_of_lt_of_le (s.lt b hb') hb.size⟩,rfl,rfl,⟨⟨DR.kit,hb.os,hb.tape,hb.output,hb.size,fun b hb' _=>hb.block b hb',fun _ h=>h.elim,fun b h=>.inl h⟩,fun b h=>h⟩,zhw.2 ⟨rfl,hx⟩⟩
  have htab:Lib.TabIs Tryz.prog s.w "internal/strconv.uint64pow10" .u64 Lib.pow10Tab:=by
   obtain ⟨_,t,fr,h2⟩:=hgl.1 _ (show (2,_)∈gtab from List.mem_cons_self ..);unfold Lib.TabIs World.var?;have hg:Tryz.prog.globalNamed "internal/strconv.uint64pow10"=some 2:=by kernel_rfl
   rw [hg];simp only [Option.bind_some];rw [h2];simp [Lib.pow10Tab]
  have hb:=zgo.1 hn;have hl:=Lib.itoa_length_le i_ hb.1 hb.2;refine (b_itoa i_ hb.1 hb.2 s.w htab).mono fun e w' ⟨he,k,os,hw⟩=>?_;subst he;subst hw;exact fin _ _ (by omega) (Lib.below_grow _ s.w (Nat.le_refl _) k os)
end Go.Proofs.YtkbboemafklkkaaGreatDoor.V
namespace Go.Proofs.YtkbboemafklkkaaGreatDoor.V
open Go
set_option linter.unusedVariables false
set_option maxRecDepth 100000
set_option maxHeartbeats 2000000
set_option synthInstance.maxSize 100000
set_option synthInstance.maxHeartbeats 200000
theorem zc8 {slices_:(List (List SItem))} {r_:(List SItem)} (h:zg slices_ r_):Fn Tryz.prog 130 [(Pd.rep (En.slice (En.slice En.SItem)) slices_)] (Ro En.SItem 114 r_):=by
 unfold zg at h;refine zbp Tryz.func130 J Tryz.ntmps130 (by rfl) (by simp) fun s0 a L=>?_;refine rs (sno En.SItem 114 L fun a s L=>?_);refine es (rA 1 L fun a s L=>?_);refine wp_seq_k fun K1 H1=>rA 3 L fun a s L=>?_;refine wp_block ?_;have J3:∀(size2:Int) (a:Act) (s:St),Has N0 36 s0 a s [(0,(Pd.rep (En.slice (En.slice En.SItem)) slices_)),(3,(Pi size2))]→((zg.j2 slices_ r_) size2)→K1 a s.w:=by
  intro size2 a s L h;unfold zg.j2 at h;show K1 a s.w;refine H1 _ _ ?_;obtain ⟨r4,h5,h⟩:=h;refine rs (sA 1 L fun a s L=>?_);refine zet 24 L (zex h5) opz J J J J fun a s og6 hg_ L=>?_;refine sA 1 L fun a s L=>?_;refine es (wp_seq_k fun K7 H7=>?_);refine rA 3 L fun a s L=>?_;refine wp_block ?_;have J10:∀(newslice8:(List SItem)) (og9:Option Nat) (a:Act) (s:St),Has N0 36 s0 a s [(6,(Pd.row En.SItem s0.w.heap.size 114 og9 newslice8))]→((zg.j1 r_) newslice8)→K7 a s.w:=by
   intro newslice8 og9 a s L h;unfold zg.j1 at h;show K7 a s.w;refine H7 _ _ (rA 2 L fun a s L=>?_);subst h;exact wp_ret (zif J L J)
  obtain ⟨k14,h⟩:=h;refine lpn (fun k15 a s=>∃(newslice11:(List SItem)) (v13:Int) (og12:Option Nat),Has N0 36 s0 a s [(6,(Pd.row En.SItem s0.w.heap.size 114 og12 newslice11)),(25,(Pd.rep (En.slice (En.slice En.SItem)) slices_)),(26,(Pi (slices_.length:Int))),(27,(Pi v13))]∧zg.l1 slices_ (zg.j1 r_) k15 newslice11 v13) k14 ⟨r4,0,og6,L.kk,h⟩ ?_;rintro k15 a s ⟨newslice11,v13,og12,L,h⟩ KL16 hKL16;unfold zg.l1 at h;refine rA 1 L fun a s L=>?_;refine wp_seq_k fun K17 H17=>cn L h (fun h=>?_) fun h=>?_
  ·refine wp_skip (H17 _ _ ?_);refine wp_seq_k fun K18 H18=>wp_block ?_;obtain ⟨e19,h20,h⟩:=h;refine ra 3 (p1 h20) L fun a s L=>?_;obtain ⟨h21,h⟩:=h;refine rg (sA 2 L fun a s L=>?_);refine zdo 33 L op op Ud.h Tq.h h21 J J J J ka fun a s og22 hg_ L=>?_;refine sA 1 L fun a s L=>?_;refine en' (H18 _ _ ?_);obtain ⟨h23,h⟩:=h;refine rg (sA 2 L fun a s L=>?_);refine en' ?_;exact hKL16 a s ⟨(newslice11++e19),(v13+1),og22,L.kk,h⟩
  ·refine wp_exit ?_;exact J10 newslice11 og12 a s (L.kk) h
 obtain ⟨k26,h⟩:=h;refine lpn (fun k27 a s=>∃(size24:Int) (v25:Int),Has N0 36 s0 a s [(0,(Pd.rep (En.slice (En.slice En.SItem)) slices_)),(3,(Pi size24)),(9,(Pd.rep (En.slice (En.slice En.SItem)) slices_)),(10,(Pi (slices_.length:Int))),(11,(Pi v25))]∧zg.l2 slices_ (zg.j2 slices_ r_) k27 size24 v25) k26 ⟨0,0,L.kk,h⟩ ?_;rintro k27 a s ⟨size24,v25,L,h⟩ KL28 hKL28;unfold zg.l2 at h;refine rA 1 L fun a s L=>?_;refine wp_seq_k fun K29 H29=>cn L h (fun h=>?_) fun h=>?_
 ·refine wp_skip (H29 _ _ ?_);refine wp_seq_k fun K30 H30=>wp_block ?_;obtain ⟨e31,h32,h⟩:=h;refine ra 3 (p1 h32) L fun a s L=>?_;obtain ⟨h33,h⟩:=h;refine rA 5 L fun a s L=>?_;refine rA 2 L fun a s L=>?_;refine cn L h (fun h=>?_) fun h=>?_
  ·exact h.elim
  ·refine wp_skip (H30 _ _ ?_);obtain ⟨h34,h⟩:=h;refine rg (sA 2 L fun a s L=>?_);refine en' ?_;exact hKL28 a s ⟨(size24+(e31.length:Int)),(v25+1),L.kk,h⟩
 ·refine wp_exit ?_;exact J3 size24 a s (L.kk) h
theorem zdb {s_:(List SItem)} {r_:(List SItem)} (h:zb1 s_ r_):Fn Tryz.prog 156 [(Pd.rep (En.slice En.SItem) s_)] (Ro En.SItem 114 r_):=by
 unfold zb1 at h;refine zbp Tryz.func156 J Tryz.ntmps156 (by rfl) (by simp) fun s0 a L=>?_;refine rs (sno En.SItem 114 L fun a s L=>?_);refine es (wp_seq_k fun K1 H1=>?_);refine rs (sA 1 L fun a s L=>?_);refine sv (t_isnil op Ud.h J J) L fun a s L=>?_;obtain ⟨b2,h3,L⟩:=L.nilq 4 rfl;replace h:=h b2 h3;refine es (cn L h (fun h=>?_) fun h=>?_)
 ·refine rs ?_;refine sno En.SItem 114 L fun a s L=>?_;refine es ?_;subst h;exact wp_ret (zif J L J)
 ·refine wp_skip (H1 _ _ ?_);obtain ⟨h5,h⟩:=h;refine rs (st_new En.SItem 5 L Ud.h Tq.h J J J J fun a s g4 hg_ L=>?_);refine sA 1 L fun a s L=>?_;refine zdo 7 L op op Ud.h Tq.h h5 J J J J ka fun a s og6 hg_ L=>?_;refine sA 1 L fun a s L=>?_;refine es ?_;subst h;exact wp_ret (zif J L J)
theorem zd4 {s_:(List (List SItem))} {f_:((List SItem) × Bool→Prop)} {r_:Int} (h:zm s_ f_ r_):Fn Tryz.prog 102 [(Pd.rep (En.slice (En.slice En.SItem)) s_),(Pd.rep EnF135 f_)] (Rq (Pi r_)):=by
 unfold zm at h;refine zbp Tryz.func102 J Tryz.ntmps102 (by rfl) (by simp) fun s0 a L=>?_;refine rA 1 L fun a s L=>?_;refine wp_seq_k fun K1 H1=>rA 3 L fun a s L=>?_;refine wp_block ?_;have J2:∀(a:Act) (s:St),Has N0 19 s0 a s []→((zm.j1 r_))→K1 a s.w:=by
  intro a s L h;unfold zm.j1 at h;show K1 a s.w;refine H1 _ _ (rA 1 L fun a s L=>?_);subst h;exact wp_ret (zdw J L J)
 obtain ⟨k4,h⟩:=h;refine lpn (fun k5 a s=>∃(v3:Int),Has N0 19 s0 a s [(0,(Pd.rep (En.slice (En.slice En.SItem)) s_)),(1,(Pd.rep EnF135 f_)),(7,(Pi (s_.length:Int))),(8,(Pi v3))]∧zm.l1 s_ f_ r_ (zm.j1 r_) k5 v3) k4 ⟨0,L.kk,h⟩ ?_;rintro k5 a s ⟨v3,L,h⟩ KL6 hKL6;unfold zm.l1 at h;refine rA 1 L fun a s L=>?_;refine wp_seq_k fun K7 H7=>cn L h (fun h=>?_) fun h=>?_
 ·refine wp_skip (H7 _ _ ?_);refine wp_seq_k fun K8 H8=>wp_block (rA 2 L fun a s L=>?_);obtain ⟨e9,h10,r11,h12,h⟩:=h;refine rs (sl 5 (p1 h10) L fun a s L=>?_);refine sv (zfc (q:=(e9,r11)) op h12 opz (fun _ _ _ h_=>h_) J J) L fun a s L=>?_;refine es (cn L h (fun h=>?_) fun h=>?_)
  ·refine rA 2 L fun a s L=>?_;subst h;exact wp_ret (zdw J L J)
  ·refine wp_skip (H8 _ _ ?_);obtain ⟨h13,h⟩:=h;refine rg (sA 2 L fun a s L=>?_);refine en' ?_;exact hKL6 a s ⟨(v3+1),L.kk,h⟩
 ·refine wp_exit ?_;exact J2 a s (L.kk) h
theorem zdv {s_:(List (List SItem))} {f_:((List SItem) × Bool→Prop)} {r_:Bool} (h:zbl s_ f_ r_):Fn Tryz.prog 75 [(Pd.rep (En.slice (En.slice En.SItem)) s_),(Pd.rep EnF135 f_)] (Rq (Pd.rep En.bool r_)):=by
 unfold zbl at h;refine zbp Tryz.func75 J Tryz.ntmps75 (by rfl) (by simp) fun s0 a L=>?_;refine rA 1 L fun a s L=>?_;obtain ⟨r1,h2,h⟩:=h;refine ra 5 (p1 (zd4 h2)) L fun a s L=>?_;subst h;exact wp_ret (zdw J L J)
theorem zei {slices_:(List (List Cl))} {r_:(List Cl)} (h:zh slices_ r_):Fn Tryz.prog 144 [(Pd.rep (En.slice (En.slice En.cls)) slices_)] (Ro En.cls 38 r_):=by
 unfold zh at h;refine zbp Tryz.func144 J Tryz.ntmps144 (by rfl) (by simp) fun s0 a L=>?_;refine rs (sno En.cls 38 L fun a s L=>?_);refine es (rA 1 L fun a s L=>?_);refine wp_seq_k fun K1 H1=>rA 3 L fun a s L=>?_;refine wp_block ?_;have J3:∀(size2:Int) (a:Act) (s:St),Has N0 36 s0 a s [(0,(Pd.rep (En.slice (En.slice En.cls)) slices_)),(3,(Pi size2))]→((zh.j2 slices_ r_) size2)→K1 a s.w:=by
  intro size2 a s L h;unfold zh.j2 at h;show K1 a s.w;refine H1 _ _ ?_;obtain ⟨r4,h5,h⟩:=h;refine rs (sA 1 L fun a s L=>?_);refine zet 24 L (zer h5) opz J J J J fun a s og6 hg_ L=>?_;refine sA 1 L fun a s L=>?_;refine es (wp_seq_k fun K7 H7=>?_);refine rA 3 L fun a s L=>?_;refine wp_block ?_;have J10:∀(newslice8:(List Cl)) (og9:Option Nat) (a:Act) (s:St),Has N0 36 s0 a s [(6,(Pd.row En.cls s0.w.heap.size 38 og9 newslice8))]→((zh.j1 r_) newslice8)→K7 a s.w:=by
   intro newslice8 og9 a s L h;unfold zh.j1 at h;show K7 a s.w;refine H7 _ _ (rA 2 L fun a s L=>?_);subst h;exact wp_ret (zif J L J)
  obtain ⟨k14,h⟩:=h;refine lpn (fun k15 a s=>∃(newslice11:(List Cl)) (v13:Int) (og12:Option Nat),Has N0 36 s0 a s [(6,(Pd.row En.cls s0.w.heap.size 38 og12 newslice11)),(25,(Pd.rep (En.slice (En.slice En.cls)) slices_)),(26,(Pi (slices_.length:Int))),(27,(Pi v13))]∧zh.l1 slices_ (zh.j1 r_) k15 newslice11 v13) k14 ⟨r4,0,og6,L.kk,h⟩ ?_;rintro k15 a s ⟨newslice11,v13,og12,L,h⟩ KL16 hKL16;unfold zh.l1 at h;refine rA 1 L fun a s L=>?_;refine wp_seq_k fun K17 H17=>cn L h (fun h=>?_) fun h=>?_
  ·refine wp_skip (H17 _ _ ?_);refine wp_seq_k fun K18 H18=>wp_block ?_;obtain ⟨e19,h20,h⟩:=h;refine ra 3 (p1 h20) L fun a s L=>?_;obtain ⟨h21,h⟩:=h;refine rg (sA 2 L fun a s L=>?_);refine st_appB 33 32 L op op Ud.h Tq.h (by decide) ⟨_,J,by decide⟩ h21 J J J J ka fun a s og22 hg_ L=>?_;refine sA 1 L fun a s L=>?_;refine en' (H18 _ _ ?_);obtain ⟨h23,h⟩:=h;refine rg (sA 2 L fun a s L=>?_);refine en' ?_;exact hKL16 a s ⟨(newslice11++e19),(v13+1),og22,L.kk,h⟩
  ·refine wp_exit ?_;exact J10 newslice11 og12 a s (L.kk) h
 obtain ⟨k26,h⟩:=h;refine lpn (fun k27 a s=>∃(size24:Int) (v25:Int),Has N0 36 s0 a s [(0,(Pd.rep (En.slice (En.slice En.cls)) slices_)),(3,(Pi size24)),(9,(Pd.rep (En.slice (En.slice En.cls)) slices_)),(10,(Pi (slices_.length:Int))),(11,(Pi v25))]∧zh.l2 slices_ (zh.j2 slices_ r_) k27 size24 v25) k26 ⟨0,0,L.kk,h⟩ ?_;rintro k27 a s ⟨size24,v25,L,h⟩ KL28 hKL28;unfold zh.l2 at h;refine rA 1 L fun a s L=>?_;refine wp_seq_k fun K29 H29=>cn L h (fun h=>?_) fun h=>?_
 ·refine wp_skip (H29 _ _ ?_);refine wp_seq_k fun K30 H30=>wp_block ?_;obtain ⟨e31,h32,h⟩:=h;refine ra 3 (p1 h32) L fun a s L=>?_;obtain ⟨h33,h⟩:=h;refine rA 5 L fun a s L=>?_;refine rA 2 L fun a s L=>?_;refine cn L h (fun h=>?_) fun h=>?_
  ·exact h.elim
  ·refine wp_skip (H30 _ _ ?_);obtain ⟨h34,h⟩:=h;refine rg (sA 2 L fun a s L=>?_);refine en' ?_;exact hKL28 a s ⟨(size24+(e31.length:Int)),(v25+1),L.kk,h⟩
 ·refine wp_exit ?_;exact J3 size24 a s (L.kk) h
theorem zcl (v0:Value) {data_:(List Cl)} {a_:Int} {b_:Int} {cmp_:(Cl × Cl × Int→Prop)} {r_:(List Cl)} (h:zd data_ a_ b_ cmp_ r_):Fm Tryz.prog 213 (fun b=>v0.ownBlock=some b) [(Pd.prow En.cls 38 v0 data_),(Pi a_),(Pi b_),(Pd.rep EnF262 cmp_)] (fun _ s' _=>(Pd.prow En.cls 38 v0 r_).p s' v0):=by
 unfold zd at h;refine fm_of Tryz.func213 J Tryz.ntmps213 (by rfl) (by simp) fun s0 a L=>?_;obtain ⟨h1,h⟩:=h;refine rA 3 L fun a s L=>?_;refine wp_block ?_;have J3:∀(data2:(List Cl)) (a:Act) (s:St),Has (fun b=>v0.ownBlock=some b) 53 s0 a s [(0,(Pd.prow En.cls 38 v0 data2))]→((zd.j1 r_) data2)→(bodyPost Tryz.prog Tryz.f213 (Pst (fun b=>v0.ownBlock=some b) (fun _ s' _=>(Pd.prow En.cls 38 v0 r_).p s' v0) s0) .normal) a s.w:=by
  intro data2 a s L h;unfold zd.j1 at h;subst h;exact retm J L (c:=0) J
 obtain ⟨k6,h⟩:=h;refine lpn (fun k7 a s=>∃(data4:(List Cl)) (i5:Int),Has (fun b=>v0.ownBlock=some b) 53 s0 a s [(0,(Pd.prow En.cls 38 v0 data4)),(1,(Pi a_)),(2,(Pi b_)),(3,(Pd.rep EnF262 cmp_)),(8,(Pi i5))]∧zd.l1 a_ b_ cmp_ (zd.j1 r_) k7 data4 i5) k6 ⟨data_,(a_+1),L.kk,h⟩ ?_;rintro k7 a s ⟨data4,i5,L,h⟩ KL8 hKL8;unfold zd.l1 at h;refine wp_seq_k fun K9 H9=>rA 3 L fun a s L=>?_;refine cn L h (fun h=>?_) fun h=>?_
 ·refine wp_skip (H9 _ _ ?_);refine wp_seq_k fun K10 H10=>wp_block (rA 2 L fun a s L=>?_);refine wp_block ?_;have J12:∀(data11:(List Cl)) (a:Act) (s:St),Has (fun b=>v0.ownBlock=some b) 53 s0 a s [(0,(Pd.prow En.cls 38 v0 data11)),(1,(Pi a_)),(2,(Pi b_)),(3,(Pd.rep EnF262 cmp_)),(8,(Pi i5))]→((zd.j2 (zd.l1 a_ b_ cmp_ (zd.j1 r_) k7) i5) data11)→K10 a s.w:=by
   intro data11 a s L h;unfold zd.j2 at h;show K10 a s.w;refine H10 _ _ ?_;obtain ⟨h13,h⟩:=h;refine rg (sA 3 L fun a s L=>?_);refine en' ?_;exact hKL8 a s ⟨data11,(i5+1),L.kk,h⟩
  obtain ⟨k16,h⟩:=h;refine lpn (fun k17 a s=>∃(data14:(List Cl)) (j15:Int),Has (fun b=>v0.ownBlock=some b) 53 s0 a s [(0,(Pd.prow En.cls 38 v0 data14)),(1,(Pi a_)),(2,(Pi b_)),(3,(Pd.rep EnF262 cmp_)),(8,(Pi i5)),(9,(Pi j15))]∧zd.l2 a_ cmp_ (zd.j2 (zd.l1 a_ b_ cmp_ (zd.j1 r_) k7) i5) k17 data14 j15) k16 ⟨data4,i5,L.kk,h⟩ ?_;rintro k17 a s ⟨data14,j15,L,h⟩ KL18 hKL18;unfold zd.l2 at h;refine wp_seq_k fun K19 H19=>?_;obtain ⟨e20,h21,h22,e23,h24,r25,h26,h⟩:=h;refine wp_seq (rda zc1 17 [(Pi j15),(Pi a_),(Pd.rep En.bool (decide (a_<j15))),(Pd.rep En.bool (decide (a_<j15))),(Pd.when ((decide (a_<j15))=true) (Pd.rep EnF262 cmp_)),(Pd.when ((decide (a_<j15))=true) (Pd.prow En.cls 38 v0 data14)),(Pd.when ((decide (a_<j15))=true) (Pi j15)),(Pd.when ((decide (a_<j15))=true) (Pd.optr En.cls 0 v0.ownBlock ((j15:Int).toNat*En.cls.sz) e20)),(Pd.when ((decide (a_<j15))=true) (Pd.rep En.cls e20)),(Pd.when ((decide (a_<j15))=true) (Pd.prow En.cls 38 v0 data14)),(Pd.when ((decide (a_<j15))=true) (Pi j15)),(Pd.when ((decide (a_<j15))=true) (Pi (j15-1))),(Pd.when ((decide (a_<j15))=true) (Pd.optr En.cls 0 v0.ownBlock ((j15-1:Int).toNat*En.cls.sz) e23)),(Pd.when ((decide (a_<j15))=true) (Pd.rep En.cls e23)),(Pd.when ((decide (a_<j15))=true) (Pi r25)),(Pd.when ((decide (a_<j15))=true) (Pd.rep En.bool (decide (r25<0)))),(Pd.rep En.bool ((decide (a_<j15))&&(decide (r25<0))))] L (by kernel_rfl) J J ?_ ?_)
  ·refine zbf.cons (zt (O 9 J) J J) ?_;refine zbf.cons (zt (O 1 J) J J) ?_;refine zbf.cons (t_gtr (O 18 J) (O 19 J) J J) ?_;refine zbf.cons (zt (O 20 J) J J) ?_;refine zbf.cons (t_g1 J J J (fun hc_=>zt (O 3 J) J J)) ?_;refine zbf.cons (t_g1 J J J (fun hc_=>zt (O 0 J) J J)) ?_;refine zbf.cons (t_g1 J J J (fun hc_=>zt (O 9 J) J J)) ?_;refine zbf.cons (t_g1 J J J (fun hc_=>zd0 (o_p (o_w hc_ 23 J)) (o_w hc_ 24 J) (h21 hc_) U137 zf8 J J)) ?_;refine zbf.cons (t_g1 J J J (fun hc_=>zb3 zf8 (o_w hc_ 25 J) J J)) ?_;refine zbf.cons (t_g1 J J J (fun hc_=>zt (O 0 J) J J)) ?_;refine zbf.cons (t_g1 J J J (fun hc_=>zt (O 9 J) J J)) ?_;refine zbf.cons (t_g1 J J J (fun hc_=>zmf (o_w hc_ 28 J) oI (h22 hc_) J J)) ?_;refine zbf.cons (t_g1 J J J (fun hc_=>zd0 (o_p (o_w hc_ 27 J)) (o_w hc_ 29 J) (h24 hc_) U137 zf8 J J)) ?_;refine zbf.cons (t_g1 J J J (fun hc_=>zb3 zf8 (o_w hc_ 30 J) J J)) ?_;refine zbf.cons (t_g1 J J J (fun hc_=>zfc (q:=(e20,e23,r25)) (o_w hc_ 22 J) (h26 hc_) (xs:=[.tmp 26,.tmp 31]) (.cons (o_w hc_ 26 J) (.cons (o_w hc_ 31 J) .nil)) (fun _ _ _ h_=>h_) J J)) ?_;refine zbf.cons (t_g1 J J J (fun hc_=>t_lss (o_w hc_ 32 J) oI J J)) ?_;refine zbf.cons (t_and (O 21 J) (fun hc2_=>(o_w hc2_ 33 J)) J J) ?_;exact zbf.nil
  intro a s _ L;replace L:=L.kk (L':=[(0,(Pd.prow En.cls 38 v0 data14)),(1,(Pi a_)),(2,(Pi b_)),(3,(Pd.rep EnF262 cmp_)),(8,(Pi i5)),(9,(Pi j15)),(34,(Pd.rep En.bool ((decide (a_<j15))&&(decide (r25<0)))))]);refine dp ?_;refine es (cn L h (fun h=>?_) fun h=>?_)
  ·refine wp_skip (H19 _ _ ?_);refine wp_seq_k fun K27 H27=>wp_block ?_;obtain ⟨h28,h29,e30,h31,e32,h33,e34,h35,e36,h37,h⟩:=h;refine rdf 18 zc1 L (by kernel_rfl) fun s _ L=>?_;refine zch 2 39 L (by rfl) (by kernel_rfl) (by kernel_rfl) (by kernel_rfl) (fun _ _ _ _ h=>h) (q:=(Pd.prow En.cls 38 v0 data14)) (zh7 (O 0 J) J J) J J fun a L=>?_;refine zch 3 40 L (by rfl) (by kernel_rfl) (by kernel_rfl) (by kernel_rfl) (fun _ _ _ _ h=>h) (q:=(Pi j15)) (zh7 (O 9 J) J J) J J fun a L=>?_;refine zch 4 41 L (by rfl) (by kernel_rfl) (by kernel_rfl) (by kernel_rfl) (fun _ _ _ _ h=>h) (q:=(Pi (j15-1))) (y_sub (O 40 J) oI h28 J J) J J fun a L=>?_;refine fl_go 15 [(Pd.prow En.cls 38 v0 data14),(Pi j15),(Pd.prow En.cls 38 v0 data14),(Pi j15),(Pi (j15-1)),(Pd.prow En.cls 38 v0 data14),(Pi j15),(Pi (j15-1)),(Pd.optr En.cls 0 v0.ownBlock ((j15-1:Int).toNat*En.cls.sz) e30),(Pd.rep En.cls e30),(Pd.prow En.cls 38 v0 data14),(Pi j15),(Pd.optr En.cls 0 v0.ownBlock ((j15:Int).toNat*En.cls.sz) e32),(Pd.rep En.cls e32),(Pd.optr En.cls 0 v0.ownBlock ((j15:Int).toNat*En.cls.sz) e34)] [2,3,4] L (by kernel_rfl) (by kernel_rfl) (by kernel_rfl) (.cons (i:=2) J J J J (.cons (i:=3) J J J J (.cons (i:=4) J J J J .nil))) J J ?_ ?_
   ·refine zc2.cons (zt (O 0 J) J J) ?_;refine zc2.cons (zt (O 9 J) J J) ?_;refine zc2.skip J ?_;refine zc2.skip J ?_;refine zc2.skip J ?_;refine zc2.cons (zt (O 0 J) J J) ?_;refine zc2.cons (zt (O 9 J) J J) ?_;refine zc2.cons (zmf (O 43 J) oI h29 J J) ?_;refine zc2.cons (zd0 (o_p (O 42 J)) (O 44 J) h31 U137 zf8 J J) ?_;refine zc2.cons (zb3 zf8 (O 45 J) J J) ?_;refine zc2.cons (zt (O 0 J) J J) ?_;refine zc2.cons (zt (O 9 J) J J) ?_;refine zc2.cons (zd0 (o_p (O 47 J)) (O 48 J) h33 U137 zf8 J J) ?_;refine zc2.cons (zb3 zf8 (O 49 J) J J) ?_;refine zc2.cons (zd0 (o_p (O 37 J)) (O 38 J) h35 U137 zf8 J J) ?_;exact zc2.nil
   intro a s _ L;replace L:=L.kk (L':=[(0,(Pd.prow En.cls 38 v0 data14)),(1,(Pi a_)),(2,(Pi b_)),(3,(Pd.rep EnF262 cmp_)),(8,(Pi i5)),(9,(Pi j15)),(39,(Pd.prow En.cls 38 v0 data14)),(41,(Pi (j15-1))),(46,(Pd.rep En.cls e30)),(50,(Pd.rep En.cls e32)),(51,(Pd.optr En.cls 0 v0.ownBlock ((j15:Int).toNat*En.cls.sz) e34))]);refine dp ?_;refine zfk (off:=0) 0 (fun b h=>h) L J h35 op op (zn _ _ _) Tq.h J J J kw fun s L=>?_;refine sl 1 (p1 h37) L fun a s L=>?_;refine zfk (off:=0) 0 (fun b h=>h) L J h37 op op (zn _ _ _) Tq.h J J J kw fun s L=>?_;refine en' (H27 _ _ ?_);obtain ⟨h38,h⟩:=h;refine rg (sA 3 L fun a s L=>?_);refine en' ?_;exact hKL18 a s ⟨((data14.set (j15:Int).toNat e30).set (j15-1:Int).toNat e32),(j15-1),L.kk,h⟩
  ·refine wp_exit ?_;exact J12 data14 a s (L.kk) h
 ·refine wp_exit ?_;exact J3 data4 a s (L.kk) h
theorem zb7 (v0:Value) {data_:(List Cl)} {a_:Int} {b_:Int} {nv_:Int} {cmp_:(Cl × Cl × Int→Prop)} {r_:(List Cl)} (h:zk data_ a_ b_ nv_ cmp_ r_):Fm Tryz.prog 219 (fun b=>v0.ownBlock=some b) [(Pd.prow En.cls 38 v0 data_),(Pi a_),(Pi b_),(Pi nv_),(Pd.rep EnF262 cmp_)] (fun _ s' _=>(Pd.prow En.cls 38 v0 r_).p s' v0):=by
 unfold zk at h;refine fm_of Tryz.func219 J Tryz.ntmps219 (by rfl) (by simp) fun s0 a L=>?_;refine rA 1 L fun a s L=>?_;refine wp_block ?_;have J2:∀(data1:(List Cl)) (a:Act) (s:St),Has (fun b=>v0.ownBlock=some b) 38 s0 a s [(0,(Pd.prow En.cls 38 v0 data1))]→((zk.j1 r_) data1)→(bodyPost Tryz.prog Tryz.f219 (Pst (fun b=>v0.ownBlock=some b) (fun _ s' _=>(Pd.prow En.cls 38 v0 r_).p s' v0) s0) .normal) a s.w:=by
  intro data1 a s L h;unfold zk.j1 at h;subst h;exact retm J L (c:=0) J
 obtain ⟨k5,h⟩:=h;refine lpn (fun k6 a s=>∃(data3:(List Cl)) (i4:Int),Has (fun b=>v0.ownBlock=some b) 38 s0 a s [(0,(Pd.prow En.cls 38 v0 data3)),(1,(Pi a_)),(2,(Pi b_)),(3,(Pi nv_)),(10,(Pi i4))]∧zk.l1 a_ b_ nv_ (zk.j1 r_) k6 data3 i4) k5 ⟨data_,0,L.kk,h⟩ ?_;rintro k6 a s ⟨data3,i4,L,h⟩ KL7 hKL7;unfold zk.l1 at h;refine wp_seq_k fun K8 H8=>rA 3 L fun a s L=>?_;refine cn L h (fun h=>?_) fun h=>?_
 ·refine wp_skip (H8 _ _ ?_);refine wp_seq_k fun K9 H9=>wp_block ?_;obtain ⟨h10,h11,h12,e13,h14,h15,e16,h17,e18,h19,e20,h21,h⟩:=h;refine rdf 24 zc1 L (by kernel_rfl) fun s _ L=>?_;refine zch 4 20 L (by rfl) (by kernel_rfl) (by kernel_rfl) (by kernel_rfl) (fun _ _ _ _ h=>h) (q:=(Pd.prow En.cls 38 v0 data3)) (zh7 (O 0 J) J J) J J fun a L=>?_;refine zch 5 21 L (by rfl) (by kernel_rfl) (by kernel_rfl) (by kernel_rfl) (fun _ _ _ _ h=>h) (q:=(Pi b_)) (zh7 (O 2 J) J J) J J fun a L=>?_;refine zch 6 22 L (by rfl) (by kernel_rfl) (by kernel_rfl) (by kernel_rfl) (fun _ _ _ _ h=>h) (q:=(Pi i4)) (zh7 (O 10 J) J J) J J fun a L=>?_;refine zch 7 23 L (by rfl) (by kernel_rfl) (by kernel_rfl) (by kernel_rfl) (fun _ _ _ _ h=>h) (q:=(Pi (b_+i4))) (y_add (O 21 J) (O 22 J) h11 J J) J J fun a L=>?_;refine fl_go 21 [(Pd.prow En.cls 38 v0 data3),(Pi a_),(Pi i4),(Pi (a_+i4)),(Pd.prow En.cls 38 v0 data3),(Pi b_),(Pi i4),(Pi (b_+i4)),(Pd.prow En.cls 38 v0 data3),(Pi b_),(Pi i4),(Pi (b_+i4)),(Pd.optr En.cls 0 v0.ownBlock ((b_+i4:Int).toNat*En.cls.sz) e13),(Pd.rep En.cls e13),(Pd.prow En.cls 38 v0 data3),(Pi a_),(Pi i4),(Pi (a_+i4)),(Pd.optr En.cls 0 v0.ownBlock ((a_+i4:Int).toNat*En.cls.sz) e16),(Pd.rep En.cls e16),(Pd.optr En.cls 0 v0.ownBlock ((a_+i4:Int).toNat*En.cls.sz) e18)] [4,5,6,7] L (by kernel_rfl) (by kernel_rfl) (by kernel_rfl) (.cons (i:=4) J J J J (.cons (i:=5) J J J J (.cons (i:=6) J J J J (.cons (i:=7) J J J J .nil)))) J J ?_ ?_
  ·refine zc2.cons (zt (O 0 J) J J) ?_;refine zc2.cons (zt (O 1 J) J J) ?_;refine zc2.cons (zt (O 10 J) J J) ?_;refine zc2.cons (t_add (O 17 J) (O 18 J) h10 J J) ?_;refine zc2.skip J ?_;refine zc2.skip J ?_;refine zc2.skip J ?_;refine zc2.skip J ?_;refine zc2.cons (zt (O 0 J) J J) ?_;refine zc2.cons (zt (O 2 J) J J) ?_;refine zc2.cons (zt (O 10 J) J J) ?_;refine zc2.cons (t_add (O 25 J) (O 26 J) h12 J J) ?_;refine zc2.cons (zd0 (o_p (O 24 J)) (O 27 J) h14 U137 zf8 J J) ?_;refine zc2.cons (zb3 zf8 (O 28 J) J J) ?_;refine zc2.cons (zt (O 0 J) J J) ?_;refine zc2.cons (zt (O 1 J) J J) ?_;refine zc2.cons (zt (O 10 J) J J) ?_;refine zc2.cons (t_add (O 31 J) (O 32 J) h15 J J) ?_;refine zc2.cons (zd0 (o_p (O 30 J)) (O 33 J) h17 U137 zf8 J J) ?_;refine zc2.cons (zb3 zf8 (O 34 J) J J) ?_;refine zc2.cons (zd0 (o_p (O 16 J)) (O 19 J) h19 U137 zf8 J J) ?_;exact zc2.nil
  intro a s _ L;replace L:=L.kk (L':=[(0,(Pd.prow En.cls 38 v0 data3)),(1,(Pi a_)),(2,(Pi b_)),(3,(Pi nv_)),(10,(Pi i4)),(20,(Pd.prow En.cls 38 v0 data3)),(23,(Pi (b_+i4))),(29,(Pd.rep En.cls e13)),(35,(Pd.rep En.cls e16)),(36,(Pd.optr En.cls 0 v0.ownBlock ((a_+i4:Int).toNat*En.cls.sz) e18))]);refine dp ?_;refine zfk (off:=0) 0 (fun b h=>h) L J h19 op op (zn _ _ _) Tq.h J J J kw fun s L=>?_;refine sl 1 (p1 h21) L fun a s L=>?_;refine zfk (off:=0) 0 (fun b h=>h) L J h21 op op (zn _ _ _) Tq.h J J J kw fun s L=>?_;refine en' (H9 _ _ ?_);obtain ⟨h22,h⟩:=h;refine rg (sA 3 L fun a s L=>?_);refine en' ?_;exact hKL7 a s ⟨((data3.set (a_+i4:Int).toNat e13).set (b_+i4:Int).toNat e16),(i4+1),L.kk,h⟩
 ·refine wp_exit ?_;exact J2 data3 a s (L.kk) h
theorem zew (v0:Value) {data_:(List Cl)} {a_:Int} {m_:Int} {b_:Int} {cmp_:(Cl × Cl × Int→Prop)} {r_:(List Cl)} (h:zq data_ a_ m_ b_ cmp_ r_):Fm Tryz.prog 218 (fun b=>v0.ownBlock=some b) [(Pd.prow En.cls 38 v0 data_),(Pi a_),(Pi m_),(Pi b_),(Pd.rep EnF262 cmp_)] (fun _ s' _=>(Pd.prow En.cls 38 v0 r_).p s' v0):=by
 unfold zq at h;refine fm_of Tryz.func218 J Tryz.ntmps218 (by rfl) (by simp) fun s0 a L=>?_;obtain ⟨h1,h⟩:=h;refine rA 4 L fun a s L=>?_;obtain ⟨h2,h⟩:=h;refine rA 4 L fun a s L=>?_;refine wp_seq_k fun K3 H3=>wp_block ?_;have J6:∀(data4:(List Cl)) (i5:Int) (a:Act) (s:St),Has (fun b=>v0.ownBlock=some b) 58 s0 a s [(0,(Pd.prow En.cls 38 v0 data4)),(2,(Pi m_)),(4,(Pd.rep EnF262 cmp_)),(10,(Pi i5))]→((zq.j1 m_ cmp_ r_) data4 i5)→K3 a s.w:=by
  intro data4 i5 a s L h;unfold zq.j1 at h;show K3 a s.w;refine H3 _ _ ?_;obtain ⟨h7,r8,h9,h⟩:=h;refine rg (sA 7 L fun a s L=>?_);refine zeu 57 (fun v0=>zb7 v0 h9) L (fun b h=>h) op opz J J J J kw fun a s L=>?_;refine en' ?_;subst h;exact retm J L (c:=0) J
 obtain ⟨k13,h⟩:=h;refine lpn (fun k14 a s=>∃(data10:(List Cl)) (i11:Int) (j12:Int),Has (fun b=>v0.ownBlock=some b) 58 s0 a s [(0,(Pd.prow En.cls 38 v0 data10)),(2,(Pi m_)),(4,(Pd.rep EnF262 cmp_)),(10,(Pi i11)),(11,(Pi j12))]∧zq.l1 m_ cmp_ (zq.j1 m_ cmp_ r_) k14 data10 i11 j12) k13 ⟨data_,(m_-a_),(b_-m_),L.kk,h⟩ ?_;rintro k14 a s ⟨data10,i11,j12,L,h⟩ KL15 hKL15;unfold zq.l1 at h;refine wp_seq_k fun K16 H16=>rA 3 L fun a s L=>?_;refine cn L h (fun h=>?_) fun h=>?_
 ·refine wp_skip (H16 _ _ ?_);refine wp_block (rA 3 L fun a s L=>?_);refine cn L h (fun h=>?_) fun h=>?_
  ·obtain ⟨h17,r18,h19,h⟩:=h;refine rs (sA 7 L fun a s L=>?_);refine zeu 31 (fun v0=>zb7 v0 h19) L (fun b h=>h) op opz J J J J kw fun a s L=>?_;refine es ?_;obtain ⟨h20,h⟩:=h;refine rg (sA 4 L fun a s L=>?_);refine en' ?_;exact hKL15 a s ⟨r18,(i11-j12),j12,L.kk,h⟩
  ·obtain ⟨h21,h22,h23,r24,h25,h⟩:=h;refine rs (sA 11 L fun a s L=>?_);refine zeu 46 (fun v0=>zb7 v0 h25) L (fun b h=>h) op opz J J J J kw fun a s L=>?_;refine es ?_;obtain ⟨h26,h⟩:=h;refine rg (sA 4 L fun a s L=>?_);refine en' ?_;exact hKL15 a s ⟨r24,i11,(j12-i11),L.kk,h⟩
 ·refine wp_exit ?_;exact J6 data10 i11 a s (L.kk) h
theorem za.n_ok (k_:Nat):∀(v0:Value) {data_:(List Cl)} {a_:Int} {m_:Int} {b_:Int} {cmp_:(Cl × Cl × Int→Prop)} {r_:(List Cl)} (h:za.n k_ data_ a_ m_ b_ cmp_ r_),Fm Tryz.prog 214 (fun b=>v0.ownBlock=some b) [(Pd.prow En.cls 38 v0 data_),(Pi a_),(Pi m_),(Pi b_),(Pd.rep EnF262 cmp_)] (fun _ s' _=>(Pd.prow En.cls 38 v0 r_).p s' v0):=by
 induction k_ with
 | zero=>intro v0 data_ a_ m_ b_ cmp_ r_ h;exact h.elim
 | succ k_ ih_=>
 intro v0 data_ a_ m_ b_ cmp_ r_ h;unfold za.n at h;refine fm_of Tryz.func214 J Tryz.ntmps214 (by rfl) (by simp) fun s0 a L=>?_;refine wp_seq_k fun K1 H1=>?_;obtain ⟨h2,h⟩:=h;refine rA 4 L fun a s L=>?_;refine cn L h (fun h=>?_) fun h=>?_
 ·refine rA 2 L fun a s L=>?_;refine rA 2 L fun a s L=>?_;refine wp_seq_k fun K3 H3=>wp_block ?_;have J5:∀(i4:Int) (a:Act) (s:St),Has (fun b=>v0.ownBlock=some b) 220 s0 a s [(0,(Pd.prow En.cls 38 v0 data_)),(1,(Pi a_)),(10,(Pi i4))]→((za.j2 data_ a_ r_) i4)→K3 a s.w:=by
   intro i4 a s L h;unfold za.j2 at h;show K3 a s.w;refine H3 _ _ (wp_seq_k fun K6 H6=>?_);refine rA 2 L fun a s L=>?_;refine wp_block ?_;have J8:∀(data7:(List Cl)) (a:Act) (s:St),Has (fun b=>v0.ownBlock=some b) 220 s0 a s [(0,(Pd.prow En.cls 38 v0 data7))]→((za.j1 r_) data7)→K6 a s.w:=by
    intro data7 a s L h;unfold za.j1 at h;show K6 a s.w;refine H6 _ _ ?_;subst h;exact wp_ret (retm J L (c:=0) J)
   obtain ⟨k11,h⟩:=h;refine lpn (fun k12 a s=>∃(data9:(List Cl)) (k10:Int),Has (fun b=>v0.ownBlock=some b) 220 s0 a s [(0,(Pd.prow En.cls 38 v0 data9)),(10,(Pi i4)),(13,(Pi k10))]∧za.l1 i4 (za.j1 r_) k12 data9 k10) k11 ⟨data_,a_,L.kk,h⟩ ?_;rintro k12 a s ⟨data9,k10,L,h⟩ KL13 hKL13;unfold za.l1 at h;refine wp_seq_k fun K14 H14=>?_;obtain ⟨h15,h⟩:=h;refine rA 4 L fun a s L=>?_;refine cn L h (fun h=>?_) fun h=>?_
   ·refine wp_skip (H14 _ _ ?_);refine wp_seq_k fun K16 H16=>wp_block ?_;obtain ⟨h17,h18,e19,h20,e21,h22,e23,h24,e25,h26,h⟩:=h;refine rdf 18 zc1 L (by kernel_rfl) fun s _ L=>?_;refine zch 2 63 L (by rfl) (by kernel_rfl) (by kernel_rfl) (by kernel_rfl) (fun _ _ _ _ h=>h) (q:=(Pd.prow En.cls 38 v0 data9)) (zh7 (O 0 J) J J) J J fun a L=>?_;refine zch 3 64 L (by rfl) (by kernel_rfl) (by kernel_rfl) (by kernel_rfl) (fun _ _ _ _ h=>h) (q:=(Pi k10)) (zh7 (O 13 J) J J) J J fun a L=>?_;refine zch 4 65 L (by rfl) (by kernel_rfl) (by kernel_rfl) (by kernel_rfl) (fun _ _ _ _ h=>h) (q:=(Pi (k10+1))) (y_add (O 64 J) oI h17 J J) J J fun a L=>?_;refine fl_go 15 [(Pd.prow En.cls 38 v0 data9),(Pi k10),(Pd.prow En.cls 38 v0 data9),(Pi k10),(Pi (k10+1)),(Pd.prow En.cls 38 v0 data9),(Pi k10),(Pi (k10+1)),(Pd.optr En.cls 0 v0.ownBlock ((k10+1:Int).toNat*En.cls.sz) e19),(Pd.rep En.cls e19),(Pd.prow En.cls 38 v0 data9),(Pi k10),(Pd.optr En.cls 0 v0.ownBlock ((k10:Int).toNat*En.cls.sz) e21),(Pd.rep En.cls e21),(Pd.optr En.cls 0 v0.ownBlock ((k10:Int).toNat*En.cls.sz) e23)] [2,3,4] L (by kernel_rfl) (by kernel_rfl) (by kernel_rfl) (.cons (i:=2) J J J J (.cons (i:=3) J J J J (.cons (i:=4) J J J J .nil))) J J ?_ ?_
    ·refine zc2.cons (zt (O 0 J) J J) ?_;refine zc2.cons (zt (O 13 J) J J) ?_;refine zc2.skip J ?_;refine zc2.skip J ?_;refine zc2.skip J ?_;refine zc2.cons (zt (O 0 J) J J) ?_;refine zc2.cons (zt (O 13 J) J J) ?_;refine zc2.cons (t_add (O 67 J) oI h18 J J) ?_;refine zc2.cons (zd0 (o_p (O 66 J)) (O 68 J) h20 U137 zf8 J J) ?_;refine zc2.cons (zb3 zf8 (O 69 J) J J) ?_;refine zc2.cons (zt (O 0 J) J J) ?_;refine zc2.cons (zt (O 13 J) J J) ?_;refine zc2.cons (zd0 (o_p (O 71 J)) (O 72 J) h22 U137 zf8 J J) ?_;refine zc2.cons (zb3 zf8 (O 73 J) J J) ?_;refine zc2.cons (zd0 (o_p (O 61 J)) (O 62 J) h24 U137 zf8 J J) ?_;exact zc2.nil
    intro a s _ L;replace L:=L.kk (L':=[(0,(Pd.prow En.cls 38 v0 data9)),(10,(Pi i4)),(13,(Pi k10)),(63,(Pd.prow En.cls 38 v0 data9)),(65,(Pi (k10+1))),(70,(Pd.rep En.cls e19)),(74,(Pd.rep En.cls e21)),(75,(Pd.optr En.cls 0 v0.ownBlock ((k10:Int).toNat*En.cls.sz) e23))]);refine dp ?_;refine zfk (off:=0) 0 (fun b h=>h) L J h24 op op (zn _ _ _) Tq.h J J J kw fun s L=>?_;refine sl 1 (p1 h26) L fun a s L=>?_;refine zfk (off:=0) 0 (fun b h=>h) L J h26 op op (zn _ _ _) Tq.h J J J kw fun s L=>?_;refine en' (H16 _ _ ?_);obtain ⟨h27,h⟩:=h;refine rg (sA 3 L fun a s L=>?_);refine en' ?_;exact hKL13 a s ⟨((data9.set (k10:Int).toNat e19).set (k10+1:Int).toNat e21),(k10+1),L.kk,h⟩
   ·refine wp_exit ?_;exact J8 data9 a s (L.kk) h
  obtain ⟨k30,h⟩:=h;refine lpn (fun k31 a s=>∃(i28:Int) (j29:Int),Has (fun b=>v0.ownBlock=some b) 220 s0 a s [(0,(Pd.prow En.cls 38 v0 data_)),(1,(Pi a_)),(4,(Pd.rep EnF262 cmp_)),(10,(Pi i28)),(11,(Pi j29))]∧za.l2 data_ a_ cmp_ (za.j2 data_ a_ r_) k31 i28 j29) k30 ⟨m_,b_,L.kk,h⟩ ?_;rintro k31 a s ⟨i28,j29,L,h⟩ KL32 hKL32;unfold za.l2 at h;refine wp_seq_k fun K33 H33=>rA 3 L fun a s L=>?_;refine cn L h (fun h=>?_) fun h=>?_
  ·refine wp_skip (H33 _ _ ?_);refine wp_block ?_;obtain ⟨h34,i35,h36,h⟩:=h;refine ra 7 (p1 h36) L fun a s L=>?_;obtain ⟨e37,h38,e39,h40,r41,h42,h⟩:=h;refine wp_seq (rda zc1 11 [(Pd.rep EnF262 cmp_),(Pd.prow En.cls 38 v0 data_),(Pi i35),(Pd.optr En.cls 0 v0.ownBlock ((i35:Int).toNat*En.cls.sz) e37),(Pd.rep En.cls e37),(Pd.prow En.cls 38 v0 data_),(Pi a_),(Pd.optr En.cls 0 v0.ownBlock ((a_:Int).toNat*En.cls.sz) e39),(Pd.rep En.cls e39),(Pi r41),(Pd.rep En.bool (decide (r41<0)))] L (by kernel_rfl) J J ?_ ?_)
   ·refine zbf.cons (zt (O 4 J) J J) ?_;refine zbf.cons (zt (O 0 J) J J) ?_;refine zbf.cons (zt (O 12 J) J J) ?_;refine zbf.cons (zd0 (o_p (O 41 J)) (O 42 J) h38 U137 zf8 J J) ?_;refine zbf.cons (zb3 zf8 (O 43 J) J J) ?_;refine zbf.cons (zt (O 0 J) J J) ?_;refine zbf.cons (zt (O 1 J) J J) ?_;refine zbf.cons (zd0 (o_p (O 45 J)) (O 46 J) h40 U137 zf8 J J) ?_;refine zbf.cons (zb3 zf8 (O 47 J) J J) ?_;refine zbf.cons (zfc (q:=(e37,e39,r41)) (O 40 J) h42 (xs:=[.tmp 44,.tmp 48]) (.cons (O 44 J) (.cons (O 48 J) .nil)) (fun _ _ _ h_=>h_) J J) ?_;refine zbf.cons (t_lss (O 49 J) oI J J) ?_;exact zbf.nil
   intro a s _ L;replace L:=L.kk (L':=[(0,(Pd.prow En.cls 38 v0 data_)),(1,(Pi a_)),(4,(Pd.rep EnF262 cmp_)),(10,(Pi i28)),(11,(Pi j29)),(12,(Pi i35)),(50,(Pd.rep En.bool (decide (r41<0))))]);refine dp ?_;refine es (cn L h (fun h=>?_) fun h=>?_)
   ·obtain ⟨h43,h⟩:=h;refine rg (sA 3 L fun a s L=>?_);refine en' ?_;exact hKL32 a s ⟨(i35+1),j29,L.kk,h⟩
   ·refine rg ?_;refine sA 2 L fun a s L=>?_;refine en' ?_;exact hKL32 a s ⟨i28,i35,L.kk,h⟩
  ·refine wp_exit ?_;exact J5 i28 a s (L.kk) h
 ·refine wp_skip (H1 _ _ ?_);refine wp_seq_k fun K44 H44=>?_;obtain ⟨h45,h⟩:=h;refine rA 4 L fun a s L=>?_;refine cn L h (fun h=>?_) fun h=>?_
  ·refine rA 2 L fun a s L=>?_;refine rA 2 L fun a s L=>?_;refine wp_seq_k fun K46 H46=>wp_block ?_;have J48:∀(i47:Int) (a:Act) (s:St),Has (fun b=>v0.ownBlock=some b) 220 s0 a s [(0,(Pd.prow En.cls 38 v0 data_)),(2,(Pi m_)),(14,(Pi i47))]→((za.j4 data_ m_ r_) i47)→K46 a s.w:=by
    intro i47 a s L h;unfold za.j4 at h;show K46 a s.w;refine H46 _ _ (wp_seq_k fun K49 H49=>?_);refine rA 2 L fun a s L=>?_;refine wp_block ?_;have J51:∀(data50:(List Cl)) (a:Act) (s:St),Has (fun b=>v0.ownBlock=some b) 220 s0 a s [(0,(Pd.prow En.cls 38 v0 data50))]→((za.j3 r_) data50)→K49 a s.w:=by
     intro data50 a s L h;unfold za.j3 at h;show K49 a s.w;refine H49 _ _ ?_;subst h;exact wp_ret (retm J L (c:=0) J)
    obtain ⟨k54,h⟩:=h;refine lpn (fun k55 a s=>∃(data52:(List Cl)) (k53:Int),Has (fun b=>v0.ownBlock=some b) 220 s0 a s [(0,(Pd.prow En.cls 38 v0 data52)),(14,(Pi i47)),(17,(Pi k53))]∧za.l3 i47 (za.j3 r_) k55 data52 k53) k54 ⟨data_,m_,L.kk,h⟩ ?_;rintro k55 a s ⟨data52,k53,L,h⟩ KL56 hKL56;unfold za.l3 at h;refine wp_seq_k fun K57 H57=>rA 3 L fun a s L=>?_;refine cn L h (fun h=>?_) fun h=>?_
    ·refine wp_skip (H57 _ _ ?_);refine wp_seq_k fun K58 H58=>wp_block ?_;obtain ⟨h59,h60,e61,h62,e63,h64,e65,h66,e67,h68,h⟩:=h;refine rdf 18 zc1 L (by kernel_rfl) fun s _ L=>?_;refine zch 2 115 L (by rfl) (by kernel_rfl) (by kernel_rfl) (by kernel_rfl) (fun _ _ _ _ h=>h) (q:=(Pd.prow En.cls 38 v0 data52)) (zh7 (O 0 J) J J) J J fun a L=>?_;refine zch 3 116 L (by rfl) (by kernel_rfl) (by kernel_rfl) (by kernel_rfl) (fun _ _ _ _ h=>h) (q:=(Pi k53)) (zh7 (O 17 J) J J) J J fun a L=>?_;refine zch 4 117 L (by rfl) (by kernel_rfl) (by kernel_rfl) (by kernel_rfl) (fun _ _ _ _ h=>h) (q:=(Pi (k53-1))) (y_sub (O 116 J) oI h59 J J) J J fun a L=>?_;refine fl_go 15 [(Pd.prow En.cls 38 v0 data52),(Pi k53),(Pd.prow En.cls 38 v0 data52),(Pi k53),(Pi (k53-1)),(Pd.prow En.cls 38 v0 data52),(Pi k53),(Pi (k53-1)),(Pd.optr En.cls 0 v0.ownBlock ((k53-1:Int).toNat*En.cls.sz) e61),(Pd.rep En.cls e61),(Pd.prow En.cls 38 v0 data52),(Pi k53),(Pd.optr En.cls 0 v0.ownBlock ((k53:Int).toNat*En.cls.sz) e63),(Pd.rep En.cls e63),(Pd.optr En.cls 0 v0.ownBlock ((k53:Int).toNat*En.cls.sz) e65)] [2,3,4] L (by kernel_rfl) (by kernel_rfl) (by kernel_rfl) (.cons (i:=2) J J J J (.cons (i:=3) J J J J (.cons (i:=4) J J J J .nil))) J J ?_ ?_
     ·refine zc2.cons (zt (O 0 J) J J) ?_;refine zc2.cons (zt (O 17 J) J J) ?_;refine zc2.skip J ?_;refine zc2.skip J ?_;refine zc2.skip J ?_;refine zc2.cons (zt (O 0 J) J J) ?_;refine zc2.cons (zt (O 17 J) J J) ?_;refine zc2.cons (zmf (O 119 J) oI h60 J J) ?_;refine zc2.cons (zd0 (o_p (O 118 J)) (O 120 J) h62 U137 zf8 J J) ?_;refine zc2.cons (zb3 zf8 (O 121 J) J J) ?_;refine zc2.cons (zt (O 0 J) J J) ?_;refine zc2.cons (zt (O 17 J) J J) ?_;refine zc2.cons (zd0 (o_p (O 123 J)) (O 124 J) h64 U137 zf8 J J) ?_;refine zc2.cons (zb3 zf8 (O 125 J) J J) ?_;refine zc2.cons (zd0 (o_p (O 113 J)) (O 114 J) h66 U137 zf8 J J) ?_;exact zc2.nil
     intro a s _ L;replace L:=L.kk (L':=[(0,(Pd.prow En.cls 38 v0 data52)),(14,(Pi i47)),(17,(Pi k53)),(115,(Pd.prow En.cls 38 v0 data52)),(117,(Pi (k53-1))),(122,(Pd.rep En.cls e61)),(126,(Pd.rep En.cls e63)),(127,(Pd.optr En.cls 0 v0.ownBlock ((k53:Int).toNat*En.cls.sz) e65))]);refine dp ?_;refine zfk (off:=0) 0 (fun b h=>h) L J h66 op op (zn _ _ _) Tq.h J J J kw fun s L=>?_;refine sl 1 (p1 h68) L fun a s L=>?_;refine zfk (off:=0) 0 (fun b h=>h) L J h68 op op (zn _ _ _) Tq.h J J J kw fun s L=>?_;refine en' (H58 _ _ ?_);obtain ⟨h69,h⟩:=h;refine rg (sA 3 L fun a s L=>?_);refine en' ?_;exact hKL56 a s ⟨((data52.set (k53:Int).toNat e61).set (k53-1:Int).toNat e63),(k53-1),L.kk,h⟩
    ·refine wp_exit ?_;exact J51 data52 a s (L.kk) h
   obtain ⟨k72,h⟩:=h;refine lpn (fun k73 a s=>∃(i70:Int) (j71:Int),Has (fun b=>v0.ownBlock=some b) 220 s0 a s [(0,(Pd.prow En.cls 38 v0 data_)),(2,(Pi m_)),(4,(Pd.rep EnF262 cmp_)),(14,(Pi i70)),(15,(Pi j71))]∧za.l4 data_ m_ cmp_ (za.j4 data_ m_ r_) k73 i70 j71) k72 ⟨a_,m_,L.kk,h⟩ ?_;rintro k73 a s ⟨i70,j71,L,h⟩ KL74 hKL74;unfold za.l4 at h;refine wp_seq_k fun K75 H75=>rA 3 L fun a s L=>?_;refine cn L h (fun h=>?_) fun h=>?_
   ·refine wp_skip (H75 _ _ ?_);refine wp_block ?_;obtain ⟨h76,i77,h78,h⟩:=h;refine ra 7 (p1 h78) L fun a s L=>?_;obtain ⟨e79,h80,e81,h82,r83,h84,h⟩:=h;refine wp_seq (rda zc1 12 [(Pd.rep EnF262 cmp_),(Pd.prow En.cls 38 v0 data_),(Pi m_),(Pd.optr En.cls 0 v0.ownBlock ((m_:Int).toNat*En.cls.sz) e79),(Pd.rep En.cls e79),(Pd.prow En.cls 38 v0 data_),(Pi i77),(Pd.optr En.cls 0 v0.ownBlock ((i77:Int).toNat*En.cls.sz) e81),(Pd.rep En.cls e81),(Pi r83),(Pd.rep En.bool (decide (r83<0))),(Pd.rep En.bool (!(decide (r83<0))))] L (by kernel_rfl) J J ?_ ?_)
    ·refine zbf.cons (zt (O 4 J) J J) ?_;refine zbf.cons (zt (O 0 J) J J) ?_;refine zbf.cons (zt (O 2 J) J J) ?_;refine zbf.cons (zd0 (o_p (O 93 J)) (O 94 J) h80 U137 zf8 J J) ?_;refine zbf.cons (zb3 zf8 (O 95 J) J J) ?_;refine zbf.cons (zt (O 0 J) J J) ?_;refine zbf.cons (zt (O 16 J) J J) ?_;refine zbf.cons (zd0 (o_p (O 97 J)) (O 98 J) h82 U137 zf8 J J) ?_;refine zbf.cons (zb3 zf8 (O 99 J) J J) ?_;refine zbf.cons (zfc (q:=(e79,e81,r83)) (O 92 J) h84 (xs:=[.tmp 96,.tmp 100]) (.cons (O 96 J) (.cons (O 100 J) .nil)) (fun _ _ _ h_=>h_) J J) ?_;refine zbf.cons (t_lss (O 101 J) oI J J) ?_;refine zbf.cons (t_not (O 102 J) J J) ?_;exact zbf.nil
    intro a s _ L;replace L:=L.kk (L':=[(0,(Pd.prow En.cls 38 v0 data_)),(2,(Pi m_)),(4,(Pd.rep EnF262 cmp_)),(14,(Pi i70)),(15,(Pi j71)),(16,(Pi i77)),(103,(Pd.rep En.bool (!(decide (r83<0)))))]);refine dp ?_;refine es (cn L h (fun h=>?_) fun h=>?_)
    ·obtain ⟨h85,h⟩:=h;refine rg (sA 3 L fun a s L=>?_);refine en' ?_;exact hKL74 a s ⟨(i77+1),j71,L.kk,h⟩
    ·refine rg ?_;refine sA 2 L fun a s L=>?_;refine en' ?_;exact hKL74 a s ⟨i70,i77,L.kk,h⟩
   ·refine wp_exit ?_;exact J48 i70 a s (L.kk) h
  ·refine wp_skip (H44 _ _ ?_);obtain ⟨h86,i87,h88,h⟩:=h;refine ra 7 (p1 h88) L fun a s L=>?_;obtain ⟨h89,h⟩:=h;refine rA 4 L fun a s L=>?_;refine rA 2 L fun a s L=>?_;refine wp_seq_k fun K90 H90=>rA 3 L fun a s L=>?_;have J93:∀(start91:Int) (r92:Int) (a:Act) (s:St),Has (fun b=>v0.ownBlock=some b) 220 s0 a s [(0,(Pd.prow En.cls 38 v0 data_)),(1,(Pi a_)),(2,(Pi m_)),(3,(Pi b_)),(4,(Pd.rep EnF262 cmp_)),(18,(Pi i87)),(19,(Pi (i87+m_))),(20,(Pi start91)),(21,(Pi r92))]→((za.j8 (za.n k_) data_ a_ m_ b_ cmp_ r_ i87) start91 r92)→K90 a s.w:=by
    intro start91 r92 a s L h;unfold za.j8 at h;show K90 a s.w;refine H90 _ _ ?_;obtain ⟨h94,h⟩:=h;refine rA 3 L fun a s L=>?_;refine wp_seq_k fun K95 H95=>wp_block ?_;have J97:∀(start96:Int) (a:Act) (s:St),Has (fun b=>v0.ownBlock=some b) 220 s0 a s [(0,(Pd.prow En.cls 38 v0 data_)),(1,(Pi a_)),(2,(Pi m_)),(3,(Pi b_)),(4,(Pd.rep EnF262 cmp_)),(18,(Pi i87)),(19,(Pi (i87+m_))),(20,(Pi start96))]→((za.j7 (za.n k_) data_ a_ m_ b_ cmp_ r_ i87) start96)→K95 a s.w:=by
     intro start96 a s L h;unfold za.j7 at h;show K95 a s.w;refine H95 _ _ ?_;obtain ⟨h98,h⟩:=h;refine rA 4 L fun a s L=>?_;refine wp_seq_k fun K99 H99=>?_;obtain ⟨b100,h101,h⟩:=h;refine ra 8 (p1 h101) L fun a s L=>?_;have J103:∀(data102:(List Cl)) (a:Act) (s:St),Has (fun b=>v0.ownBlock=some b) 220 s0 a s [(0,(Pd.prow En.cls 38 v0 data102)),(1,(Pi a_)),(3,(Pi b_)),(4,(Pd.rep EnF262 cmp_)),(18,(Pi i87)),(20,(Pi start96)),(24,(Pi ((i87+m_)-start96)))]→((za.j6 (za.n k_) a_ m_ b_ cmp_ r_ i87 start96) data102)→K99 a s.w:=by
      intro data102 a s L h;unfold za.j6 at h;show K99 a s.w;refine H99 _ _ (wp_seq_k fun K104 H104=>?_);obtain ⟨b105,h106,h⟩:=h;refine ra 8 (p1 h106) L fun a s L=>?_;have J108:∀(data107:(List Cl)) (a:Act) (s:St),Has (fun b=>v0.ownBlock=some b) 220 s0 a s [(0,(Pd.prow En.cls 38 v0 data107)),(3,(Pi b_)),(4,(Pd.rep EnF262 cmp_)),(18,(Pi i87)),(24,(Pi ((i87+m_)-start96)))]→((za.j5 (za.n k_) m_ b_ cmp_ r_ i87 start96) data107)→K104 a s.w:=by
       intro data107 a s L h;unfold za.j5 at h;show K104 a s.w;refine H104 _ _ ?_;obtain ⟨b109,h110,h⟩:=h;refine ra 8 (p1 h110) L fun a s L=>?_;refine cn L h (fun h=>?_) fun h=>?_
       ·obtain ⟨r111,h112,h⟩:=h;refine rg (sA 5 L fun a s L=>?_);refine zeu 219 (fun v0=>ih_ v0 h112) L (fun b h=>h) op opz J J J J kw fun a s L=>?_;refine en' ?_;subst h;exact retm J L (c:=0) J
       ·refine wp_skip ?_;subst h;exact retm J L (c:=0) J
      refine cn L h (fun h=>?_) fun h=>?_
      ·obtain ⟨r113,h114,h⟩:=h;refine rg (sA 5 L fun a s L=>?_);refine zeu 205 (fun v0=>ih_ v0 h114) L (fun b h=>h) op opz J J J J kw fun a s L=>?_;refine en' ?_;exact J108 r113 a s (L.kk) h
      ·refine wp_skip ?_;exact J108 data102 a s (L.kk) h
     refine cn L h (fun h=>?_) fun h=>?_
     ·obtain ⟨r115,h116,h⟩:=h;refine rg (sA 5 L fun a s L=>?_);refine zeu 191 (fun v0=>zew v0 h116) L (fun b h=>h) op opz J J J J kw fun a s L=>?_;refine en' ?_;exact J103 r115 a s (L.kk) h
     ·refine wp_skip ?_;exact J103 data_ a s (L.kk) h
    obtain ⟨k119,h⟩:=h;refine lpn (fun k120 a s=>∃(start117:Int) (r118:Int),Has (fun b=>v0.ownBlock=some b) 220 s0 a s [(0,(Pd.prow En.cls 38 v0 data_)),(1,(Pi a_)),(2,(Pi m_)),(3,(Pi b_)),(4,(Pd.rep EnF262 cmp_)),(18,(Pi i87)),(19,(Pi (i87+m_))),(20,(Pi start117)),(21,(Pi r118)),(22,(Pi ((i87+m_)-1)))]∧za.l5 data_ m_ cmp_ i87 (za.j7 (za.n k_) data_ a_ m_ b_ cmp_ r_ i87) k120 start117 r118) k119 ⟨start91,r92,L.kk,h⟩ ?_;rintro k120 a s ⟨start117,r118,L,h⟩ KL121 hKL121;unfold za.l5 at h;refine wp_seq_k fun K122 H122=>rA 3 L fun a s L=>?_;refine cn L h (fun h=>?_) fun h=>?_
    ·refine wp_skip (H122 _ _ ?_);refine wp_block ?_;obtain ⟨h123,i124,h125,h⟩:=h;refine ra 7 (p1 h125) L fun a s L=>?_;obtain ⟨h126,e127,h128,e129,h130,r131,h132,h⟩:=h;refine wp_seq (rda zc1 14 [(Pd.rep EnF262 cmp_),(Pd.prow En.cls 38 v0 data_),(Pi ((i87+m_)-1)),(Pi i124),(Pi (((i87+m_)-1)-i124)),(Pd.optr En.cls 0 v0.ownBlock ((((i87+m_)-1)-i124:Int).toNat*En.cls.sz) e127),(Pd.rep En.cls e127),(Pd.prow En.cls 38 v0 data_),(Pi i124),(Pd.optr En.cls 0 v0.ownBlock ((i124:Int).toNat*En.cls.sz) e129),(Pd.rep En.cls e129),(Pi r131),(Pd.rep En.bool (decide (r131<0))),(Pd.rep En.bool (!(decide (r131<0))))] L (by kernel_rfl) J J ?_ ?_)
     ·refine zbf.cons (zt (O 4 J) J J) ?_;refine zbf.cons (zt (O 0 J) J J) ?_;refine zbf.cons (zt (O 22 J) J J) ?_;refine zbf.cons (zt (O 23 J) J J) ?_;refine zbf.cons (zmf (O 160 J) (O 161 J) h126 J J) ?_;refine zbf.cons (zd0 (o_p (O 159 J)) (O 162 J) h128 U137 zf8 J J) ?_;refine zbf.cons (zb3 zf8 (O 163 J) J J) ?_;refine zbf.cons (zt (O 0 J) J J) ?_;refine zbf.cons (zt (O 23 J) J J) ?_;refine zbf.cons (zd0 (o_p (O 165 J)) (O 166 J) h130 U137 zf8 J J) ?_;refine zbf.cons (zb3 zf8 (O 167 J) J J) ?_;refine zbf.cons (zfc (q:=(e127,e129,r131)) (O 158 J) h132 (xs:=[.tmp 164,.tmp 168]) (.cons (O 164 J) (.cons (O 168 J) .nil)) (fun _ _ _ h_=>h_) J J) ?_;refine zbf.cons (t_lss (O 169 J) oI J J) ?_;refine zbf.cons (t_not (O 170 J) J J) ?_;exact zbf.nil
     intro a s _ L;replace L:=L.kk (L':=[(0,(Pd.prow En.cls 38 v0 data_)),(1,(Pi a_)),(2,(Pi m_)),(3,(Pi b_)),(4,(Pd.rep EnF262 cmp_)),(18,(Pi i87)),(19,(Pi (i87+m_))),(20,(Pi start117)),(21,(Pi r118)),(22,(Pi ((i87+m_)-1))),(23,(Pi i124)),(171,(Pd.rep En.bool (!(decide (r131<0)))))]);refine dp ?_;refine es (cn L h (fun h=>?_) fun h=>?_)
     ·obtain ⟨h133,h⟩:=h;refine rg (sA 3 L fun a s L=>?_);refine en' ?_;exact hKL121 a s ⟨(i124+1),r118,L.kk,h⟩
     ·refine rg ?_;refine sA 2 L fun a s L=>?_;refine en' ?_;exact hKL121 a s ⟨start117,i124,L.kk,h⟩
    ·refine wp_exit ?_;exact J97 start117 a s (L.kk) h
   refine cn L h (fun h=>?_) fun h=>?_
   ·obtain ⟨h134,h⟩:=h;refine rA 4 L fun a s L=>?_;refine rg (sA 2 L fun a s L=>?_);refine en' ?_;exact J93 ((i87+m_)-b_) i87 a s (L.kk) h
   ·refine rA 2 L fun a s L=>?_;refine rg (sA 2 L fun a s L=>?_);refine en' ?_;exact J93 a_ m_ a s (L.kk) h
theorem zc7 (v0:Value) {data_:(List Cl)} {a_:Int} {m_:Int} {b_:Int} {cmp_:(Cl × Cl × Int→Prop)} {r_:(List Cl)} (h:za data_ a_ m_ b_ cmp_ r_):Fm Tryz.prog 214 (fun b=>v0.ownBlock=some b) [(Pd.prow En.cls 38 v0 data_),(Pi a_),(Pi m_),(Pi b_),(Pd.rep EnF262 cmp_)] (fun _ s' _=>(Pd.prow En.cls 38 v0 r_).p s' v0):=by
 obtain ⟨k_,h⟩:=h;exact za.n_ok k_ v0 h
theorem zev (v0:Value) {data_:(List Cl)} {nv_:Int} {cmp_:(Cl × Cl × Int→Prop)} {r_:(List Cl)} (h:zb data_ nv_ cmp_ r_):Fm Tryz.prog 201 (fun b=>v0.ownBlock=some b) [(Pd.prow En.cls 38 v0 data_),(Pi nv_),(Pd.rep EnF262 cmp_)] (fun _ s' _=>(Pd.prow En.cls 38 v0 r_).p s' v0):=by
 unfold zb at h;refine fm_of Tryz.func201 J Tryz.ntmps201 (by rfl) (by simp) fun s0 a L=>?_;refine rA 1 L fun a s L=>?_;refine rA 3 L fun a s L=>?_;refine wp_seq_k fun K1 H1=>wp_block ?_;have J4:∀(data2:(List Cl)) (a3:Int) (a:Act) (s:St),Has (fun b=>v0.ownBlock=some b) 63 s0 a s [(0,(Pd.prow En.cls 38 v0 data2)),(1,(Pi nv_)),(2,(Pd.rep EnF262 cmp_)),(6,(Pi 20)),(7,(Pi a3))]→((zb.j3 nv_ cmp_ r_) data2 a3)→K1 a s.w:=by
  intro data2 a3 a s L h;unfold zb.j3 at h;show K1 a s.w;refine H1 _ _ ?_;obtain ⟨r5,h6,h⟩:=h;refine rs (sA 4 L fun a s L=>?_);refine zeu 27 (fun v0=>zcl v0 h6) L (fun b h=>h) op opz J J J J kw fun a s L=>?_;refine es (wp_block ?_);have J8:∀(data7:(List Cl)) (a:Act) (s:St),Has (fun b=>v0.ownBlock=some b) 63 s0 a s [(0,(Pd.prow En.cls 38 v0 data7))]→((zb.j1 r_) data7)→(bodyPost Tryz.prog Tryz.f201 (Pst (fun b=>v0.ownBlock=some b) (fun _ s' _=>(Pd.prow En.cls 38 v0 r_).p s' v0) s0) .normal) a s.w:=by
   intro data7 a s L h;unfold zb.j1 at h;subst h;exact retm J L (c:=0) J
  obtain ⟨k11,h⟩:=h;refine lpn (fun k12 a s=>∃(data9:(List Cl)) (blockSize10:Int),Has (fun b=>v0.ownBlock=some b) 63 s0 a s [(0,(Pd.prow En.cls 38 v0 data9)),(1,(Pi nv_)),(2,(Pd.rep EnF262 cmp_)),(6,(Pi blockSize10))]∧zb.l1 nv_ cmp_ (zb.j1 r_) k12 data9 blockSize10) k11 ⟨r5,20,L.kk,h⟩ ?_;rintro k12 a s ⟨data9,blockSize10,L,h⟩ KL13 hKL13;unfold zb.l1 at h;refine wp_seq_k fun K14 H14=>rA 3 L fun a s L=>?_;refine cn L h (fun h=>?_) fun h=>?_
  ·refine wp_skip (H14 _ _ ?_);refine wp_block ?_;obtain ⟨h15,h⟩:=h;refine rA 4 L fun a s L=>?_;refine wp_seq_k fun K16 H16=>wp_block ?_;have J19:∀(data17:(List Cl)) (a18:Int) (a:Act) (s:St),Has (fun b=>v0.ownBlock=some b) 63 s0 a s [(0,(Pd.prow En.cls 38 v0 data17)),(1,(Pi nv_)),(2,(Pd.rep EnF262 cmp_)),(6,(Pi blockSize10)),(7,(Pi a18))]→((zb.j2 (zb.l1 nv_ cmp_ (zb.j1 r_) k12) nv_ cmp_ blockSize10) data17 a18)→K16 a s.w:=by
    intro data17 a18 a s L h;unfold zb.j2 at h;show K16 a s.w;refine H16 _ _ (wp_seq_k fun K20 H20=>?_);obtain ⟨h21,h⟩:=h;refine rA 4 L fun a s L=>?_;refine rA 3 L fun a s L=>?_;refine cn L h (fun h=>?_) fun h=>?_
    ·obtain ⟨r22,h23,h⟩:=h;refine rg (sA 5 L fun a s L=>?_);refine zeu 60 (fun v0=>zc7 v0 h23) L (fun b h=>h) op opz J J J J kw fun a s L=>?_;refine en' (H20 _ _ ?_);obtain ⟨h24,h⟩:=h;refine rg (sA 3 L fun a s L=>?_);refine en' ?_;exact hKL13 a s ⟨r22,(blockSize10*2),L.kk,h⟩
    ·refine wp_skip (H20 _ _ ?_);obtain ⟨h25,h⟩:=h;refine rg (sA 3 L fun a s L=>?_);refine en' ?_;exact hKL13 a s ⟨data17,(blockSize10*2),L.kk,h⟩
   obtain ⟨k29,h⟩:=h;refine lpn (fun k30 a s=>∃(data26:(List Cl)) (a27:Int) (b28:Int),Has (fun b=>v0.ownBlock=some b) 63 s0 a s [(0,(Pd.prow En.cls 38 v0 data26)),(1,(Pi nv_)),(2,(Pd.rep EnF262 cmp_)),(6,(Pi blockSize10)),(7,(Pi a27)),(8,(Pi b28))]∧zb.l2 nv_ cmp_ blockSize10 (zb.j2 (zb.l1 nv_ cmp_ (zb.j1 r_) k12) nv_ cmp_ blockSize10) k30 data26 a27 b28) k29 ⟨data9,0,(2*blockSize10),L.kk,h⟩ ?_;rintro k30 a s ⟨data26,a27,b28,L,h⟩ KL31 hKL31;unfold zb.l2 at h;refine wp_seq_k fun K32 H32=>rA 3 L fun a s L=>?_;refine cn L h (fun h=>?_) fun h=>?_
   ·refine wp_skip (H32 _ _ ?_);refine wp_block ?_;obtain ⟨h33,r34,h35,h⟩:=h;refine rs (sA 7 L fun a s L=>?_);refine zeu 43 (fun v0=>zc7 v0 h35) L (fun b h=>h) op opz J J J J kw fun a s L=>?_;refine es (rA 2 L fun a s L=>?_);obtain ⟨h36,h37,h⟩:=h;refine rg (sA 5 L fun a s L=>?_);refine en' ?_;exact hKL31 a s ⟨r34,b28,(b28+(2*blockSize10)),L.kk,h⟩
   ·refine wp_exit ?_;exact J19 data26 a27 a s (L.kk) h
  ·refine wp_exit ?_;exact J8 data9 a s (L.kk) h
 obtain ⟨k41,h⟩:=h;refine lpn (fun k42 a s=>∃(data38:(List Cl)) (a39:Int) (b40:Int),Has (fun b=>v0.ownBlock=some b) 63 s0 a s [(0,(Pd.prow En.cls 38 v0 data38)),(1,(Pi nv_)),(2,(Pd.rep EnF262 cmp_)),(6,(Pi 20)),(7,(Pi a39)),(8,(Pi b40))]∧zb.l3 nv_ cmp_ (zb.j3 nv_ cmp_ r_) k42 data38 a39 b40) k41 ⟨data_,0,20,L.kk,h⟩ ?_;rintro k42 a s ⟨data38,a39,b40,L,h⟩ KL43 hKL43;unfold zb.l3 at h;refine wp_seq_k fun K44 H44=>rA 3 L fun a s L=>?_;refine cn L h (fun h=>?_) fun h=>?_
 ·refine wp_skip (H44 _ _ ?_);refine wp_block ?_;obtain ⟨r45,h46,h⟩:=h;refine rs (sA 4 L fun a s L=>?_);refine zeu 18 (fun v0=>zcl v0 h46) L (fun b h=>h) op opz J J J J kw fun a s L=>?_;refine es (rA 2 L fun a s L=>?_);obtain ⟨h47,h⟩:=h;refine rg (sA 4 L fun a s L=>?_);refine en' ?_;exact hKL43 a s ⟨r45,b40,(b40+20),L.kk,h⟩
 ·refine wp_exit ?_;exact J4 data38 a39 a s (L.kk) h
theorem zdn (v0:Value) {x_:(List Cl)} {cmp_:(Cl × Cl × Int→Prop)} {r_:(List Cl)} (h:zbj x_ cmp_ r_):Fm Tryz.prog 169 (fun b=>v0.ownBlock=some b) [(Pd.prow En.cls 38 v0 x_),(Pd.rep EnF262 cmp_)] (fun _ s' _=>(Pd.prow En.cls 38 v0 r_).p s' v0):=by
 unfold zbj at h;refine fm_of Tryz.func169 J Tryz.ntmps169 (by rfl) (by simp) fun s0 a L=>?_;obtain ⟨r1,h2,h⟩:=h;refine rg (sA 4 L fun a s L=>?_);refine zeu 8 (fun v0=>zev v0 h2) L (fun b h=>h) op opz J J J J kw fun a s L=>?_;refine en' ?_;subst h;exact retm J L (c:=0) J
theorem zgd (v0:Value) {s_:(List Int)} {r_:(List Int)} (h:zu s_ r_):Fm Tryz.prog 99 (fun b=>v0.ownBlock=some b) [(Pd.prow (En.int .u8) 5 v0 s_)] (fun _ s' _=>(Pd.prow (En.int .u8) 5 v0 r_).p s' v0):=by
 unfold zu at h;refine fm_of Tryz.func99 J Tryz.ntmps99 (by rfl) (by simp) fun s0 a L=>?_;obtain ⟨h1,h⟩:=h;refine rA 5 L fun a s L=>?_;refine wp_block ?_;have J3:∀(s2:(List Int)) (a:Act) (s:St),Has (fun b=>v0.ownBlock=some b) 28 s0 a s [(0,(Pd.prow (En.int .u8) 5 v0 s2))]→((zu.j1 r_) s2)→(bodyPost Tryz.prog Tryz.f99 (Pst (fun b=>v0.ownBlock=some b) (fun _ s' _=>(Pd.prow (En.int .u8) 5 v0 r_).p s' v0) s0) .normal) a s.w:=by
  intro s2 a s L h;unfold zu.j1 at h;subst h;exact retm J L (c:=0) J
 obtain ⟨k7,h⟩:=h;refine lpn (fun k8 a s=>∃(s4:(List Int)) (i5:Int) (j6:Int),Has (fun b=>v0.ownBlock=some b) 28 s0 a s [(0,(Pd.prow (En.int .u8) 5 v0 s4)),(2,(Pi i5)),(3,(Pi j6))]∧zu.l1 (zu.j1 r_) k8 s4 i5 j6) k7 ⟨s_,0,((s_.length:Int)-1),L.kk,h⟩ ?_;rintro k8 a s ⟨s4,i5,j6,L,h⟩ KL9 hKL9;unfold zu.l1 at h;refine wp_seq_k fun K10 H10=>rA 3 L fun a s L=>?_;refine cn L h (fun h=>?_) fun h=>?_
 ·refine wp_skip (H10 _ _ ?_);refine wp_seq_k fun K11 H11=>wp_block ?_;obtain ⟨e12,h13,e14,h15,e16,h17,e18,h19,h⟩:=h;refine rdf 16 zc1 L (by kernel_rfl) fun s _ L=>?_;refine zch 2 16 L (by rfl) (by kernel_rfl) (by kernel_rfl) (by kernel_rfl) (fun _ _ _ _ h=>h) (q:=(Pd.prow (En.int .u8) 5 v0 s4)) (zh7 (O 0 J) J J) J J fun a L=>?_;refine zch 3 17 L (by rfl) (by kernel_rfl) (by kernel_rfl) (by kernel_rfl) (fun _ _ _ _ h=>h) (q:=(Pi j6)) (zh7 (O 3 J) J J) J J fun a L=>?_;refine fl_go 13 [(Pd.prow (En.int .u8) 5 v0 s4),(Pi i5),(Pd.prow (En.int .u8) 5 v0 s4),(Pi j6),(Pd.prow (En.int .u8) 5 v0 s4),(Pi j6),(Pd.optr (En.int .u8) 0 v0.ownBlock ((j6:Int).toNat*(En.int .u8).sz) e12),(Pd.rep (En.int .u8) e12),(Pd.prow (En.int .u8) 5 v0 s4),(Pi i5),(Pd.optr (En.int .u8) 0 v0.ownBlock ((i5:Int).toNat*(En.int .u8).sz) e14),(Pd.rep (En.int .u8) e14),(Pd.optr (En.int .u8) 0 v0.ownBlock ((i5:Int).toNat*(En.int .u8).sz) e16)] [2,3] L (by kernel_rfl) (by kernel_rfl) (by kernel_rfl) (.cons (i:=2) J J J J (.cons (i:=3) J J J J .nil)) J J ?_ ?_
  ·refine zc2.cons (zt (O 0 J) J J) ?_;refine zc2.cons (zt (O 2 J) J J) ?_;refine zc2.skip J ?_;refine zc2.skip J ?_;refine zc2.cons (zt (O 0 J) J J) ?_;refine zc2.cons (zt (O 3 J) J J) ?_;refine zc2.cons (zd0 (o_p (O 18 J)) (O 19 J) h13 U25 ty5 J J) ?_;refine zc2.cons (zb3 ty5 (O 20 J) J J) ?_;refine zc2.cons (zt (O 0 J) J J) ?_;refine zc2.cons (zt (O 2 J) J J) ?_;refine zc2.cons (zd0 (o_p (O 22 J)) (O 23 J) h15 U25 ty5 J J) ?_;refine zc2.cons (zb3 ty5 (O 24 J) J J) ?_;refine zc2.cons (zd0 (o_p (O 14 J)) (O 15 J) h17 U25 ty5 J J) ?_;exact zc2.nil
  intro a s _ L;replace L:=L.kk (L':=[(0,(Pd.prow (En.int .u8) 5 v0 s4)),(2,(Pi i5)),(3,(Pi j6)),(16,(Pd.prow (En.int .u8) 5 v0 s4)),(17,(Pi j6)),(21,(Pd.rep (En.int .u8) e12)),(25,(Pd.rep (En.int .u8) e14)),(26,(Pd.optr (En.int .u8) 0 v0.ownBlock ((i5:Int).toNat*(En.int .u8).sz) e16))]);refine dp ?_;refine zfk (off:=0) 0 (fun b h=>h) L J h17 op op (zn _ _ _) Tq.h J J J kw fun s L=>?_;refine sl 1 (p1 h19) L fun a s L=>?_;refine zfk (off:=0) 0 (fun b h=>h) L J h19 op op (zn _ _ _) Tq.h J J J kw fun s L=>?_;refine en' (H11 _ _ ?_);obtain ⟨h20,h21,h⟩:=h;refine rg (sA 6 L fun a s L=>?_);refine en' ?_;exact hKL9 a s ⟨((s4.set (i5:Int).toNat e12).set (j6:Int).toNat e14),(i5+1),(j6-1),L.kk,h⟩
 ·refine wp_exit ?_;exact J3 s4 a s (L.kk) h
set_option maxRecDepth 100000
set_option maxHeartbeats 2000000
set_option synthInstance.maxSize 100000
set_option synthInstance.maxHeartbeats 200000
theorem ziv {a_:Cl} {cv_:Int} {r_:Bool} (h:zfz a_ cv_ r_):Fn Tryz.prog 126 [(Pd.rep En.cls a_),(Pd.rep (En.int .u8) cv_)] (Rq (Pd.rep En.bool r_)):=by
 unfold zfz at h;refine zbp Tryz.func126 J Tryz.ntmps126 (by rfl) (by simp) fun s0 a L=>?_;refine rA 2 L fun a s L=>?_;obtain ⟨h1,b2,h3,h⟩:=h;refine ra 10 (p1 h3) L fun a s L=>?_;subst h;exact wp_ret (zdw J L J)
theorem class_Add_ok {a_:Cl} {list_:(List Int)} {r_:Cl} (h:zcz a_ list_ r_):Fn Tryz.prog 171 [(Pd.rep En.cls a_),(Pd.rep (En.slice (En.int .u8)) list_)] (Rq (Pd.rep En.cls r_)):=by
 unfold zcz at h;refine zbp Tryz.func171 J Tryz.ntmps171 (by rfl) (by simp) fun s0 a L=>?_;refine rs (st_boxm 2 L op J J J J fun a s g1 hg_ L=>?_);have lt_d3:=L.blt 2 rfl;refine zba En.cls (z:=(0#256)) 4 L zmz J J J J fun a s g2 hg_ L=>?_;have d3:=Dis.newg hg_ lt_d3;refine es (wp_seq_k fun K4 H4=>?_);refine rA 3 L fun a s L=>?_;refine wp_block ?_;have J6:∀(a5:Cl) (a:Act) (s:St),Has N0 24 s0 a s [(2,(Pd.box En.cls s0.w.heap.size g1 a5)),(4,(Pd.box En.cls s0.w.heap.size g2 (0#256)))]→Dis (some g1) (some g2)→((zcz.j1 r_) a5)→K4 a s.w:=by
  intro a5 a s L d7 h;unfold zcz.j1 at h;show K4 a s.w;refine H4 _ _ (rs ?_);refine sA 1 L fun a s L=>?_;refine sB 4 L fun s L=>?_;refine es ?_;subst h;exact wp_ret (retb J zf8 L J)
 obtain ⟨k10,h⟩:=h;refine lpn (fun k11 a s=>∃(a8:Cl) (v9:Int),Has N0 24 s0 a s [(2,(Pd.box En.cls s0.w.heap.size g1 a8)),(4,(Pd.box En.cls s0.w.heap.size g2 (0#256))),(7,(Pd.rep (En.slice (En.int .u8)) list_)),(8,(Pi (list_.length:Int))),(9,(Pi v9))]∧Dis (some g1) (some g2)∧zcz.l1 list_ (zcz.j1 r_) k11 a8 v9) k10 ⟨a_,0,L.kk,(Dis.symm d3),h⟩ ?_;rintro k11 a s ⟨a8,v9,L,d13,h⟩ KL12 hKL12;unfold zcz.l1 at h;refine rA 1 L fun a s L=>?_;refine wp_seq_k fun K14 H14=>cn L h (fun h=>?_) fun h=>?_
 ·refine wp_skip (H14 _ _ ?_);refine wp_seq_k fun K15 H15=>wp_block ?_;obtain ⟨e16,h17,h⟩:=h;refine ra 3 (p1 h17) L fun a s L=>?_;obtain ⟨h18,h19,h⟩:=h;refine rg (sA 9 L fun a s L=>?_);refine zc6 2 L J op op (sub_cls h19) Tq.h J J J ka fun s L=>?_;refine en' (H15 _ _ ?_);obtain ⟨h20,h⟩:=h;refine rg (sA 2 L fun a s L=>?_);refine en' ?_;exact hKL12 a s ⟨(Cl.setw a8 (e16 / 64) (orI (Cl.w a8 (e16 / 64)) (shlI 1 (e16 % 64)))),(v9+1),L.kk,d13,h⟩
 ·refine wp_exit ?_;exact J6 a8 a s (L.kk) d13 h
theorem zoe {from_:Int} {to_:Int} {r_:Cl} (h:zdg from_ to_ r_):Fn Tryz.prog 127 [(Pd.rep (En.int .u8) from_),(Pd.rep (En.int .u8) to_)] (Rq (Pd.rep En.cls r_)):=by
 unfold zdg at h;refine zbp Tryz.func127 J Tryz.ntmps127 (by rfl) (by simp) fun s0 a L=>?_;refine rs (zba En.cls (z:=(0#256)) 4 L zmz J J J J fun a s g1 hg_ L=>?_);refine es (rs ?_);have lt_d3:=L.blt 4 rfl;refine zba En.cls (z:=(0#256)) 5 L zmz J J J J fun a s g2 hg_ L=>?_;have d3:=Dis.newg hg_ lt_d3;refine es (wp_seq_k fun K4 H4=>?_);refine rA 1 L fun a s L=>?_;refine wp_block ?_;have J6:∀(a5:Cl) (a:Act) (s:St),Has N0 27 s0 a s [(4,(Pd.box En.cls s0.w.heap.size g1 (0#256))),(5,(Pd.box En.cls s0.w.heap.size g2 a5))]→Dis (some g1) (some g2)→((zdg.j1 r_) a5)→K4 a s.w:=by
  intro a5 a s L d7 h;unfold zdg.j1 at h;show K4 a s.w;refine H4 _ _ (rs ?_);refine sA 1 L fun a s L=>?_;refine sB 4 L fun s L=>?_;refine es ?_;subst h;exact wp_ret (retb J zf8 L J)
 obtain ⟨k10,h⟩:=h;refine lpn (fun k11 a s=>∃(a8:Cl) (v9:Int),Has N0 27 s0 a s [(0,(Pd.rep (En.int .u8) from_)),(1,(Pd.rep (En.int .u8) to_)),(4,(Pd.box En.cls s0.w.heap.size g1 (0#256))),(5,(Pd.box En.cls s0.w.heap.size g2 a8)),(8,(Pi v9))]∧Dis (some g1) (some g2)∧zdg.l1 from_ to_ (zdg.j1 r_) k11 a8 v9) k10 ⟨(0#256),0,L.kk,(Dis.symm d3),h⟩ ?_;rintro k11 a s ⟨a8,v9,L,d13,h⟩ KL12 hKL12;unfold zdg.l1 at h;refine rA 1 L fun a s L=>?_;refine wp_seq_k fun K14 H14=>cn L h (fun h=>?_) fun h=>?_
 ·refine wp_skip (H14 _ _ ?_);refine wp_seq_k fun K15 H15=>wp_block (rA 2 L fun a s L=>?_);refine rA 3 L fun a s L=>?_;obtain ⟨b16,h17,h⟩:=h;refine ra 8 (p1 h17) L fun a s L=>?_;refine cn L h (fun h=>?_) fun h=>?_
  ·obtain ⟨r18,h19,h⟩:=h;refine rg (sl 4 (p1 (class_Add_ok h19)) L fun a s L=>?_);refine sB 5 L fun s L=>?_;refine en' (H15 _ _ ?_);obtain ⟨h20,h⟩:=h;refine rg (sA 2 L fun a s L=>?_);refine en' ?_;exact hKL12 a s ⟨r18,(v9+1),L.kk,d13,h⟩
  ·refine wp_skip (H15 _ _ ?_);obtain ⟨h21,h⟩:=h;refine rg (sA 2 L fun a s L=>?_);refine en' ?_;exact hKL12 a s ⟨a8,(v9+1),L.kk,d13,h⟩
 ·refine wp_exit ?_;exact J6 a8 a s (L.kk) d13 h
theorem zl7 {a_:Cl} {r_:Cl} (h:zcy a_ r_):Fn Tryz.prog 124 [(Pd.rep En.cls a_)] (Rq (Pd.rep En.cls r_)):=by
 unfold zcy at h;refine zbp Tryz.func124 J Tryz.ntmps124 (by rfl) (by simp) fun s0 a L=>?_;refine rs (st_boxm 1 L op J J J J fun a s g1 hg_ L=>?_);have lt_d3:=L.blt 1 rfl;refine zba En.cls (z:=(0#256)) 2 L zmz J J J J fun a s g2 hg_ L=>?_;have d3:=Dis.newg hg_ lt_d3;refine es (wp_seq_k fun K4 H4=>?_);refine rA 1 L fun a s L=>?_;refine wp_block ?_;have J6:∀(a5:Cl) (a:Act) (s:St),Has N0 15 s0 a s [(1,(Pd.box En.cls s0.w.heap.size g1 a5)),(2,(Pd.box En.cls s0.w.heap.size g2 (0#256)))]→Dis (some g1) (some g2)→((zcy.j1 r_) a5)→K4 a s.w:=by
  intro a5 a s L d7 h;unfold zcy.j1 at h;show K4 a s.w;refine H4 _ _ (rs ?_);refine sA 1 L fun a s L=>?_;refine sB 2 L fun s L=>?_;refine es ?_;subst h;exact wp_ret (retb J zf8 L J)
 obtain ⟨k10,h⟩:=h;refine lpn (fun k11 a s=>∃(a8:Cl) (v9:Int),Has N0 15 s0 a s [(1,(Pd.box En.cls s0.w.heap.size g1 a8)),(2,(Pd.box En.cls s0.w.heap.size g2 (0#256))),(4,(Pi v9))]∧Dis (some g1) (some g2)∧zcy.l1 (zcy.j1 r_) k11 a8 v9) k10 ⟨a_,0,L.kk,(Dis.symm d3),h⟩ ?_;rintro k11 a s ⟨a8,v9,L,d13,h⟩ KL12 hKL12;unfold zcy.l1 at h;refine rA 1 L fun a s L=>?_;refine wp_seq_k fun K14 H14=>cn L h (fun h=>?_) fun h=>?_
 ·refine wp_skip (H14 _ _ ?_);refine wp_seq_k fun K15 H15=>wp_block (rA 2 L fun a s L=>?_);obtain ⟨h16,h17,h⟩:=h;refine rg (sA 4 L fun a s L=>?_);refine sv (t_com op J J) L fun a s L=>?_;refine sA 1 L fun a s L=>?_;refine zc6 1 L J op op (sub_cls h17) Tq.h J J J ka fun s L=>?_;refine en' (H15 _ _ ?_);obtain ⟨h18,h⟩:=h;refine rg (sA 2 L fun a s L=>?_);refine en' ?_;exact hKL12 a s ⟨(Cl.setw a8 v9 (xorI 18446744073709551615 (Cl.w a8 v9))),(v9+1),L.kk,d13,h⟩
 ·refine wp_exit ?_;exact J6 a8 a s (L.kk) d13 h
theorem zku {a_:Cl} {b_:Cl} {r_:Cl} (h:zcg a_ b_ r_):Fn Tryz.prog 166 [(Pd.rep En.cls a_),(Pd.rep En.cls b_)] (Rq (Pd.rep En.cls r_)):=by
 unfold zcg at h;refine zbp Tryz.func166 J Tryz.ntmps166 (by rfl) (by simp) fun s0 a L=>?_;refine rs (st_boxm 2 L op J J J J fun a s g1 hg_ L=>?_);refine sA 1 L fun a s L=>?_;have lt_d3:=L.blt 2 rfl;refine zba En.cls (z:=(0#256)) 4 L zmz J J J J fun a s g2 hg_ L=>?_;have d3:=Dis.newg hg_ lt_d3;refine es (wp_seq_k fun K4 H4=>?_);refine rA 1 L fun a s L=>?_;refine wp_block ?_;have J6:∀(a5:Cl) (a:Act) (s:St),Has N0 19 s0 a s [(2,(Pd.box En.cls s0.w.heap.size g1 a5)),(4,(Pd.box En.cls s0.w.heap.size g2 (0#256)))]→Dis (some g1) (some g2)→((zcg.j1 r_) a5)→K4 a s.w:=by
  intro a5 a s L d7 h;unfold zcg.j1 at h;show K4 a s.w;refine H4 _ _ (rs ?_);refine sA 1 L fun a s L=>?_;refine sB 4 L fun s L=>?_;refine es ?_;subst h;exact wp_ret (retb J zf8 L J)
 obtain ⟨k10,h⟩:=h;refine lpn (fun k11 a s=>∃(a8:Cl) (v9:Int),Has N0 19 s0 a s [(2,(Pd.box En.cls s0.w.heap.size g1 a8)),(3,(Pd.ptr En.cls b_)),(4,(Pd.box En.cls s0.w.heap.size g2 (0#256))),(6,(Pi v9))]∧Dis (some g1) (some g2)∧zcg.l1 b_ (zcg.j1 r_) k11 a8 v9) k10 ⟨a_,0,L.kk,(Dis.symm d3),h⟩ ?_;rintro k11 a s ⟨a8,v9,L,d13,h⟩ KL12 hKL12;unfold zcg.l1 at h;refine rA 1 L fun a s L=>?_;refine wp_seq_k fun K14 H14=>cn L h (fun h=>?_) fun h=>?_
 ·refine wp_skip (H14 _ _ ?_);refine wp_seq_k fun K15 H15=>wp_block (rA 2 L fun a s L=>?_);obtain ⟨h16,h17,h18,h⟩:=h;refine rdx 8 trivial L fun a s L=>?_;refine zc6 2 L J op op (sub_cls h18) Tq.h J J J ka fun s L=>?_;refine en' (H15 _ _ ?_);obtain ⟨h19,h⟩:=h;refine rg (sA 2 L fun a s L=>?_);refine en' ?_;exact hKL12 a s ⟨(Cl.setw a8 v9 (andI (Cl.w a8 v9) (Cl.w b_ v9))),(v9+1),L.kk,d13,h⟩
 ·refine wp_exit ?_;exact J6 a8 a s (L.kk) d13 h
theorem zo3 {a_:Cl} {r_:Int} (h:zb6 a_ r_):Fn Tryz.prog 167 [(Pd.rep En.cls a_)] (Rq (Pi r_)):=by
 unfold zb6 at h;refine zbp Tryz.func167 J Tryz.ntmps167 (by rfl) (by simp) fun s0 a L=>?_;refine rA 2 L fun a s L=>?_;refine rA 1 L fun a s L=>?_;refine wp_seq_k fun K1 H1=>rA 1 L fun a s L=>?_;refine wp_block ?_;have J3:∀(n2:Int) (a:Act) (s:St),Has N0 16 s0 a s [(3,(Pi n2))]→((zb6.j1 r_) n2)→K1 a s.w:=by
  intro n2 a s L h;unfold zb6.j1 at h;show K1 a s.w;refine H1 _ _ (rA 2 L fun a s L=>?_);subst h;exact wp_ret (zdw J L J)
 obtain ⟨k6,h⟩:=h;refine lpn (fun k7 a s=>∃(n4:Int) (v5:Int),Has N0 16 s0 a s [(1,(Pd.ptr En.cls a_)),(3,(Pi n4)),(5,(Pi v5))]∧zb6.l1 a_ (zb6.j1 r_) k7 n4 v5) k6 ⟨0,0,L.kk,h⟩ ?_;rintro k7 a s ⟨n4,v5,L,h⟩ KL8 hKL8;unfold zb6.l1 at h;refine rA 1 L fun a s L=>?_;refine wp_seq_k fun K9 H9=>cn L h (fun h=>?_) fun h=>?_
 ·refine wp_skip (H9 _ _ ?_);refine wp_seq_k fun K10 H10=>wp_block (rA 2 L fun a s L=>?_);obtain ⟨r11,h12,h⟩:=h;refine ra 4 (p1 (ziv h12)) L fun a s L=>?_;refine cn L h (fun h=>?_) fun h=>?_
  ·obtain ⟨h13,h⟩:=h;refine rg (sA 3 L fun a s L=>?_);refine en' (H10 _ _ ?_);obtain ⟨h14,h⟩:=h;refine rg (sA 2 L fun a s L=>?_);refine en' ?_;exact hKL8 a s ⟨(n4+1),(v5+1),L.kk,h⟩
  ·refine wp_skip (H10 _ _ ?_);obtain ⟨h15,h⟩:=h;refine rg (sA 2 L fun a s L=>?_);refine en' ?_;exact hKL8 a s ⟨n4,(v5+1),L.kk,h⟩
 ·refine wp_exit ?_;exact J3 n4 a s (L.kk) h
theorem zjy {a_:Cl} {r_:(Int × Bool)} (h:zb0 a_ r_):Fn Tryz.prog 104 [(Pd.rep En.cls a_)] (Rq2 (Pd.rep (En.int .u8) r_.1) (Pd.rep En.bool r_.2)):=by
 unfold zb0 at h;refine zbp Tryz.func104 J Tryz.ntmps104 (by rfl) (by simp) fun s0 a L=>?_;refine rA 3 L fun a s L=>?_;refine wp_seq_k fun K1 H1=>rA 1 L fun a s L=>?_;refine wp_block ?_;have J2:∀(a:Act) (s:St),Has N0 15 s0 a s []→((zb0.j1 r_))→K1 a s.w:=by
  intro a s L h;unfold zb0.j1 at h;show K1 a s.w;refine H1 _ _ (rA 2 L fun a s L=>?_);subst h;exact wp_ret (ret2 J L J J)
 obtain ⟨k4,h⟩:=h;refine lpn (fun k5 a s=>∃(v3:Int),Has N0 15 s0 a s [(1,(Pd.ptr En.cls a_)),(5,(Pi v3))]∧zb0.l1 a_ r_ (zb0.j1 r_) k5 v3) k4 ⟨0,L.kk,h⟩ ?_;rintro k5 a s ⟨v3,L,h⟩ KL6 hKL6;unfold zb0.l1 at h;refine rA 1 L fun a s L=>?_;refine wp_seq_k fun K7 H7=>cn L h (fun h=>?_) fun h=>?_
 ·refine wp_skip (H7 _ _ ?_);refine wp_seq_k fun K8 H8=>wp_block (rA 2 L fun a s L=>?_);obtain ⟨r9,h10,h⟩:=h;refine ra 4 (p1 (ziv h10)) L fun a s L=>?_;refine cn L h (fun h=>?_) fun h=>?_
  ·refine rA 4 L fun a s L=>?_;subst h;exact wp_ret (ret2 J L J J)
  ·refine wp_skip (H8 _ _ ?_);obtain ⟨h11,h⟩:=h;refine rg (sA 2 L fun a s L=>?_);refine en' ?_;exact hKL6 a s ⟨(v3+1),L.kk,h⟩
 ·refine wp_exit ?_;exact J2 a s (L.kk) h
set_option maxRecDepth 100000
set_option maxHeartbeats 2000000
set_option synthInstance.maxSize 100000
set_option synthInstance.maxHeartbeats 200000
theorem zlf {a_:Cl} {r_:Int} (h:zdy a_ r_):Fn Tryz.prog 168 [(Pd.rep En.cls a_)] (Rq (Pi r_)):=by
 unfold zdy at h;refine zbp Tryz.func168 J Tryz.ntmps168 (by rfl) (by simp) fun s0 a L=>?_;refine rA 2 L fun a s L=>?_;obtain ⟨r1,h2,h⟩:=h;refine ra 7 (p1 ((zjy h2).tup)) L fun a s L=>?_;refine rA 3 L fun a s L=>?_;subst h;exact wp_ret (zdw J L J)
theorem zle {a_:Cl} {b_:Cl} {cap0_:(Cl × Int→Prop)} {r_:Int} (h:zeh a_ b_ cap0_ r_):Fn Tryz.prog 170 [(Pd.rep En.cls a_),(Pd.rep En.cls b_),(Pd.ptr EnF260 cap0_)] (Rq (Pi r_)):=by
 unfold zeh at h;refine zbp Tryz.func170 J Tryz.ntmps170 (by rfl) (by simp) fun s0 a L=>?_;refine rA 3 L fun a s L=>?_;obtain ⟨r1,h2,r3,h4,h5,h⟩:=h;refine wp_seq (rda zc1 7 [(Pd.rep EnF260 cap0_),(Pd.rep En.cls a_),(Pi r1),(Pd.rep EnF260 cap0_),(Pd.rep En.cls b_),(Pi r3),(Pi (r1-r3))] L (by kernel_rfl) J J ?_ ?_)
 ·refine zbf.cons (zci ty260 (O 2 J) J J) ?_;refine zbf.cons (zci zf8 (O 3 J) J J) ?_;refine zbf.cons (zfc (q:=(a_,r1)) (O 6 J) h2 (xs:=[.tmp 7]) (.cons (O 7 J) .nil) (fun _ _ _ h_=>h_) J J) ?_;refine zbf.cons (zci ty260 (O 2 J) J J) ?_;refine zbf.cons (zci zf8 (O 4 J) J J) ?_;refine zbf.cons (zfc (q:=(b_,r3)) (O 9 J) h4 (xs:=[.tmp 10]) (.cons (O 10 J) .nil) (fun _ _ _ h_=>h_) J J) ?_;refine zbf.cons (zmf (O 8 J) (O 11 J) h5 J J) ?_;exact zbf.nil
 intro a s _ L;replace L:=L.kk (L':=[(5,(Pi 0)),(12,(Pi (r1-r3)))]);refine dp ?_;refine sA 1 L fun a s L=>?_;refine es ?_;subst h;exact wp_ret (zdw J L J)
theorem zm7 {parts_:(List Cl)} {a_:Cl} {r_:(List Cl)} (h:zz parts_ a_ r_):Fn Tryz.prog 125 [(Pd.rep (En.slice En.cls) parts_),(Pd.rep En.cls a_)] (Ro En.cls 38 r_):=by
 unfold zz at h;refine zbp Tryz.func125 J Tryz.ntmps125 (by rfl) (by simp) fun s0 a L=>?_;refine rs (sA 1 L fun a s L=>?_);refine sno En.cls 38 L fun a s L=>?_;refine es (rs ?_);refine sno En.cls 38 L fun a s L=>?_;refine es (wp_seq_k fun K1 H1=>?_);refine rA 3 L fun a s L=>?_;refine wp_block ?_;have J4:∀(out2:(List Cl)) (og3:Option Nat) (a:Act) (s:St),Has N0 43 s0 a s [(5,(Pd.row En.cls s0.w.heap.size 38 og3 out2))]→((zz.j1 r_) out2)→K1 a s.w:=by
  intro out2 og3 a s L h;unfold zz.j1 at h;show K1 a s.w;refine H1 _ _ (rs ?_);have lt_d6:=L.rlt 5 rfl;refine zba EnF260 (z:=(fun _=>False)) 10 L tyz260 J J J J fun a s g5 hg_ L=>?_;have d6:=Dis.newg hg_ lt_d6;refine zpg 10 L J (o_q (Pd.rep EnF260 (fun q_=>zdy q_.1 q_.2)) (o_fun (zdz Tryz.func168 J (by rfl)) (fun q_ h_=>zlf h_))) Tq.h J J J ka fun s L=>?_;refine es (fbc 10 L fun s L=>?_);obtain ⟨r7,h8,h⟩:=h;refine rs (sA 1 L fun a s L=>?_);refine sv (t_q (Pd.rep EnF262 (fun q_=>zeh q_.1 q_.2.1 (fun q_=>zdy q_.1 q_.2) q_.2.2)) (zm3 (cs:=[.tmp 10]) (.cons op .nil) (zdz Tryz.func170 J (by rfl)) (zfp zit zj7) (fun q_ h_=>zle h_) J J)) L fun a s L=>?_;refine zj9 41 (fun v0=>zdn v0 h8) L op opz J J J J kw fun a s L=>?_;refine es (rA 2 L fun a s L=>?_);subst h;exact wp_ret (zif J L J)
 obtain ⟨k12,h⟩:=h;refine lpn (fun k13 a s=>∃(out9:(List Cl)) (v11:Int) (og10:Option Nat),Has N0 43 s0 a s [(3,(Pd.ptr En.cls a_)),(5,(Pd.row En.cls s0.w.heap.size 38 og10 out9)),(11,(Pd.rep (En.slice En.cls) parts_)),(12,(Pi (parts_.length:Int))),(13,(Pi v11))]∧zz.l1 parts_ a_ (zz.j1 r_) k13 out9 v11) k12 ⟨([]:(List Cl)),0,none,L.kk,h⟩ ?_;rintro k13 a s ⟨out9,v11,og10,L,h⟩ KL14 hKL14;unfold zz.l1 at h;refine rA 1 L fun a s L=>?_;refine wp_seq_k fun K15 H15=>cn L h (fun h=>?_) fun h=>?_
 ·refine wp_skip (H15 _ _ ?_);refine wp_seq_k fun K16 H16=>wp_block ?_;obtain ⟨e17,h18,h⟩:=h;refine rs (sl 2 (p1 h18) L fun a s L=>?_);have lt_d20:=L.rlt 5 rfl;refine zba En.cls (z:=(0#256)) 7 L zmz J J J J fun a s g19 hg_ L=>?_;have d20:=Dis.newg hg_ lt_d20;refine sB 7 L fun s L=>?_;refine es ?_;obtain ⟨r21,h22,r23,h24,r25,h26,h⟩:=h;refine wp_seq (rdx 10 (pp (zku h22) (pp (zl7 h24) (p1 (zku h26)))) L fun a s L=>?_);refine es (wp_block ?_);have J29:∀(out27:(List Cl)) (og28:Option Nat) (a:Act) (s:St),Has N0 43 s0 a s [(3,(Pd.ptr En.cls a_)),(5,(Pd.row En.cls s0.w.heap.size 38 og28 out27)),(11,(Pd.rep (En.slice En.cls) parts_)),(12,(Pi (parts_.length:Int))),(13,(Pi v11))]→((zz.j2 (zz.l1 parts_ a_ (zz.j1 r_) k13) v11) out27)→K16 a s.w:=by
   intro out27 og28 a s L h;unfold zz.j2 at h;show K16 a s.w;refine H16 _ _ ?_;obtain ⟨h30,h⟩:=h;refine rg (sA 2 L fun a s L=>?_);refine en' ?_;exact hKL14 a s ⟨out27,(v11+1),og28,L.kk,h⟩
  obtain ⟨k34,h⟩:=h;refine lpn (fun k35 a s=>∃(out31:(List Cl)) (v33:Int) (og32:Option Nat),Has N0 43 s0 a s [(3,(Pd.ptr En.cls a_)),(5,(Pd.row En.cls s0.w.heap.size 38 og32 out31)),(11,(Pd.rep (En.slice En.cls) parts_)),(12,(Pi (parts_.length:Int))),(13,(Pi v11)),(24,(Pd.rep (En.slice En.cls) [r21,r25])),(25,(Pi ([r21,r25].length:Int))),(26,(Pi v33))]∧zz.l2 r21 r25 (zz.j2 (zz.l1 parts_ a_ (zz.j1 r_) k13) v11) k35 out31 v33) k34 ⟨out9,0,og10,L.kk,h⟩ ?_;rintro k35 a s ⟨out31,v33,og32,L,h⟩ KL36 hKL36;unfold zz.l2 at h;refine rA 1 L fun a s L=>?_;refine wp_seq_k fun K37 H37=>cn L h (fun h=>?_) fun h=>?_
  ·refine wp_skip (H37 _ _ ?_);refine wp_seq_k fun K38 H38=>wp_block ?_;obtain ⟨e39,h40,h⟩:=h;refine rs (sl 2 (p1 h40) L fun a s L=>?_);have lt_d42:=L.rlt 5 rfl;refine zba En.cls (z:=(0#256)) 9 L zmz J J J J fun a s g41 hg_ L=>?_;have d42:=Dis.newg hg_ lt_d42;refine sB 9 L fun s L=>?_;refine es ?_;obtain ⟨r43,h44,h⟩:=h;refine ra 3 (p1 (zo3 h44)) L fun a s L=>?_;refine cn L h (fun h=>?_) fun h=>?_
   ·obtain ⟨h45,h⟩:=h;refine rg (sA 3 L fun a s L=>?_);refine zdo 36 L op op Ud.h Tq.h h45 J J J J ka fun a s og46 hg_ L=>?_;refine sA 1 L fun a s L=>?_;refine en' (H38 _ _ ?_);obtain ⟨h47,h⟩:=h;refine rg (sA 2 L fun a s L=>?_);refine en' ?_;exact hKL36 a s ⟨(out31++[e39]),(v33+1),og46,L.kk,h⟩
   ·refine wp_skip (H38 _ _ ?_);obtain ⟨h48,h⟩:=h;refine rg (sA 2 L fun a s L=>?_);refine en' ?_;exact hKL36 a s ⟨out31,(v33+1),og32,L.kk,h⟩
  ·refine wp_exit ?_;exact J29 out31 og32 a s (L.kk) h
 ·refine wp_exit ?_;exact J4 out9 og10 a s (L.kk) h
theorem zos {list_:(List Cl)} {r_:(List Cl)} (h:zb8 list_ r_):Fn Tryz.prog 103 [(Pd.rep (En.slice En.cls) list_)] (Ro En.cls 38 r_):=by
 unfold zb8 at h;refine zbp Tryz.func103 J Tryz.ntmps103 (by rfl) (by simp) fun s0 a L=>?_;refine rs (sno En.cls 38 L fun a s L=>?_);refine es ?_;obtain ⟨r1,h2,h⟩:=h;refine rs (sv (t_bcls (x:=(0#256)) Ud.h (by rfl) zmz (fun _=>by kernel_rfl) J J) L fun a s L=>?_);refine sl 1 (p1 (zl7 h2)) L fun a s L=>?_;refine zfd (xs:=[.tmp 7]) 8 L (.cons op .nil) Ud.h Tq.h J J (by decide) J J J J fun a s g3 hg_ L=>?_;refine sA 1 L fun a s L=>?_;refine es (wp_seq_k fun K4 H4=>?_);refine rA 3 L fun a s L=>?_;refine wp_block ?_;have J7:∀(out5:(List Cl)) (og6:Option Nat) (a:Act) (s:St),Has N0 20 s0 a s [(3,(Pd.row En.cls s0.w.heap.size 38 og6 out5))]→((zb8.j1 r_) out5)→K4 a s.w:=by
  intro out5 og6 a s L h;unfold zb8.j1 at h;show K4 a s.w;refine H4 _ _ (rA 2 L fun a s L=>?_);subst h;exact wp_ret (zif J L J)
 obtain ⟨k11,h⟩:=h;refine lpn (fun k12 a s=>∃(out8:(List Cl)) (v10:Int) (og9:Option Nat),Has N0 20 s0 a s [(3,(Pd.row En.cls s0.w.heap.size 38 og9 out8)),(9,(Pd.rep (En.slice En.cls) list_)),(10,(Pi (list_.length:Int))),(11,(Pi v10))]∧zb8.l1 list_ (zb8.j1 r_) k12 out8 v10) k11 ⟨[r1],0,(some g3),L.kk,h⟩ ?_;rintro k12 a s ⟨out8,v10,og9,L,h⟩ KL13 hKL13;unfold zb8.l1 at h;refine rA 1 L fun a s L=>?_;refine wp_seq_k fun K14 H14=>cn L h (fun h=>?_) fun h=>?_
 ·refine wp_skip (H14 _ _ ?_);refine wp_seq_k fun K15 H15=>wp_block ?_;obtain ⟨e16,h17,h⟩:=h;refine rs (sl 2 (p1 h17) L fun a s L=>?_);have lt_d19:=L.rlt 3 rfl;refine zba En.cls (z:=(0#256)) 5 L zmz J J J J fun a s g18 hg_ L=>?_;have d19:=Dis.newg hg_ lt_d19;refine sB 5 L fun s L=>?_;refine es (fzc 3 L fun s L=>?_);obtain ⟨r20,h21,h⟩:=h;refine rg (sA 2 L fun a s L=>?_);have lt_d23:=L.blt 5 rfl;refine zet 17 L (zm7 h21) opz J J J J fun a s og22 hg_ L=>?_;have d23:=Dis.new hg_ lt_d23;refine sA 1 L fun a s L=>?_;refine en' (H15 _ _ ?_);obtain ⟨h24,h⟩:=h;refine rg (sA 2 L fun a s L=>?_);refine en' ?_;exact hKL13 a s ⟨r20,(v10+1),og22,L.kk,h⟩
 ·refine wp_exit ?_;exact J7 out8 og9 a s (L.kk) h
theorem zjr {list_:(List Cl)} {r_:(List Int)} (h:zb4 list_ r_):Fn Tryz.prog 77 [(Pd.rep (En.slice En.cls) list_)] (Ro (En.int .u8) 5 r_):=by
 unfold zb4 at h;refine zbp Tryz.func77 J Tryz.ntmps77 (by rfl) (by simp) fun s0 a L=>?_;refine rs (sno (En.int .u8) 5 L fun a s L=>?_);refine es (rs ?_);refine sno (En.int .u8) 5 L fun a s L=>?_;refine es (wp_seq_k fun K1 H1=>?_);obtain ⟨r2,h3,h⟩:=h;refine ra 4 (p1 ((zos h3).frz)) L fun a s L=>?_;refine wp_block ?_;have J6:∀(out4:(List Int)) (og5:Option Nat) (a:Act) (s:St),Has N0 26 s0 a s [(3,(Pd.row (En.int .u8) s0.w.heap.size 5 og5 out4))]→((zb4.j1 r_) out4)→K1 a s.w:=by
  intro out4 og5 a s L h;unfold zb4.j1 at h;show K1 a s.w;refine H1 _ _ (rA 2 L fun a s L=>?_);subst h;exact wp_ret (zif J L J)
 obtain ⟨k10,h⟩:=h;refine lpn (fun k11 a s=>∃(out7:(List Int)) (v9:Int) (og8:Option Nat),Has N0 26 s0 a s [(3,(Pd.row (En.int .u8) s0.w.heap.size 5 og8 out7)),(9,(Pd.rep (En.slice En.cls) r2)),(10,(Pi (r2.length:Int))),(11,(Pi v9))]∧zb4.l1 r2 (zb4.j1 r_) k11 out7 v9) k10 ⟨([]:(List Int)),0,none,L.kk,h⟩ ?_;rintro k11 a s ⟨out7,v9,og8,L,h⟩ KL12 hKL12;unfold zb4.l1 at h;refine rA 1 L fun a s L=>?_;refine wp_seq_k fun K13 H13=>cn L h (fun h=>?_) fun h=>?_
 ·refine wp_skip (H13 _ _ ?_);refine wp_seq_k fun K14 H14=>wp_block ?_;obtain ⟨e15,h16,h⟩:=h;refine rs (sl 2 (p1 h16) L fun a s L=>?_);have lt_d18:=L.rlt 3 rfl;refine zba En.cls (z:=(0#256)) 5 L zmz J J J J fun a s g17 hg_ L=>?_;have d18:=Dis.newg hg_ lt_d18;refine sB 5 L fun s L=>?_;refine es ?_;obtain ⟨r19,h20,h⟩:=h;refine ra 7 (p1 ((zjy h20).tup)) L fun a s L=>?_;obtain ⟨h21,h⟩:=h;refine rg (sA 3 L fun a s L=>?_);refine zdo 23 L op op Ud.h Tq.h h21 J J J J ka fun a s og22 hg_ L=>?_;refine sA 1 L fun a s L=>?_;refine en' (H14 _ _ ?_);obtain ⟨h23,h⟩:=h;refine rg (sA 2 L fun a s L=>?_);refine en' ?_;exact hKL12 a s ⟨(out7++[r19.1]),(v9+1),og22,L.kk,h⟩
 ·refine wp_exit ?_;exact J6 out7 og8 a s (L.kk) h
theorem zfn {a_:(List Int)} {b_:(List Int)} {r_:Bool} (h:zbt a_ b_ r_):Fn Tryz.prog 29 [(Pd.rep (En.slice (En.int .u8)) a_),(Pd.rep (En.slice (En.int .u8)) b_)] (Rq (Pd.rep En.bool r_)):=by
 unfold zbt at h;refine zbp Tryz.func29 J Tryz.ntmps29 (by rfl) (by simp) fun s0 a L=>?_;refine rA 1 L fun a s L=>?_;refine wp_seq_k fun K1 H1=>rA 5 L fun a s L=>?_;refine cn L h (fun h=>?_) fun h=>?_
 ·refine rA 1 L fun a s L=>?_;subst h;exact wp_ret (zdw J L J)
 ·refine wp_skip (H1 _ _ ?_);refine wp_seq_k fun K2 H2=>rA 1 L fun a s L=>?_;refine wp_block ?_;have J3:∀(a:Act) (s:St),Has N0 26 s0 a s []→((zbt.j1 r_))→K2 a s.w:=by
   intro a s L h;unfold zbt.j1 at h;show K2 a s.w;refine H2 _ _ (rA 1 L fun a s L=>?_);subst h;exact wp_ret (zdw J L J)
  obtain ⟨k5,h⟩:=h;refine lpn (fun k6 a s=>∃(i4:Int),Has N0 26 s0 a s [(0,(Pd.rep (En.slice (En.int .u8)) a_)),(1,(Pd.rep (En.slice (En.int .u8)) b_)),(5,(Pi i4))]∧zbt.l1 a_ b_ r_ (zbt.j1 r_) k6 i4) k5 ⟨0,L.kk,h⟩ ?_;rintro k6 a s ⟨i4,L,h⟩ KL7 hKL7;unfold zbt.l1 at h;refine wp_seq_k fun K8 H8=>rA 4 L fun a s L=>?_;refine cn L h (fun h=>?_) fun h=>?_
  ·refine wp_skip (H8 _ _ ?_);refine wp_seq_k fun K9 H9=>wp_block ?_;obtain ⟨e10,h11,e12,h13,h⟩:=h;refine wp_seq (rdx 9 (pp h11 (p1 h13)) L fun a s L=>?_);refine es (cn L h (fun h=>?_) fun h=>?_)
   ·refine rA 1 L fun a s L=>?_;subst h;exact wp_ret (zdw J L J)
   ·refine wp_skip (H9 _ _ ?_);obtain ⟨h14,h⟩:=h;refine rg (sA 3 L fun a s L=>?_);refine en' ?_;exact hKL7 a s ⟨(i4+1),L.kk,h⟩
  ·refine wp_exit ?_;exact J3 a s (L.kk) h
end Go.Proofs.YtkbboemafklkkaaGreatDoor.V
