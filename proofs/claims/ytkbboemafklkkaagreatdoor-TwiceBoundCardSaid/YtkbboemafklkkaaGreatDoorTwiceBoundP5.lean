/-
  The texts that the law's proof needs, part 5.
-/
import Derived.Carry
import Derived.ChangeSame
import Derived.Deep.Slices
import Derived.Handed
import Derived.KernelRfl
import Derived.LaidHandle
import Derived.LaidLaws
import Derived.LaidMore
import Derived.Lib.AppendIntMem
import Derived.Lib.ItoaLen
import Derived.Lib.LaidTab
import Derived.OpenShut
import Derived.ProofKit
import Derived.RowKit
import Derived.Shelf.SlLaysF
import Derived.Shelf.SlSortCmp.Whole1
import Derived.SizedLaws
import Derived.Stop.LaidErr
import Derived.Test.YtkbboemafklkkaaGreatDoorRows
import Derived.WalkKit
import Derived.WideKeyElems2
import Derived.Test.YtkbboemafklkkaaGreatDoorTwiceBoundP4

namespace Go.Proofs.YtkbboemafklkkaaGreatDoor.V
open Go
set_option linter.unusedVariables false
structure Sch (T:Type) where
 start:T
 ways:T→List (Int × T)
 hit:T→Bool
abbrev Qb (T:Type):=T × Int × Int × List Int
section
variable {T : Type} [DecidableEq T]
def hasQ (acc:List (Qb T)) (x:T):Bool:=acc.any fun q=>decide (q.1=x)
def stB (i:Nat) (w:List Int) (acc:List (Qb T)) (e:Int × T):List (Qb T):=if hasQ acc e.2=true then acc else acc++[(e.2,(i:Int),e.1,w++[e.1])]
def rdB (S:Sch T) (i:Nat) (q:Qb T) (acc:List (Qb T)):List (Qb T):=(S.ways q.1).foldl (stB i q.2.2.2) acc
def zc4 (S:Sch T):Nat→List (Qb T)
 | 0=>[(S.start, -1,0,[])]
 | i+1=>match (zc4 S i)[i]? with
  | some q=>rdB S i q (zc4 S i)
  | none=>zc4 S i
theorem zll {acc:List (Qb T)} {x:T}:hasQ acc x=true↔∃q∈acc,q.1=x:=by simp [hasQ]
theorem hasQ_app {acc:List (Qb T)} {q:Qb T} {x:T}:hasQ (acc++[q]) x=(hasQ acc x||decide (q.1=x)):=by simp [hasQ]
theorem zep {α:Type} {a b:List α} (h:a <+: b) {j:Nat} {q:α} (hq:a[j]?=some q):b[j]?=some q:=by
 obtain ⟨r,rfl⟩:=h;rw [List.getElem?_append_left (List.getElem?_eq_some_iff.1 hq).1];exact hq
theorem stB_pre (i:Nat) (w:List Int) (acc:List (Qb T)) (e:Int × T):acc <+: stB i w acc e:=by
 unfold stB;split
 ·exact List.prefix_refl _
 ·exact List.prefix_append _ _
theorem foldB_pre (i:Nat) (w:List Int) (es:List (Int × T)):∀acc:List (Qb T),acc <+: es.foldl (stB i w) acc:=by
 induction es with
 | nil=>intro acc;exact List.prefix_refl _
 | cons e es ih=>intro acc;exact (stB_pre i w acc e).trans (ih _)
theorem zgw {S:Sch T} {i:Nat} {q:Qb T} (h:(zc4 S i)[i]?=some q):zc4 S (i+1)=rdB S i q (zc4 S i):=by
 show (match (zc4 S i)[i]? with | some q=>rdB S i q (zc4 S i) | none=>zc4 S i)=_;rw [h]
theorem zj2 {S:Sch T} {i:Nat} (h:(zc4 S i)[i]?=none):zc4 S (i+1)=zc4 S i:=by
 show (match (zc4 S i)[i]? with | some q=>rdB S i q (zc4 S i) | none=>zc4 S i)=_;rw [h]
theorem zgv (S:Sch T) (i:Nat):zc4 S i <+: zc4 S (i+1):=by
 cases h:(zc4 S i)[i]? with
 | none=>rw [zj2 h];exact List.prefix_refl _
 | some q=>rw [zgw h];exact foldB_pre _ _ _ _
theorem zp4 (S:Sch T) {i j:Nat} (h:i≤j):zc4 S i <+: zc4 S j:=by
 obtain ⟨d,rfl⟩:∃d,j=i+d:=⟨j-i,by omega⟩;clear h
 induction d with
 | zero=>exact List.prefix_refl _
 | succ d ih=>exact ih.trans (zgv S (i+d))
theorem zh3 {S:Sch T} {i:Nat} (h:(zc4 S i)[i]?=none):∀d,zc4 S (i+d)=zc4 S i
 | 0=>rfl
 | d+1=>by
  have ih:=zh3 h d;have:(zc4 S (i+d))[i+d]?=none:=by
   rw [ih];rw [List.getElem?_eq_none_iff] at h ⊢;omega
  rw [← Nat.add_assoc,zj2 this,ih]
structure GoodB (S:Sch T) (acc:List (Qb T)):Prop where
 nd:(acc.map (·.1)).Nodup
 par:∀j q,acc[j]?=some q→(j=0∧q=(S.start, -1,0,[]))∨∃p q',q.2.1=((p:Nat):Int)∧p<j∧acc[p]?=some q'∧q.2.2.2=q'.2.2.2++[q.2.2.1]∧(q.2.2.1,q.1)∈S.ways q'.1
theorem stB_good {S:Sch T} {i:Nat} {q0:Qb T} {acc:List (Qb T)} {e:Int × T} (h:GoodB S acc) (hi:acc[i]?=some q0) (he:e∈S.ways q0.1):GoodB S (stB i q0.2.2.2 acc e):=by
 unfold stB;split
 ·exact h
 ·rename_i hno
  have hni:e.2 ∉ acc.map (·.1):=fun hm=>by
   obtain ⟨q,hq,he⟩:=List.mem_map.1 hm;exact hno (zll.2 ⟨q,hq,he⟩)
  have hil:i<acc.length:=(List.getElem?_eq_some_iff.1 hi).1;refine ⟨?_, ?_⟩
  ·rw [List.map_append,List.nodup_append];exact ⟨h.nd,by simp,fun a ha b hb e=>by simp at hb;subst hb;subst e;exact hni ha⟩
  ·intro j q hj
   by_cases hjl:j<acc.length
   ·rw [List.getElem?_append_left hjl] at hj;rcases h.par j q hj with h1 | ⟨p,q',h1,h2,h3,h4⟩
    ·exact .inl h1
    ·exact .inr ⟨p,q',h1,h2,zep (List.prefix_append _ _) h3,h4⟩
   ·have hjl':=(List.getElem?_eq_some_iff.1 hj).1;simp at hjl';have:j=acc.length:=by omega
    subst this;rw [List.getElem?_append_right (Nat.le_refl _)] at hj;simp at hj;subst hj;exact .inr ⟨i,q0,rfl,hil,zep (List.prefix_append _ _) hi,rfl,he⟩
theorem foldB_good {S:Sch T} {i:Nat} {q0:Qb T} {es:List (Int × T)} (hes:∀e∈es,e∈S.ways q0.1):∀acc:List (Qb T),GoodB S acc→acc[i]?=some q0→GoodB S (es.foldl (stB i q0.2.2.2) acc):=by
 induction es with
 | nil=>intro acc h _;exact h
 | cons e es ih=>
  intro acc h hi;exact ih (fun e he=>hes e (by simp [he])) _ (stB_good h hi (hes e (by simp))) (zep (stB_pre _ _ _ _) hi)
theorem zgx (S:Sch T):∀i,GoodB S (zc4 S i)
 | 0=>⟨by simp [zc4],fun j q hj=>by
   cases j with
   | zero=>simp [zc4] at hj;subst hj;exact .inl ⟨rfl,rfl⟩
   | succ j=>simp [zc4] at hj⟩
 | i+1=>by
  have ih:=zgx S i;cases hi:(zc4 S i)[i]? with
  | none=>rw [zj2 hi];exact ih
  | some q=>rw [zgw hi];exact foldB_good (fun e he=>he) _ ih hi
omit [DecidableEq T] in
theorem GoodB.wlen {S:Sch T} {acc:List (Qb T)} (h:GoodB S acc):∀(j:Nat) (q:Qb T),acc[j]?=some q→q.2.2.2.length≤j:=by
 intro j
 induction j using Nat.strongRecOn with
 | ind j ih=>
  intro q hq
  rcases h.par j q hq with ⟨_,rfl⟩ | ⟨p,q',_,h2,h3,h4,_⟩
  ·simp
  ·have:=ih p h2 q' h3
   rw [h4];simp;omega
theorem stB_len (i:Nat) (w:List Int) (acc:List (Qb T)) (e:Int × T):(stB i w acc e).length≤acc.length+1:=by
 unfold stB;split <;> simp
theorem zmr (i:Nat) (w:List Int):∀(es:List (Int × T)) (acc:List (Qb T)),(es.foldl (stB i w) acc).length≤acc.length+es.length
 | [],acc=>Nat.le_refl _
 | e::es,acc=>by
  have h1:=zmr i w es (stB i w acc e);have h2:=stB_len i w acc e;rw [List.foldl_cons,List.length_cons];omega
def verdB (S:Sch T) (b:Int):Nat→Nat→Int × List Int × Int × Option T
 | 0,i=>(1,[],((zc4 S i).length:Int),none)
 | f+1,i=>match (zc4 S i)[i]? with
  | none=>(1,[],((zc4 S i).length:Int),none)
  | some q=>if b≤(i:Int) then (3,[],max b 0,none) else if S.hit q.1=true then (2,q.2.2.2,(i:Int)+1,some q.1) else verdB S b f (i+1)
def zk6 (S:Sch T) (b:Int):Int × List Int × Int × Option T:=verdB S b (b.toNat+1) 0
inductive OutB (S:Sch T) (b:Int):Int × List Int × Int × Option T→Prop
 | yes (i:Nat) (hb:(i:Int)≤b∨i=0∧b≤0) (h:(zc4 S i)[i]?=none) (hno:∀j q,j<i→(zc4 S i)[j]?=some q→S.hit q.1=false):OutB S b (1,[],((zc4 S i).length:Int),none)
 | no (i:Nat) (q:Qb T) (hb:(i:Int)<b) (h:(zc4 S i)[i]?=some q) (hh:S.hit q.1=true) (hno:∀j q,j<i→(zc4 S i)[j]?=some q→S.hit q.1=false):OutB S b (2,q.2.2.2,(i:Int)+1,some q.1)
 | limit (hl:∃q,(zc4 S b.toNat)[b.toNat]?=some q) (hno:∀j q,j<b.toNat→(zc4 S b.toNat)[j]?=some q→S.hit q.1=false):OutB S b (3,[],max b 0,none)
theorem verdB_out (S:Sch T) (b:Int):∀(f i:Nat),f+i=b.toNat+1→i≤b.toNat→(∀j q,j<i→(zc4 S i)[j]?=some q→S.hit q.1=false)→OutB S b (verdB S b f i)
 | 0,i,h1,h2,_=>by omega
 | f+1,i,h1,h2,hno=>by
  unfold verdB;cases hq:(zc4 S i)[i]? with
  | none=>exact .yes i (by omega) hq hno
  | some q=>
   simp only
   by_cases hb:b≤(i:Int)
   ·rw [if_pos hb];have:i=b.toNat:=by omega
    subst this;exact .limit ⟨q,hq⟩ hno
   ·rw [if_neg hb]
    by_cases hh:S.hit q.1=true
    ·rw [if_pos hh];exact .no i q (by omega) hq hh hno
    ·rw [if_neg hh];refine verdB_out S b f (i+1) (by omega) (by omega) fun j q' hj hq'=>?_
     by_cases hji:j=i
     ·subst hji;rw [zep (zgv S j) hq] at hq';cases hq';simpa using hh
     ·have hlt:i<(zc4 S i).length:=(List.getElem?_eq_some_iff.1 hq).1;obtain ⟨x,hx⟩:∃x,(zc4 S i)[j]?=some x:=⟨_,List.getElem?_eq_getElem (show j<(zc4 S i).length by omega)⟩;rw [zep (zgv S i) hx] at hq';cases hq';exact hno j _ (by omega) hx
theorem zjc (S:Sch T) (b:Int):OutB S b (zk6 S b):=verdB_out S b _ 0 (by omega) (by omega) fun j q h=>by omega
theorem zh4 {S:Sch T} {i j:Nat} (hij:i≤j):(zc4 S j)[i]?=(zc4 S i)[i]?:=by
 cases h:(zc4 S i)[i]? with
 | some q=>exact zep (zp4 S hij) h
 | none=>
  have:=zh3 h (j-i);rw [show i+(j-i)=j by omega] at this;rw [this,h]
theorem OutB.stays {S:Sch T} {a b:Int} (hab:a≤b) {v u:Int × List Int × Int × Option T} (h:OutB S a v) (k:OutB S b u) (hv:v.1≠3):v=u:=by
 have cmp:∀{i j:Nat},i<j→(∀q,(zc4 S i)[i]?=some q→S.hit q.1=true)→(∀k q,k<j→(zc4 S j)[k]?=some q→S.hit q.1=false)→(zc4 S j)[i]?=none:=fun {i j} hij h1 h2=>by
  rw [zh4 (by omega)];cases hq:(zc4 S i)[i]? with
  | none=>rfl
  | some q=>
   have:=h2 i q hij (by rw [zh4 (by omega)];exact hq);rw [h1 q hq] at this;cases this
 cases h with
 | limit _ _=>exact absurd rfl hv
 | yes i hb h hno=>
  have hend:∀j,i≤j→zc4 S j=zc4 S i:=fun j hj=>by
   have:=zh3 h (j-i)
   rwa [show i+(j-i)=j by omega] at this
  have hl:=List.getElem?_eq_none_iff.1 h;cases k with
  | yes j hb' h' hno'=>
   rcases Nat.le_total i j with hij | hij
   ·rw [hend j hij]
   ·have:=zh3 h' (i-j);rw [show j+(i-j)=i by omega] at this;rw [this]
  | no j q hb' h' hh hno'=>
   exfalso;rcases Nat.lt_or_ge j i with hij | hij
   ·have:=hno j q hij (by rw [zh4 (by omega)];exact h');rw [hh] at this;cases this
   ·rw [hend j hij] at h';have:=(List.getElem?_eq_some_iff.1 h').1;omega
  | limit hl' hno'=>
   exfalso;obtain ⟨q,hq⟩:=hl';rcases Nat.lt_or_ge b.toNat i with hij | hij
   ·omega
   ·rw [hend _ hij] at hq;have:=(List.getElem?_eq_some_iff.1 hq).1;omega
 | no i q hb h hh hno=>
  cases k with
  | yes j hb' h' hno'=>
   exfalso;rcases Nat.lt_or_ge i j with hij | hij
   ·have:=hno' i q hij (by rw [zh4 (by omega)];exact h);rw [hh] at this;cases this
   ·have:=zh3 h' (i-j);rw [show j+(i-j)=i by omega] at this;rw [this] at h;have h1:=(List.getElem?_eq_some_iff.1 h).1;have h2:=List.getElem?_eq_none_iff.1 h';omega
  | no j q' hb' h' hh' hno'=>
   rcases Nat.lt_trichotomy i j with hij | hij | hij
   ·exfalso;have:=hno' i q hij (by rw [zh4 (by omega)];exact h);rw [hh] at this;cases this
   ·subst hij;rw [h] at h';cases h';rfl
   ·exfalso;have:=hno j q' hij (by rw [zh4 (by omega)];exact h');rw [hh'] at this;cases this
  | limit hl' hno'=>
   exfalso;have:=hno' i q (by omega) (by rw [zh4 (by omega)];exact h);rw [hh] at this;cases this
theorem OutB.made {S:Sch T} {b:Int} {v:Int × List Int × Int × Option T} (hb:0≤b) (h:OutB S b v):v.2.2.1≤b:=by
 cases h with
 | yes i hb' h hno=>
  have:=List.getElem?_eq_none_iff.1 h;simp only;omega
 | no i q hb' h hh hno=>simp only;omega
 | limit _ _=>simp only;omega
theorem lenB_sub {α:Type} [DecidableEq α]:∀{l K:List α},l.Nodup→(∀x∈l,x∈K)→l.length≤K.length
 | [],_,_,_=>Nat.zero_le _
 | x::l,K,hn,hs=>by
  rw [List.nodup_cons] at hn;have hx:=hs x (by simp);have:=lenB_sub (K:=K.erase x) hn.2 fun y hy=>(List.mem_erase_of_ne (fun e=>hn.1 (by rw [← e];exact hy))).2 (hs y (by simp [hy]));rw [List.length_erase_of_mem hx] at this;have:=List.length_pos_iff.2 (List.ne_nil_of_mem hx);rw [List.length_cons];omega
theorem OutB.room {S:Sch T} {b:Int} {v:Int × List Int × Int × Option T} (h:OutB S b v) {K:List T} (hK:∀i q,q∈zc4 S i→q.1∈K) (hl:K.length≤b.toNat):v.1≠3:=by
 cases h with
 | yes i hb' h hno=>simp
 | no i q hb' h hh hno=>simp
 | limit hl' hno=>
  exfalso;obtain ⟨q,hq⟩:=hl';have h1:=(List.getElem?_eq_some_iff.1 hq).1;have h2:((zc4 S b.toNat).map (·.1)).length≤K.length:=lenB_sub (zgx S b.toNat).nd fun x hx=>by
   obtain ⟨q,hq,rfl⟩:=List.mem_map.1 hx;exact hK _ q hq
  rw [List.length_map] at h2;omega
inductive Rn (step:T→Int→T→Prop) (s0:T):List Int→T→Prop
 | nil:Rn step s0 [] s0
 | snoc {w:List Int} {x:T} {c:Int} {y:T} (h:Rn step s0 w x) (hs:step x c y):Rn step s0 (w++[c]) y
theorem accB_rn {S:Sch T} {step:T→Int→T→Prop} (hs:∀x c y,(c,y)∈S.ways x→step x c y) (i:Nat):∀(j:Nat) (q:Qb T),(zc4 S i)[j]?=some q→Rn step S.start q.2.2.2 q.1:=by
 intro j
 induction j using Nat.strongRecOn with
 | ind j ih=>
  intro q hq;rcases (zgx S i).par j q hq with ⟨_,rfl⟩ | ⟨p,q',_,h2,h3,h4,h5⟩
  ·exact .nil
  ·rw [h4];exact .snoc (ih p h2 q' h3) (hs _ _ _ h5)
theorem stB_mem {i:Nat} {w:List Int} {acc:List (Qb T)} {e:Int × T}:∀q∈stB i w acc e,q∈acc∨q=(e.2,(i:Int),e.1,w++[e.1]):=fun q hq=>by
 unfold stB at hq;split at hq
 ·exact .inl hq
 ·exact (List.mem_append.1 hq).imp id fun h=>List.mem_singleton.1 h
theorem foldB_mem {i:Nat} {w:List Int}:∀(es:List (Int × T)) (acc:List (Qb T)),∀q∈es.foldl (stB i w) acc,q∈acc∨∃e∈es,q=(e.2,(i:Int),e.1,w++[e.1])
 | [],acc,q,hq=>.inl hq
 | e::es,acc,q,hq=>by
  rcases foldB_mem es _ q hq with h | ⟨e',h1,h2⟩
  ·rcases stB_mem q h with h | h
   ·exact .inl h
   ·exact .inr ⟨e,by simp,h⟩
  ·exact .inr ⟨e',by simp [h1],h2⟩
theorem stB_has {i:Nat} {w:List Int} {acc:List (Qb T)} {e:Int × T}:hasQ (stB i w acc e) e.2=true:=by
 unfold stB;split
 ·assumption
 ·rw [hasQ_app];simp
theorem hasQ_pre {a b:List (Qb T)} (h:a <+: b) {x:T} (hx:hasQ a x=true):hasQ b x=true:=by
 obtain ⟨q,h1,h2⟩:=zll.1 hx;exact zll.2 ⟨q,h.subset h1,h2⟩
theorem foldB_has {i:Nat} {w:List Int}:∀(es:List (Int × T)) (acc:List (Qb T)),∀e∈es,hasQ (es.foldl (stB i w) acc) e.2=true
 | [],_,e,h=>by cases h
 | e'::es,acc,e,h=>by
  rcases List.mem_cons.1 h with rfl | h
  ·exact hasQ_pre (foldB_pre i w es _) stB_has
  ·exact foldB_has es _ e h
theorem zj1 (S:Sch T):∀(i:Nat),∀q∈zc4 S i,q=(S.start, -1,0,[])∨∃(p:Nat) (q':Qb T),p<i∧(zc4 S i)[p]?=some q'∧q.2.2.2=q'.2.2.2++[q.2.2.1]∧(q.2.2.1,q.1)∈S.ways q'.1
 | 0,q,hq=>.inl (by simpa [zc4] using hq)
 | i+1,q,hq=>by
  have lift:(q=(S.start, -1,0,[])∨∃(p:Nat) (q':Qb T),p<i∧(zc4 S i)[p]?=some q'∧q.2.2.2=q'.2.2.2++[q.2.2.1]∧(q.2.2.1,q.1)∈S.ways q'.1)→(q=(S.start, -1,0,[])∨∃(p:Nat) (q':Qb T),p<i+1∧(zc4 S (i+1))[p]?=some q'∧q.2.2.2=q'.2.2.2++[q.2.2.1]∧(q.2.2.1,q.1)∈S.ways q'.1):=fun h=>h.imp id fun ⟨p,q',h1,h2,h3⟩=>⟨p,q',by omega,zep (zgv S i) h2,h3⟩;cases hi:(zc4 S i)[i]? with
  | none=>
   rw [zj2 hi] at hq;exact lift (zj1 S i q hq)
  | some q0=>
   have hq':=hq;rw [zgw hi] at hq';rcases foldB_mem _ _ q hq' with h | ⟨e,h1,h2⟩
   ·exact lift (zj1 S i q h)
   ·exact .inr ⟨i,q0,by omega,zep (zgv S i) hi,by rw [h2],by rw [h2];exact h1⟩
theorem zil (S:Sch T):∀(i:Nat),(∀(j m:Nat) (q q':Qb T),j≤m→(zc4 S i)[j]?=some q→(zc4 S i)[m]?=some q'→q.2.2.2.length≤q'.2.2.2.length)∧(∀q0,(zc4 S i)[i]?=some q0→∀q∈zc4 S i,q.2.2.2.length≤q0.2.2.2.length+1)
 | 0=>by
  refine ⟨fun j m q q' hjm hq hq'=>?_,fun q0 h0 q hq=>?_⟩
  ·have h1:=List.mem_of_getElem? hq;simp [zc4] at h1;rw [h1];simp
  ·simp [zc4] at hq;rw [hq];simp
 | i+1=>by
  obtain ⟨ih1,ih2⟩:=zil S i;have key:∀(j m:Nat) (q q':Qb T),j≤m→(zc4 S (i+1))[j]?=some q→(zc4 S (i+1))[m]?=some q'→q.2.2.2.length≤q'.2.2.2.length:=by
   cases hi:(zc4 S i)[i]? with
   | none=>rw [zj2 hi];exact ih1
   | some q0=>
    have bd:=ih2 q0 hi;have gen:∀(es:List (Int × T)) (acc:List (Qb T)),(∀(j m:Nat) (q q':Qb T),j≤m→acc[j]?=some q→acc[m]?=some q'→q.2.2.2.length≤q'.2.2.2.length)→(∀q∈acc,q.2.2.2.length≤q0.2.2.2.length+1)→(∀(j m:Nat) (q q':Qb T),j≤m→(es.foldl (stB i q0.2.2.2) acc)[j]?=some q→(es.foldl (stB i q0.2.2.2) acc)[m]?=some q'→q.2.2.2.length≤q'.2.2.2.length):=by
     intro es
     induction es with
     | nil=>intro acc h _;exact h
     | cons e es ih=>
      intro acc h1 h2;refine ih _ (fun j m q q' hjm hq hq'=>?_) fun q hq=>?_
      ·unfold stB at hq hq';split at hq
       ·rename_i hh
        rw [if_pos hh] at hq';exact h1 j m q q' hjm hq hq'
       ·rename_i hh
        rw [if_neg hh] at hq'
        by_cases hm:m<acc.length
        ·rw [List.getElem?_append_left hm] at hq';rw [List.getElem?_append_left (by omega)] at hq;exact h1 j m q q' hjm hq hq'
        ·have hml:=(List.getElem?_eq_some_iff.1 hq').1;simp at hml;have em:m=acc.length:=by omega
         subst em;rw [List.getElem?_append_right (Nat.le_refl _)] at hq';simp at hq';subst hq';have:=stB_mem (i:=i) (w:=q0.2.2.2) (acc:=acc) (e:=e) q (by unfold stB;rw [if_neg hh];exact List.mem_of_getElem? hq);rcases this with h | h
         ·have:=h2 q h;simp;omega
         ·rw [h];simp
      ·rcases stB_mem q hq with h | h
       ·exact h2 q h
       ·rw [h];simp
    rw [zgw hi];exact gen _ _ ih1 bd
  refine ⟨key,fun q0 h0 q hq=>?_⟩;rcases zj1 S (i+1) q hq with h | ⟨p,q',h1,h2,h3,_⟩
  ·rw [h];simp
  ·have:=key p (i+1) q' q0 (by omega) h2 h0;rw [h3];simp;omega
theorem accB_done (S:Sch T) {i j:Nat} {q:Qb T} (hj:j<i) (hq:(zc4 S i)[j]?=some q) {e:Int × T} (he:e∈S.ways q.1):∃(m:Nat) (q':Qb T),(zc4 S i)[m]?=some q'∧q'.1=e.2∧q'.2.2.2.length≤q.2.2.2.length+1:=by
 have hq0:(zc4 S j)[j]?=some q:=by rw [← zh4 (Nat.le_of_lt hj)];exact hq
 have h1:hasQ (zc4 S (j+1)) e.2=true:=by rw [zgw hq0];exact foldB_has _ _ e he
 obtain ⟨q',h2,h3⟩:=zll.1 h1;obtain ⟨m,hm⟩:=List.getElem?_of_mem h2;refine ⟨m,q',zep (zp4 S hj) hm,h3, ?_⟩;rcases zj1 S (j+1) q' h2 with h | ⟨p,q2,k1,k2,k3,_⟩
 ·rw [h];simp
 ·have:=(zil S (j+1)).1 p j q2 q (by omega) k2 (zep (zgv S j) hq0);rw [k3];simp;omega
theorem cov_short {S:Sch T} {step:T→Int→T→Prop} {B:Int→Prop} {i:Nat} (hc:∀q∈zc4 S i,∀c y,B c→step q.1 c y→∃b,(b,y)∈S.ways q.1) {w:List Int} {y:T} (h:Rn step S.start w y) (hw:∀c∈w,B c):
  (∃(m:Nat) (q:Qb T),(zc4 S i)[m]?=some q∧q.1=y∧q.2.2.2.length≤w.length)∨∃(k:Nat) (q:Qb T),i≤k∧(zc4 S i)[k]?=some q∧q.2.2.2.length<w.length:=by
 induction h with
 | nil=>
  left;have:(zc4 S 0)[0]?=some (S.start, -1,0,[]):=rfl;exact ⟨0,_,zep (zp4 S (Nat.zero_le i)) this,rfl,Nat.le_refl _⟩
 | snoc h hs ih=>
  rename_i w x c y
  rcases ih fun c hc=>hw c (by simp [hc]) with ⟨m,q,h1,h2,h3⟩ | ⟨k,q,h1,h2,h3⟩
  ·by_cases hm:m<i
   ·rw [← h2] at hs;obtain ⟨b,hb⟩:=hc q (List.mem_of_getElem? h1) c y (hw c (by simp)) hs;obtain ⟨m',q',k1,k2,k3⟩:=accB_done S hm h1 hb;exact .inl ⟨m',q',k1,k2,by simp;omega⟩
   ·exact .inr ⟨m,q,by omega,h1,by simp;omega⟩
  ·exact .inr ⟨k,q,h1,h2,by simp;omega⟩
theorem OutB.tells {S:Sch T} {step:T→Int→T→Prop} {B:Int→Prop} {b:Int} {v:Int × List Int × Int × Option T} (h:OutB S b v) (hs:∀x c y,(c,y)∈S.ways x→step x c y)
  (hc:∀i:Nat,(i:Int)≤b∨i=0→∀q∈zc4 S i,∀c y,B c→step q.1 c y→∃d,(d,y)∈S.ways q.1):
  (v.1=1→v.2.1=[]∧∀w y,(∀c∈w,B c)→Rn step S.start w y→S.hit y=false)∧(v.1=2→∃x,v.2.2.2=some x∧S.hit x=true∧Rn step S.start v.2.1 x∧∀w y,(∀c∈w,B c)→Rn step S.start w y→S.hit y=true→v.2.1.length≤w.length)∧(v.1=1∨v.1=2∨v.1=3):=by
 cases h with
 | limit _ _=>exact ⟨(fun h=>by simp at h),(fun h=>by simp at h),.inr (.inr rfl)⟩
 | yes i hb h hno=>
  refine ⟨fun _=>⟨rfl,fun w y hw hr=>?_⟩,(fun h=>by simp at h),.inl rfl⟩;have hl:=List.getElem?_eq_none_iff.1 h;rcases cov_short (hc i (by omega)) hr hw with ⟨m,q,h1,h2,_⟩ | ⟨k,q,h1,h2,_⟩
  ·have:=(List.getElem?_eq_some_iff.1 h1).1;rw [← h2];exact hno m q (by omega) h1
  ·have:=(List.getElem?_eq_some_iff.1 h2).1;omega
 | no i q hb h hh hno=>
  refine ⟨(fun h=>by simp at h),fun _=>⟨q.1,rfl,hh,accB_rn hs i i q h,fun w y hw hr hy=>?_⟩,.inr (.inl rfl)⟩;rcases cov_short (hc i (by omega)) hr hw with ⟨m,q',h1,h2,h3⟩ | ⟨k,q',h1,h2,h3⟩
  ·have hm:i≤m:=by
    rcases Nat.lt_or_ge m i with hm | hm
    ·have:=hno m q' hm h1;rw [h2,hy] at this;cases this
    ·exact hm
   have:=(zil S i).1 i m q q' hm h h1;simp only;omega
  ·have:=(zil S i).1 i k q q' h1 h h2;simp only;omega
end
end Go.Proofs.YtkbboemafklkkaaGreatDoor.V
namespace Go.Proofs.YtkbboemafklkkaaGreatDoor.V
open Go
set_option linter.unusedVariables false
abbrev TS:=List (List SItem)
theorem bytS_u8 {d:List SNode} {l:TS} {c:Int} (h:c∈bytS d l):InR .u8 c:=bytC_u8 h
def zfe (l:List Int) (x:Int):Int:=if 0≤x∧x<(l.length:Int) then (at? l x).getD 0 else 0
def znt (e:SNode) (a b:Int):Int:=if e.1=7 then (1+max 0 (min e.2.2.2.2.1 1000))*a else if e.1=6∨e.1=8∨e.1=9 then a+1 else if e.1=4∨e.1=5 then a+b else if e.1=3 then 1+min (e.2.2.2.2.2.2.length:Int) 1000 else 1
def wl (d:List SNode):Nat→List Int
 | 0=>[]
 | i+1=>match d[i]? with
  | none=>wl d i
  | some e=>wl d i++[min (znt e (zfe (wl d i) e.2.1) (zfe (wl d i) e.2.2.1)) 1000]
theorem zj7 {d:List SNode} {i:Nat} (hi:i<d.length):wl d (i+1)=wl d i++[min (znt d[i] (zfe (wl d i) d[i].2.1) (zfe (wl d i) d[i].2.2.1)) 1000]:=by
 show (match d[i]? with | none=>wl d i | some e=>wl d i++[min (znt e (zfe (wl d i) e.2.1) (zfe (wl d i) e.2.2.1)) 1000])=_;rw [List.getElem?_eq_getElem hi]
theorem zns {d:List SNode}:∀{i:Nat},i≤d.length→(wl d i).length=i
 | 0,_=>rfl
 | i+1,h=>by rw [zj7 (by omega),List.length_append,zns (by omega)];rfl
theorem mul_few {x a:Int} (hx:0≤x∧x≤1001) (ha:0≤a∧a≤1000):0≤x*a∧x*a≤1001000:=by
 refine ⟨Int.mul_nonneg hx.1 ha.1, ?_⟩;have:=Int.mul_le_mul hx.2 ha.2 ha.1 (by omega);omega
theorem wgt1_ok {e:SNode} {a b:Int} (ha:0≤a∧a≤1000) (hb:0≤b∧b≤1000):0≤znt e a b:=by
 unfold znt;split
 ·exact (mul_few (by omega) ha).1
 ·split
  ·omega
  ·split
   ·omega
   ·split <;> omega
theorem zhv {l:List Int} (h:∀x∈l,0≤x∧x≤1000) (x:Int):0≤zfe l x∧zfe l x≤1000:=by
 unfold zfe;split
 ·rename_i hx
  obtain ⟨y,hy,hm⟩:=znq hx.1 hx.2;rw [hy];exact h y hm
 ·omega
theorem wl_ok {d:List SNode}:∀{i:Nat},i≤d.length→∀x∈wl d i,0≤x∧x≤1000
 | 0,_,x,hx=>by cases hx
 | i+1,h,x,hx=>by
  have ih:=wl_ok (d:=d) (i:=i) (by omega);rw [zj7 (by omega)] at hx;rcases List.mem_append.1 hx with hx | hx
  ·exact ih x hx
  ·rw [List.mem_singleton.1 hx];have:=wgt1_ok (e:=d[i]) (zhv ih d[i].2.1) (zhv ih d[i].2.2.1);omega
theorem w7 {L1:List Int→Int→Prop} {l:List Int} {i:Int} {e:SNode} {a:Int} (hl:l.length≤1000) (hi:0≤i∧i≤1000) (ha:0≤a∧a≤1000) (hb:0≤zfe l e.2.2.1∧zfe l e.2.2.1≤1000) (h:L1 (l++[min (znt e a (zfe l e.2.2.1)) 1000]) (i+1)):zj.j7 L1 l i e a:=by
 have e2:∀w,w=znt e a (zfe l e.2.2.1)→zj.j2 L1 l i w:=fun w hw=>by
  subst hw;exact ⟨by simp;omega,zh (by omega) (by omega),h⟩
 have e3:∀w,e.1=7∨w=znt e a (zfe l e.2.2.1)→zj.j3 L1 l i e a w:=fun w hw=>by
  refine ⟨fun h7=>?_,fun h7=>e2 w (hw.resolve_left (by simpa using h7))⟩;have h7:e.1=7:=by simpa using h7
  have:=mul_few (x:=1+max 0 (min e.2.2.2.2.1 1000)) (by omega) ha;exact ⟨zh (by omega) (by omega),zh (by omega) (by omega),e2 _ (by unfold znt;rw [if_pos h7])⟩
 have e4:∀w,e.1=7∨(e.1=6∨e.1=8∨e.1=9)∨w=znt e a (zfe l e.2.2.1)→zj.j4 L1 l i e a w:=fun w hw=>by
  refine ⟨fun h6=>⟨zh (by omega) (by omega),e3 _ ?_⟩,fun h6=>e3 w ?_⟩
  ·have h6:e.1=6∨e.1=8∨e.1=9:=by simpa [or_assoc] using h6
   refine .inr ?_;unfold znt;rw [if_neg (by omega),if_pos h6]
  ·have h6:¬ (e.1=6∨e.1=8∨e.1=9):=by simpa [or_assoc,and_assoc] using h6
   exact hw.imp id fun h=>h.resolve_left h6
 have e5:∀w,e.1=7∨(e.1=6∨e.1=8∨e.1=9)∨(e.1=4∨e.1=5)∨w=znt e a (zfe l e.2.2.1)→zj.j5 L1 l i e a (zfe l e.2.2.1) w:=fun w hw=>by
  refine ⟨fun h4=>⟨zh (by omega) (by omega),e4 _ ?_⟩,fun h4=>e4 w ?_⟩
  ·have h4:e.1=4∨e.1=5:=by simpa using h4
   refine .inr (.inr ?_);unfold znt;rw [if_neg (by omega),if_neg (by omega),if_pos h4]
  ·have h4:¬ (e.1=4∨e.1=5):=by simpa using h4
   exact hw.imp id fun h=>h.imp id fun h=>h.resolve_left h4
 have e6:zj.j6 L1 l i e a (zfe l e.2.2.1):=by
  refine ⟨fun h3=>⟨zh (by omega) (by omega),e5 _ ?_⟩,fun h3=>e5 1 ?_⟩
  ·have h3:e.1=3:=by simpa using h3
   refine .inr (.inr (.inr ?_));unfold znt;rw [if_neg (by omega),if_neg (by omega),if_neg (by omega),if_pos h3]
  ·have h3:¬ e.1=3:=by simpa using h3
   by_cases k7:e.1=7
   ·exact .inl k7
   by_cases k6:e.1=6∨e.1=8∨e.1=9
   ·exact .inr (.inl k6)
   by_cases k4:e.1=4∨e.1=5
   ·exact .inr (.inr (.inl k4))
   refine .inr (.inr (.inr ?_));unfold znt;rw [if_neg k7,if_neg k6,if_neg k4,if_neg h3]
 refine ⟨_,rfl,fun hc=>?_,fun hc=>?_⟩
 ·simp only [Bool.and_eq_true,decide_eq_true_eq] at hc;obtain ⟨y,hy,_⟩:=znq hc.1 hc.2;have:zfe l e.2.2.1=y:=by unfold zfe;rw [if_pos hc,hy];rfl
  rw [this] at e6;exact ⟨y,hy,e6⟩
 ·have:zfe l e.2.2.1=0:=by
   unfold zfe;rw [if_neg];simp only [Bool.and_eq_false_iff,decide_eq_false_iff_not] at hc;omega
  rw [this] at e6;exact e6
theorem zl7 {d:List SNode} (hl:d.length≤100):zj d (if d.length=0 then 0 else zfe (wl d d.length) ((d.length:Int)-1)):=by
 refine zhk (P:=fun k l v=>zj.l1 d _ k l v) d.length (fun i l=>l=wl d i) ?_ ?_ [] rfl
 ·rintro i l hi rfl;have hlen:=zns (d:=d) (i:=i) (by omega);have hok:=wl_ok (d:=d) (i:=i) (by omega);refine .inr ⟨_,(zj7 hi).symm,fun k hk=>⟨_,rfl,fun _=>⟨_,zff hi,_,rfl,fun hc=>?_,fun hc=>?_⟩,fun hc=>?_⟩⟩
  ·simp only [Bool.and_eq_true,decide_eq_true_eq] at hc;obtain ⟨y,hy,hm⟩:=znq hc.1 hc.2;have e:zfe (wl d i) d[i].2.1=y:=by unfold zfe;rw [if_pos hc,hy];rfl
   rw [e] at hk;exact ⟨y,hy,w7 (by omega) (by omega) (hok y hm) (zhv hok _) hk⟩
  ·have e:zfe (wl d i) d[i].2.1=0:=by
    unfold zfe;rw [if_neg];simp only [Bool.and_eq_false_iff,decide_eq_false_iff_not] at hc;omega
   rw [e] at hk;exact w7 (by omega) (by omega) (by omega) (zhv hok _) hk
  ·exfalso;simp only [Bool.and_eq_false_iff,decide_eq_false_iff_not] at hc;omega
 ·rintro l rfl k;have hlen:=zns (d:=d) (i:=d.length) (Nat.le_refl _);refine ⟨_,rfl,fun hc=>?_,fun _=>⟨fun h=>?_,fun h=>?_⟩⟩
  ·exfalso;simp only [Bool.and_eq_true,decide_eq_true_eq] at hc;omega
  ·rw [hlen] at h;rw [if_pos (by have:=eq_of_beq h;omega)]
  ·rw [hlen] at h;have hp:d.length≠0:=by have:=beq_eq_false_iff_ne.1 h;omega
   obtain ⟨y,hy,_⟩:=znq (xs:=wl d d.length) (i:=(d.length:Int)-1) (by omega) (by omega);refine ⟨zh (by omega) (by omega),y,by rw [hlen];exact hy, ?_⟩;rw [if_neg hp];unfold zfe;rw [if_pos (by omega),hy];rfl
theorem wl_pre {d:List SNode} {i:Nat}:∀{j:Nat},i≤j→j≤d.length→wl d i <+: wl d j
 | 0,h,_=>by rw [Nat.le_zero.1 h];exact List.prefix_refl _
 | j+1,h,hj=>by
  rcases Nat.lt_or_eq_of_le h with h1 | h1
  ·rw [zj7 (by omega)];exact (wl_pre (Nat.le_of_lt_succ h1) (by omega)).trans (List.prefix_append _ _)
  ·rw [h1];exact List.prefix_refl _
theorem zlk {d:List SNode} {i:Nat} (hi:i≤d.length) {x:Int} (h0:0≤x) (h1:x<(i:Int)):zfe (wl d i) x=zfe (wl d d.length) x:=by
 have l1:=zns (d:=d) hi;have l2:=zns (d:=d) (i:=d.length) (Nat.le_refl _);obtain ⟨m,rfl⟩:∃m:Nat,x=m:=⟨x.toNat,by omega⟩;unfold zfe;rw [if_pos (by omega),if_pos (by omega),zbq,zbq];obtain ⟨r,hr⟩:=wl_pre (d:=d) hi (Nat.le_refl _);rw [← hr,List.getElem?_append_left (by omega)]
theorem look_at {d:List SNode} {i:Int} {e:SNode} (he:at? d i=some e):zfe (wl d d.length) i=min (znt e (zfe (wl d i.toNat) e.2.1) (zfe (wl d i.toNat) e.2.2.1)) 1000:=by
 obtain ⟨h0,h1⟩:=zbr he;obtain ⟨m,rfl⟩:∃m:Nat,i=m:=⟨i.toNat,by omega⟩;have hm:m<d.length:=by omega
 have he':d[m]=e:=by
  rw [zbq,List.getElem?_eq_getElem hm] at he;exact Option.some.inj he
 rw [← zlk (d:=d) (i:=m+1) (by omega) (by omega) (by omega)];have l1:=zns (d:=d) (i:=m) (by omega);unfold zfe;rw [if_pos (by rw [zj7 hm,List.length_append,l1];simp;omega),zbq,zj7 hm,List.getElem?_append_right (by omega),l1,Nat.sub_self,he'];simp [zfe]
theorem sz_wgt {d:List SNode} (hn:∀n∈d,n.1≠8∧n.1≠9) {f i:Int} (h:Tr d f i):∀k,zfe (wl d d.length) i<1000→((szN d k i:Nat):Int)≤zfe (wl d d.length) i:=by
 have hok:∀x,0≤zfe (wl d d.length) x∧zfe (wl d d.length) x≤1000:=fun x=>zhv (wl_ok (Nat.le_refl _)) x;have hs:∀{i:Int} {e:SNode} (k:Nat),at? d i=some e→szN d (k+1) i=if e.1=2 then 1 else if e.1=3 then e.2.2.2.2.2.2.length else if e.1=4∨e.1=5 then szN d k e.2.1+szN d k e.2.2.1 else if e.1=6 then szN d k e.2.1 else if e.1=7 then e.2.2.2.2.1.toNat*szN d k e.2.1 else 0:=fun {i e} k he=>by
  simp only [szN,he]
 induction h with
 | leaf he hk hx h0=>
  rename_i i e
  intro k hlt;have hl:=look_at he;rw [hl] at hlt ⊢;cases k with
  | zero=>have:=wgt1_ok (e:=e) (zhv (wl_ok (d:=d) (i:=i.toNat) (by have:=zbr he;omega)) e.2.1) (zhv (wl_ok (d:=d) (i:=i.toNat) (by have:=zbr he;omega)) e.2.2.1);show (0:Int)≤_;omega
  | succ k=>
   rw [hs k he];unfold znt at hlt ⊢;rcases hk with k1 | k1 | k1
   ·simp only [k1] at hlt ⊢;simp;try omega
   ·simp only [k1] at hlt ⊢;simp;try omega
   ·simp only [k1] at hlt ⊢;simp at hlt ⊢;omega
 | one he hk ha hb hr h ih=>
  rename_i f i e
  intro k hlt;have hle:=h.le;have hbd:=zbr he;have hl:=look_at he;rw [ha,zlk (i:=i.toNat) (by omega) (by omega) (by omega)] at hl;have hA:=hok (i-1);have hw:=wgt1_ok (e:=e) (a:=zfe (wl d d.length) (i-1)) hA (zhv (wl_ok (d:=d) (i:=i.toNat) (by omega)) e.2.2.1);rw [hl] at hlt ⊢;cases k with
  | zero=>show (0:Int)≤_;omega
  | succ k=>
   rw [hs k he,ha];have ih:=ih k;unfold znt at hlt ⊢;rcases hk with k1 | k1 | k1 | k1
   ·simp only [k1] at hlt ⊢;simp at hlt ⊢;have:=ih (by omega);omega
   ·have hr:=hr k1;simp only [k1] at hlt ⊢;simp only [show ¬ ((7:Int)=2) by decide,show ¬ ((7:Int)=3) by decide,show ¬ ((7:Int)=4∨(7:Int)=5) by decide,show ¬ ((7:Int)=6) by decide,if_false,if_true] at hlt ⊢;have hx:1+max 0 (min e.2.2.2.2.1 1000)=1+e.2.2.2.2.1:=by omega
    rw [hx] at hlt ⊢;have hA2:zfe (wl d d.length) (i-1)<1000:=by
     rcases Int.lt_or_le (zfe (wl d d.length) (i-1)) 1000 with h | h
     ·exact h
     ·have h2:zfe (wl d d.length) (i-1)≤(1+e.2.2.2.2.1)*zfe (wl d d.length) (i-1):=by
       have:=Int.mul_le_mul_of_nonneg_right (show (1:Int)≤1+e.2.2.2.2.1 by omega) hA.1;omega
      omega
    have ih:=ih hA2;have e1:(((e.2.2.2.2.1.toNat*szN d k (i-1):Nat)):Int)=e.2.2.2.2.1*(szN d k (i-1):Int):=by
     rw [Int.natCast_mul,Int.toNat_of_nonneg (by omega)]
    rw [e1];have h3:e.2.2.2.2.1*(szN d k (i-1):Int)≤(1+e.2.2.2.2.1)*zfe (wl d d.length) (i-1):=Int.mul_le_mul (by omega) ih (by omega) (by omega);omega
   ·exact absurd k1 (hn _ (at_mem he)).1
   ·exact absurd k1 (hn _ (at_mem he)).2
 | two he hk ha hb h1 h2 i1 i2=>
  rename_i f p i e
  intro k hlt;have l1:=h1.le;have l2:=h2.le;have hbd:=zbr he;have hl:=look_at he;rw [ha,hb,zlk (i:=i.toNat) (by omega) (by omega) (by omega),zlk (i:=i.toNat) (by omega) (by omega) (by omega)] at hl;have hA:=hok (p-1);have hB:=hok (i-1);rw [hl] at hlt ⊢;have hw:znt e (zfe (wl d d.length) (p-1)) (zfe (wl d d.length) (i-1))=zfe (wl d d.length) (p-1)+zfe (wl d d.length) (i-1):=by
   unfold znt;rw [if_neg (by omega),if_neg (by omega),if_pos hk]
  rw [hw] at hlt ⊢;cases k with
  | zero=>show (0:Int)≤_;omega
  | succ k=>
   rw [hs k he,ha,hb,if_neg (by omega),if_neg (by omega),if_pos hk];have j1:=i1 k (by omega);have j2:=i2 k (by omega);rw [Int.natCast_add];omega
theorem Heavy_ex {d:List SNode} (hl:d.length≤1000):∃r,zbu d r∧(r=false→∀n∈d,n.1≠8∧n.1≠9):=by
 rcases Classical.em (∀n∈d,n.1≠8∧n.1≠9) with hn | hn
 ·refine ⟨false, ?_,fun _=>hn⟩;refine zhk (P:=fun k (_:Unit) v=>zbu.l1 d false _ k v) d.length (fun _ _=>True) ?_ ?_ () trivial
  ·intro i _ hi _;have:=hn _ (List.getElem_mem hi);refine .inr ⟨(),trivial,fun k hk=>⟨fun _=>⟨_,zff hi,_,fun _=>zff hi,fun h=>?_,fun _=>⟨zh (by omega) (by omega),hk⟩⟩,fun h=>absurd (by omega) (df h)⟩⟩;simp [this.1,this.2] at h
  ·intro _ _ k;exact ⟨fun h=>absurd (dt h) (by omega),fun _=>rfl⟩
 ·refine ⟨true, ?_,(fun h=>by cases h)⟩;refine zhk (P:=fun k (_:Unit) v=>zbu.l1 d true _ k v) d.length (fun i _=>∀n∈d.take i,n.1≠8∧n.1≠9) ?_ ?_ () (by simp)
  ·intro i _ hi hI
   by_cases hb:d[i].1=8∨d[i].1=9
   ·exact .inl fun k=>⟨fun _=>⟨_,zff hi,_,fun _=>zff hi,fun _=>rfl,fun h=>by
     rcases hb with hb | hb <;> simp [hb] at h⟩,fun h=>absurd (by omega) (df h)⟩
   ·refine .inr ⟨(),fun n hnm=>?_,fun k hk=>⟨fun _=>⟨_,zff hi,_,fun _=>zff hi,fun _=>rfl,fun _=>⟨zh (by omega) (by omega),hk⟩⟩,fun h=>absurd (by omega) (df h)⟩⟩;rw [List.take_succ_eq_append_getElem hi,List.mem_append,List.mem_singleton] at hnm;rcases hnm with h | rfl
    ·exact hI n h
    ·omega
  ·intro _ hI k;rw [List.take_length] at hI;exact absurd hI hn
theorem Light_ex {d e:List SNode} (hl:d.length≤1000) (hm:e.length≤1000) (b:Int):∃r,zfu d e b r∧(r=true→b≤10∨(∀n∈d,n.1≠8∧n.1≠9)∧∀n∈e,n.1≠8∧n.1≠9):=by
 obtain ⟨r,h1,h2⟩:=Heavy_ex hl;obtain ⟨s,k1,k2⟩:=Heavy_ex hm;refine ⟨_,⟨r,fun _=>h1,s,fun _=>k1,rfl⟩,fun h=>?_⟩;simp only [Bool.or_eq_true,decide_eq_true_eq,Bool.and_eq_true,Bool.not_eq_true'] at h;exact h.imp id fun h=>⟨h2 h.1,k2 h.2⟩
structure FewD (d:List SNode):Prop where
 rt:Rt d
 len:d.length≤16
 sz:(∀n∈d,n.1≠8∧n.1≠9)→szN d d.length ((d.length:Int)-1)≤60
def FewB (d:List SNode) (r:Bool):Prop:=∃r1:Bool,zcs d r1∧∃r3:Int,((((r1&&(decide ((d.length:Int)≤16))))=true)→zj d r3)∧∃b5:Bool,b5=((r1&&(decide ((d.length:Int)≤16)))&&(decide (r3≤60)))∧∃r7:Bool,(((b5)=true)→zft d r7)∧r=(b5&&r7)
theorem few_of {d:List SNode} (ht:Txt d):∃r,FewB d r∧(r=true→FewD d):=by
 obtain ⟨r3,h3,h3b⟩:=few_ex ht;cases r3
 ·exact ⟨false,⟨false,h3,0,(fun h=>by simp at h),_,rfl,false,(fun h=>by simp at h),by simp⟩,(fun h=>by cases h)⟩
 ·have hl:=h3b rfl;have hw:=zl7 hl;obtain ⟨r9,h9,h9b⟩:=right_ok (d:=d) (by omega) ht;refine ⟨_,⟨true,h3,_,fun _=>hw,_,rfl,r9,fun _=>h9,rfl⟩,fun h=>?_⟩;simp only [Bool.true_and,Bool.and_eq_true,decide_eq_true_eq] at h;obtain ⟨⟨g1,g2⟩,g3⟩:=h;have hR:=h9b g3;refine ⟨hR,by omega,fun hn=>?_⟩;have hp:=List.length_pos_iff.2 hR.ne;rw [if_neg (by omega)] at g2;have:=sz_wgt hn hR.tr d.length (by omega);omega
theorem node7 {d:List SNode} (ht:Txt d) {f i:Int} (h:Tr d f i):∃v:Nat,v≤1099511627776∧(∀k,(i-f+1).toNat≤k→zq.n k d i (v:Int))∧(v<256→∀k,nf d k i=true∧szN d k i≤v):=by
 have hs:∀{i:Int} {e:SNode} (k:Nat),at? d i=some e→szN d (k+1) i=if e.1=2 then 1 else if e.1=3 then e.2.2.2.2.2.2.length else if e.1=4∨e.1=5 then szN d k e.2.1+szN d k e.2.2.1 else if e.1=6 then szN d k e.2.1 else if e.1=7 then e.2.2.2.2.1.toNat*szN d k e.2.1 else 0:=fun {i e} k he=>by
  simp only [szN,he]
 have hf:∀{i:Int} {e:SNode} (k:Nat),at? d i=some e→nf d (k+1) i=if e.1=8∨e.1=9 then false else if e.1=4∨e.1=5 then nf d k e.2.1&&nf d k e.2.2.1 else if e.1=6 then nf d k e.2.1 else if e.1=7 then decide (e.2.2.2.2.1≤0)||nf d k e.2.1 else true:=fun {i e} k he=>by
  simp only [nf,he]
 induction h with
 | leaf he hk hx h0=>
  rename_i i e
  have hte:=ht e (at_mem he);rcases hk with k1 | k1 | k1
  ·refine ⟨0,by omega,fun k hk=>?_,fun _ k=>?_⟩
   ·obtain ⟨k,rfl⟩:∃q,k=q+1:=⟨k-1,by omega⟩;refine ⟨e,he,fun h=>by simp [k1] at h,fun _=>?_⟩;simp [zq.j3,zq.j2,zq.j1,k1]
   ·cases k with
    | zero=>exact ⟨rfl,Nat.le_refl _⟩
    | succ k=>rw [hs k he,hf k he];simp [k1]
  ·refine ⟨1,by omega,fun k hk=>?_,fun _ k=>?_⟩
   ·obtain ⟨k,rfl⟩:∃q,k=q+1:=⟨k-1,by omega⟩;refine ⟨e,he,fun h=>by simp [k1] at h,fun _=>?_⟩;simp [zq.j3,zq.j2,zq.j1,k1]
   ·cases k with
    | zero=>exact ⟨rfl,by simp [szN]⟩
    | succ k=>rw [hs k he,hf k he];simp [k1]
  ·refine ⟨min e.2.2.2.2.2.2.length 1099511627776,by omega,fun k hk=>?_,fun hv k=>?_⟩
   ·obtain ⟨k,rfl⟩:∃q,k=q+1:=⟨k-1,by omega⟩;refine ⟨e,he,fun h=>by simp [k1] at h,fun _=>?_⟩;simp [zq.j3,zq.j2,zq.j1,k1,zcr];omega
   ·cases k with
    | zero=>exact ⟨rfl,by simp [szN]⟩
    | succ k=>rw [hs k he,hf k he];simp [k1];omega
 | one he hk ha hb hr h ih=>
  rename_i f i e
  have hle:=h.le;obtain ⟨v,hv,hn,ho⟩:=ih;rcases hk with k1 | k1 | k1 | k1
  ·refine ⟨v,hv,fun k hk=>?_,fun hv k=>?_⟩
   ·obtain ⟨k,rfl⟩:∃q,k=q+1:=⟨k-1,by omega⟩;refine ⟨e,he,fun _=>⟨_,by rw [ha];exact hn k (by omega), ?_⟩,fun h=>by simp [k1] at h⟩;simp [zq.j3,zq.j2,zq.j1,k1]
   ·cases k with
    | zero=>exact ⟨rfl,by simp [szN]⟩
    | succ k=>rw [hs k he,hf k he,ha];simp [k1];exact ho hv k
  ·have hr:=hr k1;obtain ⟨m,hm⟩:∃m:Nat,e.2.2.2.2.1=m:=⟨e.2.2.2.2.1.toNat,by omega⟩;have hm2:m≤255:=by omega
   have hmul:v*m≤1099511627776*255:=Nat.mul_le_mul hv hm2;refine ⟨min (v*m) 1099511627776,by omega,fun k hk=>?_,fun hlt k=>?_⟩
   ·obtain ⟨k,rfl⟩:∃q,k=q+1:=⟨k-1,by omega⟩;refine ⟨e,he,fun _=>⟨_,by rw [ha];exact hn k (by omega), ?_⟩,fun h=>by simp [k1] at h⟩;have e1:(v:Int)*e.2.2.2.2.1=((v*m:Nat):Int):=by rw [hm,Int.natCast_mul]
    simp [zq.j3,zq.j2,zq.j1,k1,zcr];rw [e1];exact ⟨zh (by omega) (by omega),by omega⟩
   ·cases k with
    | zero=>exact ⟨rfl,by simp [szN]⟩
    | succ k=>
     rw [hs k he,hf k he,ha];simp only [k1,show ¬ ((7:Int)=2) by decide,show ¬ ((7:Int)=3) by decide,show ¬ ((7:Int)=4∨(7:Int)=5) by decide,show ¬ ((7:Int)=6) by decide,show ¬ ((7:Int)=8∨(7:Int)=9) by decide,if_false,if_true];rcases Nat.eq_zero_or_pos m with h0 | h0
     ·subst h0;rw [hm];simp
     ·have hvm:v≤v*m:=Nat.le_mul_of_pos_right v h0;obtain ⟨o1,o2⟩:=ho (by omega) k;rw [hm,o1];refine ⟨by simp, ?_⟩;have:=Nat.mul_le_mul_left m o2;rw [Nat.mul_comm m v] at this;simp only [Int.toNat_natCast];omega
  ·obtain ⟨c,hc⟩:∃c,min (v+1) 1099511627776=c:=⟨_,rfl⟩;have hc1:1≤c∧c≤1099511627776:=by omega
   refine ⟨min (256*c) 1099511627776,Nat.min_le_right _ _,fun k hk=>?_,fun hlt k=>absurd hlt (Nat.not_lt.2 (Nat.le_min.2 ⟨Nat.le_mul_of_pos_right 256 hc1.1,by decide⟩))⟩;have hc2:min ((v:Int)+1) 1099511627776=(c:Int):=by
    rcases Nat.lt_or_ge v 1099511627776 with g | g
    ·rw [Nat.min_eq_left g] at hc;rw [← hc,Int.min_eq_left (by omega)];rfl
    ·rw [Nat.min_eq_right (Nat.le_succ_of_le g)] at hc;rw [← hc,Int.min_eq_right (by omega)];rfl
   obtain ⟨k,rfl⟩:∃q,k=q+1:=⟨k-1,by omega⟩;refine ⟨e,he,fun _=>⟨_,by rw [ha];exact hn k (by omega), ?_⟩,fun h=>by simp [k1] at h⟩;simp [zq.j3,zq.j2,zq.j1,k1,zcr];rw [hc2];exact ⟨zh (by omega) (by omega),zh (by omega) (by omega),by omega⟩
  ·obtain ⟨c,hc⟩:∃c,min (v+1) 1099511627776=c:=⟨_,rfl⟩;have hc1:1≤c∧c≤1099511627776:=by omega
   refine ⟨min (256+65536*c) 1099511627776,Nat.min_le_right _ _,fun k hk=>?_,fun hlt k=>absurd hlt (Nat.not_lt.2 (Nat.le_min.2 ⟨Nat.le_add_right _ _,by decide⟩))⟩;have hc2:min ((v:Int)+1) 1099511627776=(c:Int):=by
    rcases Nat.lt_or_ge v 1099511627776 with g | g
    ·rw [Nat.min_eq_left g] at hc;rw [← hc,Int.min_eq_left (by omega)];rfl
    ·rw [Nat.min_eq_right (Nat.le_succ_of_le g)] at hc;rw [← hc,Int.min_eq_right (by omega)];rfl
   obtain ⟨k,rfl⟩:∃q,k=q+1:=⟨k-1,by omega⟩;refine ⟨e,he,fun _=>⟨_,by rw [ha];exact hn k (by omega), ?_⟩,fun h=>by simp [k1] at h⟩;simp [zq.j3,zq.j2,zq.j1,k1,zcr];rw [hc2];exact ⟨zh (by omega) (by omega),zh (by omega) (by omega),zh (by omega) (by omega),by omega⟩
 | two he hk ha hb h1 h2 i1 i2=>
  rename_i f p i e
  have l1:=h1.le;have l2:=h2.le;obtain ⟨u,hu,nu,ou⟩:=i1;obtain ⟨v,hv,nv,ov⟩:=i2;refine ⟨min (v+u) 1099511627776,by omega,fun k hk2=>?_,fun hlt k=>?_⟩
  ·obtain ⟨k,rfl⟩:∃q,k=q+1:=⟨k-1,by omega⟩;refine ⟨e,he,fun _=>⟨_,by rw [ha];exact nv k (by omega), ?_⟩,fun h=>by rcases hk with k1 | k1 <;> simp [k1] at h⟩;have hb':=nu k (by omega);rw [← hb] at hb';refine ⟨fun _=>⟨_,hb', ?_⟩,fun h=>by rcases hk with k1 | k1 <;> simp [k1] at h⟩;rcases hk with k1 | k1
   ·simp [zq.j2,zq.j1,k1,zcr];exact ⟨zh (by omega) (by omega),by omega⟩
   ·simp [zq.j2,zq.j1,k1,zcr];exact ⟨zh (by omega) (by omega),by omega⟩
  ·cases k with
   | zero=>exact ⟨rfl,by simp [szN]⟩
   | succ k=>
    obtain ⟨o1,o2⟩:=ou (by omega) k;obtain ⟨o3,o4⟩:=ov (by omega) k;have g8:¬ (e.1=8∨e.1=9):=by omega
    have g2:¬ e.1=2:=by omega
    have g3:¬ e.1=3:=by omega
    have q1:=hs k he;have q2:=hf k he;rw [if_neg g2,if_neg g3,if_pos hk,ha,hb] at q1;rw [if_neg g8,if_pos hk,ha,hb,o1,o3] at q2;rw [q1,q2];exact ⟨rfl,by omega⟩
theorem of7 {d:List SNode} (h:Rt d) (hl:d.length≤1000) (ht:Txt d):∃n:Nat,1≤n∧n≤1099511627776∧zlg d (n:Int)∧(n≤100→NoFr d∧szN d d.length ((d.length:Int)-1)+1≤n):=by
 obtain ⟨v,hv,hn,ho⟩:=node7 ht h.tr;have hp:=List.length_pos_iff.2 h.ne;refine ⟨min (v+1) 1099511627776,by omega,by omega,⟨zh (by omega) (by omega),_,⟨_,hn d.length (by omega)⟩,zh (by omega) (by omega),_,rfl,by omega⟩,fun hlt=>?_⟩;obtain ⟨o1,o2⟩:=ho (by omega) d.length;exact ⟨o1,by omega⟩
theorem zng (n:Nat):zb7 (n:Int) (((4 ^ min n 31:Nat)):Int):=by
 have hp:∀i,i≤31→4 ^ i≤4611686018427387904:=fun i hi=>by
  have:=Nat.pow_le_pow_right (n:=4) (by decide) hi;exact Nat.le_trans this (by decide)
 refine zhk (P:=fun k b v=>zb7.l1 (n:Int) _ k b v) (min n 31) (fun i b=>b=((4 ^ i:Nat):Int)) ?_ ?_ 1 rfl
 ·rintro i b hi rfl;have h1:=hp (i+1) (by omega);have e:(4:Int)*((4 ^ i:Nat):Int)=((4 ^ (i+1):Nat):Int):=by
   rw [Nat.pow_succ,Nat.mul_comm,Int.natCast_mul];rfl
  refine .inr ⟨_,rfl,fun k hk=>⟨fun _=>?_,fun hc=>?_⟩⟩
  ·rw [e];generalize 4 ^ (i+1)=P at h1 hk ⊢;exact ⟨zh (by omega) (by omega),zh (by omega) (by omega),hk⟩
  ·exfalso;simp only [Bool.and_eq_false_iff,decide_eq_false_iff_not] at hc;omega
 ·rintro b rfl k;refine ⟨fun hc=>?_,fun _=>rfl⟩;exfalso;simp only [Bool.and_eq_true,decide_eq_true_eq] at hc;omega
theorem prod_len {α β:Type} (A:List α) (B:List β):(A.flatMap fun a=>B.map fun b=>(a,b)).length=A.length*B.length:=by
 induction A with
 | nil=>simp
 | cons a A ih=>rw [List.flatMap_cons,List.length_append,ih,List.length_map,List.length_cons,Nat.succ_mul];omega
section
variable {T U : Type} [DecidableEq T] [DecidableEq U]
end
section
variable {T : Type} [DecidableEq T]
theorem OutB.len {S:Sch T} {b:Int} {v:Int × List Int × Int × Option T} (h:OutB S b v):v.2.1.length≤b.toNat∧(v.1=2→(v.2.1.length:Int)<b):=by
 cases h with
 | yes i hb h hno=>simp
 | no i q hb h hh hno=>
  have:=(zgx S i).wlen i q h;simp only;omega
 | limit _ _=>simp
end
theorem zh0 {α β:Type} (f:α→List β) (m:Nat):∀l:List α,(∀s∈l,(f s).length≤m)→(l.flatMap f).length≤m*l.length
 | [],_=>by simp
 | s::l,h=>by
  have h1:=h s (by simp);have h2:=zh0 f m l fun u hu=>h u (by simp [hu]);rw [List.flatMap_cons,List.length_append,List.length_cons,Nat.mul_succ];omega
end Go.Proofs.YtkbboemafklkkaaGreatDoor.V
namespace Go.Proofs.YtkbboemafklkkaaGreatDoor.V
open Go
set_option linter.unusedVariables false
def wN (d:List SNode) (w:List Int):Nat:=nodeW d ((d.length:Int)-1) w
section
variable {k : Int} {a b : List SNode} (ha : Rt a) (hb : Rt b) {w : List Int} (hw : ∀ c ∈ w,InR .u8 c)
include ha hb hw
end
def dDead:List SNode:=[(2,0,0,0,0,(0#256),([]:Str))]
theorem dDead_rt:Rt dDead:=leaf_rt (.inr rfl) ⟨rfl,rfl⟩
end Go.Proofs.YtkbboemafklkkaaGreatDoor.V
namespace Go.Proofs.YtkbboemafklkkaaGreatDoor.V
open Go
set_option linter.unusedVariables false
instance decTW:DecidableEq TW:=@instDecidableEqProd (List SItem) (List SItem × Bool) inferInstance (@instDecidableEqProd (List SItem) Bool inferInstance inferInstance)
def Two {α:Type} [BEq α] (L:List α) (p q:α):Prop:=p∈L∧q∈L∧(p=q→2≤L.count p)
theorem Two.symm {α:Type} [BEq α] {L:List α} {p q:α} (h:Two L p q):Two L q p:=⟨h.2.1,h.1,fun e=>by rw [e];exact h.2.2 e.symm⟩
theorem Two.cons {α:Type} [BEq α] {L:List α} {p q:α} (x:α) (h:Two L p q):Two (x::L) p q:=⟨by simp [h.1],by simp [h.2.1],fun e=>by
 have:=h.2.2 e;rw [List.count_cons];omega⟩
section
variable {α β : Type} [BEq α] [LawfulBEq α] [BEq β] [LawfulBEq β]
omit [LawfulBEq β] in
theorem zg9 (f:α→List β) (t:β) {p:α}:∀{L:List α},L.count p*(f p).count t≤(L.flatMap f).count t
 | []=>by simp
 | s::L=>by
  have ih:=zg9 f t (p:=p) (L:=L)
  rw [List.flatMap_cons,List.count_append,List.count_cons]
  by_cases h:s=p
  ·subst h
   simp only [beq_self_eq_true,if_true]
   rw [Nat.succ_mul,Nat.add_comm]
   exact Nat.add_le_add_left ih _
  ·rw [if_neg (by simpa using h),Nat.add_zero]
   exact Nat.le_trans ih (Nat.le_add_left _ _)
theorem two_flat {f:α→List β} {L:List α} {p q:α} {t u:β} (h:Two L p q) (ht:t∈f p) (hu:u∈f q):Two (L.flatMap f) t u:=by
 refine ⟨List.mem_flatMap.2 ⟨p,h.1,ht⟩,List.mem_flatMap.2 ⟨q,h.2.1,hu⟩,fun e=>?_⟩;subst e;have c1:=List.count_pos_iff.2 ht;have c2:=List.count_pos_iff.2 hu
 by_cases e:p=q
 ·have h2:=h.2.2 e;have:=zg9 f t (p:=p) (L:=L);have:=Nat.mul_le_mul h2 c1;omega
 ·clear c1 c2;obtain ⟨h1,h2,_⟩:=h
  induction L with
  | nil=>cases h1
  | cons s L ih=>
   rw [List.flatMap_cons,List.count_append];rcases List.mem_cons.1 h1 with rfl | h1'
   ·rcases List.mem_cons.1 h2 with h2 | h2
    ·exact absurd h2.symm e
    ·have a:=List.count_pos_iff.2 ht;have b:=List.count_pos_iff.2 (List.mem_flatMap.2 ⟨q,h2,hu⟩:t∈L.flatMap f);omega
   ·rcases List.mem_cons.1 h2 with rfl | h2'
    ·have a:=List.count_pos_iff.2 hu;have b:=List.count_pos_iff.2 (List.mem_flatMap.2 ⟨p,h1',ht⟩:t∈L.flatMap f);omega
    ·have:=ih h1' h2' (fun e'=>absurd e' e);omega
omit [LawfulBEq β] in
theorem two_in {f:α→List β} {L:List α} {p:α} {t u:β} (h:p∈L) (k:Two (f p) t u):Two (L.flatMap f) t u:=by
 refine ⟨List.mem_flatMap.2 ⟨p,h,k.1⟩,List.mem_flatMap.2 ⟨p,h,k.2.1⟩,fun e=>?_⟩
 have h2:=k.2.2 e
 have h3:=zg9 f t (p:=p) (L:=L)
 have h4:=List.count_pos_iff.2 h
 have h5:=Nat.mul_le_mul h4 h2
 omega
theorem zom {f:α→List β} {t:β}:∀{L:List α},2≤(L.flatMap f).count t→(∃p∈L,2≤(f p).count t)∨∃p q,Two L p q∧t∈f p∧t∈f q
 | [],h=>by simp at h
 | s::L,h=>by
  rw [List.flatMap_cons,List.count_append] at h;rcases Nat.lt_or_ge 1 ((f s).count t) with h1 | h1
  ·exact .inl ⟨s,by simp,h1⟩
  ·rcases Nat.eq_zero_or_pos ((f s).count t) with h0 | h0
   ·rcases zom (f:=f) (t:=t) (L:=L) (by omega) with ⟨p,hp,h2⟩ | ⟨p,q,h2,h3,h4⟩
    ·exact .inl ⟨p,by simp [hp],h2⟩
    ·exact .inr ⟨p,q,h2.cons s,h3,h4⟩
   ·have h2:0<(L.flatMap f).count t:=by omega
    obtain ⟨q,hq,hq2⟩:=List.mem_flatMap.1 (List.count_pos_iff.1 h2);refine .inr ⟨s,q,⟨by simp,by simp [hq],fun e=>?_⟩,List.count_pos_iff.1 h0,hq2⟩;subst e;have:=List.count_pos_iff.2 hq;rw [List.count_cons];simp;omega
theorem two_split {f:α→List β} {L:List α} {t u:β} (h:Two (L.flatMap f) t u):(∃p q,Two L p q∧t∈f p∧u∈f q)∨∃p∈L,Two (f p) t u:=by
 obtain ⟨h1,h2,h3⟩:=h
 by_cases e:t=u
 ·subst e;rcases zom (h3 rfl) with ⟨p,hp,h4⟩ | h4
  ·have:=List.count_pos_iff.1 (show 0<(f p).count t by omega);exact .inr ⟨p,hp,this,this,fun _=>h4⟩
  ·exact .inl h4
 ·obtain ⟨p,hp,hp2⟩:=List.mem_flatMap.1 h1;obtain ⟨q,hq,hq2⟩:=List.mem_flatMap.1 h2
  by_cases e2:p=q
  ·subst e2;exact .inr ⟨p,hp,hp2,hq2,fun e3=>absurd e3 e⟩
  ·exact .inl ⟨p,q,⟨hp,hq,fun e3=>absurd e3 e2⟩,hp2,hq2⟩
end
def zhr (a b:List SItem) (ap:Bool):TW:=if 0<zdf a b then (b,a,ap) else (a,b,ap)
theorem ordT_comm (a b:List SItem) (ap:Bool):zhr a b ap=zhr b a ap:=by
 unfold zhr;have h:=zeq a b
 by_cases h1:0<zdf a b
 ·rw [if_pos h1,if_neg (by omega)]
 ·by_cases h2:0<zdf b a
  ·rw [if_neg h1,if_pos h2]
  ·have:a=b:=zb3.1 (by omega);subst this;rfl
theorem zmb (a b:List SItem) (ap:Bool):zhr a b ap=(a,b,ap)∨zhr a b ap=(b,a,ap):=by
 unfold zhr;split
 ·exact .inr rfl
 ·exact .inl rfl
theorem ordT_self (a:List SItem) (ap:Bool):zhr a a ap=(a,a,ap):=by
 rcases zmb a a ap with h | h <;> exact h
def canOn (d:List SNode) (c:Int) (s:List SItem):List SBranch:=(zov (zcg d c s)).map fun t=>(t,sat ((zcg d c s).count t))
theorem canOn_can (d:List SNode) (c:Int) (s:List SItem):Can (fun t=>(zcg d c s).count t) (canOn d c s):=by
 refine ⟨List.pairwise_map.2 (zgl _),fun t m=>?_⟩;unfold canOn;simp only [List.mem_map,Prod.mk.injEq];constructor
 ·rintro ⟨u,h1,rfl,h2⟩;have:=List.count_pos_iff.2 (zcl.1 h1);exact ⟨by omega,h2.symm⟩
 ·rintro ⟨h1,h2⟩;exact ⟨t,zcl.2 (List.count_pos_iff.1 (by omega)),rfl,h2.symm⟩
theorem zh2 {d:List SNode} {c:Int} {s t:List SItem}:(∃m,(t,m)∈canOn d c s)↔t∈zcg d c s:=by
 constructor
 ·rintro ⟨m,h⟩;obtain ⟨u,h1,h2⟩:=List.mem_map.1 h;cases h2;exact zcl.1 h1
 ·exact fun h=>⟨_,List.mem_map.2 ⟨t,zcl.2 h,rfl⟩⟩
def rawE (B:List SBranch):List TW:=(List.range B.length).flatMap fun i=>match B[i]? with
 | some p=>(p.1,p.1,decide (1<p.2))::(B.take i).map fun q=>zhr p.1 q.1 true
 | none=>[]
def rawT (d:List SNode) (t:TW) (c:Int):List TW:=if t.2.2=false then rawE (canOn d c t.1) else (canOn d c t.2.1).flatMap fun q=>(canOn d c t.1).map fun p=>zhr p.1 q.1 true
def byT (d:List SNode) (t:TW) (c:Int):List TW:=srtT (rawT d t c)
def zpy (d:List SNode) (t:TW):List Int:=bytS d [t.1,t.2.1]
def waysT (d:List SNode) (t:TW):List (Int × TW):=(zpy d t).flatMap fun c=>(byT d t c).map fun u=>(c,u)
def endN (d:List SNode) (s:List SItem):Nat:=(hds d s).count []
def hitT (d:List SNode) (t:TW):Bool:=if t.2.2=true then decide (0<sat (endN d t.1))&&decide (0<sat (endN d t.2.1)) else decide (1<sat (endN d t.1))
def zon (d:List SNode):Sch TW:=⟨(stS d,stS d,false),waysT d,hitT d⟩
theorem byT_mem {d:List SNode} {t u:TW} {c:Int}:u∈byT d t c↔u∈rawT d t c:=(zho _).mem_iff
theorem rawE_mem {B:List SBranch} (hn:(B.map (·.1)).Nodup) {u:TW}:u∈rawE B↔(∃p∈B,u=(p.1,p.1,decide (1<p.2)))∨∃p∈B,∃q∈B,p.1≠q.1∧u=zhr p.1 q.1 true:=by
 unfold rawE;rw [List.mem_flatMap];constructor
 ·rintro ⟨i,hi,hu⟩;rw [List.mem_range] at hi;rw [List.getElem?_eq_getElem hi] at hu;simp only at hu;rcases List.mem_cons.1 hu with rfl | hu
  ·exact .inl ⟨_,List.getElem_mem hi,rfl⟩
  ·obtain ⟨q,hq,rfl⟩:=List.mem_map.1 hu;refine .inr ⟨_,List.getElem_mem hi,q,List.mem_of_mem_take hq, ?_,rfl⟩;obtain ⟨j,hj,rfl⟩:=List.mem_take_iff_getElem.1 hq;intro e;have hji:j<i:=by omega
   rw [List.nodup_iff_pairwise_ne] at hn;have:=(List.pairwise_iff_getElem.1 hn) j i (by simp;omega) (by simpa using hi) hji;simp at this;exact this e.symm
 ·rintro (⟨p,hp,rfl⟩ | ⟨p,hp,q,hq,hne,rfl⟩)
  ·obtain ⟨i,hi,rfl⟩:=List.mem_iff_getElem.1 hp;exact ⟨i,List.mem_range.2 hi,by rw [List.getElem?_eq_getElem hi];simp⟩
  ·obtain ⟨i,hi,rfl⟩:=List.mem_iff_getElem.1 hp;obtain ⟨j,hj,rfl⟩:=List.mem_iff_getElem.1 hq;rcases Nat.lt_trichotomy i j with h | h | h
   ·refine ⟨j,List.mem_range.2 hj, ?_⟩;rw [List.getElem?_eq_getElem hj];refine List.mem_cons.2 (.inr (List.mem_map.2 ⟨B[i], ?_,ordT_comm _ _ _⟩));exact List.mem_take_iff_getElem.2 ⟨i,by omega,rfl⟩
   ·subst h;exact absurd rfl hne
   ·refine ⟨i,List.mem_range.2 hi, ?_⟩;rw [List.getElem?_eq_getElem hi];refine List.mem_cons.2 (.inr (List.mem_map.2 ⟨B[j], ?_,rfl⟩));exact List.mem_take_iff_getElem.2 ⟨j,by omega,rfl⟩
theorem canOn_nodup (d:List SNode) (c:Int) (s:List SItem):((canOn d c s).map (·.1)).Nodup:=by
 unfold canOn;rw [List.map_map];have:((·.1) ∘ fun t:List SItem=>((t,sat ((zcg d c s).count t)):SBranch))=id:=rfl;rw [this,List.map_id];exact zox (zgl _)
theorem zl8 {d:List SNode} {c:Int} {s s':List SItem} {u:TW}:u∈rawT d (s,s',false) c↔(∃t∈zcg d c s,u=(t,t,decide (2≤(zcg d c s).count t)))∨∃t∈zcg d c s,∃v∈zcg d c s,t≠v∧u=zhr t v true:=by
 show u∈rawE (canOn d c s)↔_;rw [rawE_mem (canOn_nodup d c s)];have sat2:∀n:Nat,decide ((1:Int)<sat n)=decide (2≤n):=fun n=>by
  rw [Bool.eq_iff_iff,decide_eq_true_iff,decide_eq_true_iff];unfold sat;omega
 refine or_congr ⟨?_, ?_⟩ ⟨?_, ?_⟩
 ·rintro ⟨p,hp,rfl⟩;obtain ⟨t,h1,rfl⟩:=List.mem_map.1 hp;exact ⟨t,zcl.1 h1,by rw [← sat2]⟩
 ·rintro ⟨t,h1,rfl⟩;exact ⟨_,List.mem_map.2 ⟨t,zcl.2 h1,rfl⟩,by rw [← sat2]⟩
 ·rintro ⟨p,hp,q,hq,hne,rfl⟩;obtain ⟨t,h1,rfl⟩:=List.mem_map.1 hp;obtain ⟨v,h2,rfl⟩:=List.mem_map.1 hq;exact ⟨t,zcl.1 h1,v,zcl.1 h2,hne,rfl⟩
 ·rintro ⟨t,h1,v,h2,hne,rfl⟩;exact ⟨_,List.mem_map.2 ⟨t,zcl.2 h1,rfl⟩,_,List.mem_map.2 ⟨v,zcl.2 h2,rfl⟩,hne,rfl⟩
theorem zke {d:List SNode} {c:Int} {s s':List SItem} {u:TW}:u∈rawT d (s,s',true) c↔∃t∈zcg d c s,∃v∈zcg d c s',u=zhr t v true:=by
 show u∈(canOn d c s').flatMap _↔_;rw [List.mem_flatMap];constructor
 ·rintro ⟨q,hq,hu⟩;obtain ⟨p,hp,rfl⟩:=List.mem_map.1 hu;exact ⟨p.1,zh2.1 ⟨p.2,hp⟩,q.1,zh2.1 ⟨q.2,hq⟩,rfl⟩
 ·rintro ⟨t,ht,v,hv,rfl⟩;obtain ⟨m,hm⟩:=zh2.2 ht;obtain ⟨n,hn⟩:=zh2.2 hv;exact ⟨_,hn,List.mem_map.2 ⟨_,hm,rfl⟩⟩
theorem zls (d:List SNode):∀(x:TW) (c:Int) (y:TW),(c,y)∈(zon d).ways x→InR .u8 c∧y∈rawT d x c:=fun x c y h=>by
 obtain ⟨b,h1,h2⟩:=List.mem_flatMap.1 h;obtain ⟨z,h3,h4⟩:=List.mem_map.1 h2;cases h4;exact ⟨bytS_u8 h1,byT_mem.1 h3⟩
abbrev stpT (d:List SNode) (x:TW) (c:Int) (y:TW):Prop:=InR .u8 c∧y∈rawT d x c
abbrev endL (d:List SNode) (w:List Int):List (List SItem):=zct d w (stS d)
theorem endL_snoc (d:List SNode) (w:List Int) (c:Int):endL d (w++[c])=(endL d w).flatMap (zcg d c):=zkm d c w _
def AtT (d:List SNode) (w:List Int) (x:TW):Prop:=(x.2.2=false∧x.1=x.2.1∧x.1∈endL d w)∨(x.2.2=true∧Two (endL d w) x.1 x.2.1)
theorem two_ord {L:List (List SItem)} {t u:List SItem} (h:Two L t u):Two L (zhr t u true).1 (zhr t u true).2.1∧(zhr t u true).2.2=true:=by
 rcases zmb t u true with e | e <;> rw [e]
 ·exact ⟨h,rfl⟩
 ·exact ⟨h.symm,rfl⟩
theorem rnT_at {d:List SNode} {w:List Int} {x:TW} (h:Rn (stpT d) (stS d,stS d,false) w x):AtT d w x∧∀c∈w,InR .u8 c:=by
 induction h with
 | nil=>exact ⟨.inl ⟨rfl,rfl,by simp [zct]⟩,fun c hc=>by cases hc⟩
 | snoc h hs ih=>
  rename_i w x c y
  obtain ⟨h1,h2⟩:=hs;refine ⟨?_,fun b hb=>?_⟩
  ·obtain ⟨s,s',ap⟩:=x;unfold AtT;rw [endL_snoc];rcases ih.1 with ⟨a1,a2,a3⟩ | ⟨a1,a2⟩
   ·simp only at a1 a2 a3;subst a1;subst a2;rcases zl8.1 h2 with ⟨t,ht,rfl⟩ | ⟨t,ht,v,hv,hne,rfl⟩
    ·by_cases hc:2≤(zcg d c s).count t
     ·exact .inr ⟨by simp [hc],two_in a3 ⟨ht,ht,fun _=>hc⟩⟩
     ·exact .inl ⟨by simp only [hc,decide_false],rfl,List.mem_flatMap.2 ⟨s,a3,ht⟩⟩
    ·have:=two_ord (two_in a3 (⟨ht,hv,fun e=>absurd e hne⟩:Two (zcg d c s) t v));exact .inr ⟨this.2,this.1⟩
   ·simp only at a1 a2;subst a1;obtain ⟨t,ht,v,hv,rfl⟩:=zke.1 h2;have:=two_ord (two_flat a2 ht hv);exact .inr ⟨this.2,this.1⟩
  ·rcases List.mem_append.1 hb with hb | hb
   ·exact ih.2 b hb
   ·rw [List.mem_singleton.1 hb];exact h1
theorem at_rnT {d:List SNode} (w:List Int) (hw:∀c∈w,InR .u8 c):(∀p∈endL d w,Rn (stpT d) (stS d,stS d,false) w (p,p,false)∨Rn (stpT d) (stS d,stS d,false) w (p,p,true))∧∀p q,Two (endL d w) p q→Rn (stpT d) (stS d,stS d,false) w (zhr p q true):=by
 refine zog (p:=fun w=>(∀c∈w,InR .u8 c)→(∀p∈endL d w,Rn (stpT d) (stS d,stS d,false) w (p,p,false)∨Rn (stpT d) (stS d,stS d,false) w (p,p,true))∧∀p q,Two (endL d w) p q→Rn (stpT d) (stS d,stS d,false) w (zhr p q true)) (fun _=>⟨fun p hp=>?_,fun p q h=>?_⟩) (fun w c ih hw=>?_) w hw
 ·rw [show endL d []=[stS d] from rfl,List.mem_singleton] at hp;subst hp;exact .inl .nil
 ·obtain ⟨h1,h2,h3⟩:=h;rw [show endL d []=[stS d] from rfl,List.mem_singleton] at h1 h2;subst h1;have:=h3 h2.symm;rw [show endL d []=[stS d] from rfl] at this;simp at this
 ·obtain ⟨i1,i2⟩:=ih fun b hb=>hw b (by simp [hb]);have hc:=hw c (by simp);rw [endL_snoc];refine ⟨fun t ht=>?_,fun t u h=>?_⟩
  ·obtain ⟨p,hp,ht⟩:=List.mem_flatMap.1 ht;rcases i1 p hp with h | h
   ·have hs:stpT d (p,p,false) c (t,t,decide (2≤(zcg d c p).count t)):=⟨hc,zl8.2 (.inl ⟨t,ht,rfl⟩)⟩;have:=Rn.snoc h hs
    by_cases e:2≤(zcg d c p).count t
    ·rw [decide_eq_true e] at this;exact .inr this
    ·rw [decide_eq_false e] at this;exact .inl this
   ·have hs:stpT d (p,p,true) c (zhr t t true):=⟨hc,zke.2 ⟨t,ht,t,ht,rfl⟩⟩;have:=Rn.snoc h hs;rw [ordT_self] at this;exact .inr this
  ·rcases two_split h with ⟨p,q,h2,ht,hu⟩ | ⟨p,hp,h2⟩
   ·have hr:=i2 p q h2;have hs:stpT d (zhr p q true) c (zhr t u true):=by
     refine ⟨hc, ?_⟩;rcases zmb p q true with e | e <;> rw [e]
     ·exact zke.2 ⟨t,ht,u,hu,rfl⟩
     ·exact zke.2 ⟨u,hu,t,ht,ordT_comm _ _ _⟩
    exact .snoc hr hs
   ·rcases i1 p hp with h3 | h3
    ·by_cases e:t=u
     ·subst e;have hs:stpT d (p,p,false) c (t,t,decide (2≤(zcg d c p).count t)):=⟨hc,zl8.2 (.inl ⟨t,h2.1,rfl⟩)⟩;rw [decide_eq_true (h2.2.2 rfl)] at hs;rw [ordT_self];exact .snoc h3 hs
     ·exact .snoc h3 ⟨hc,zl8.2 (.inr ⟨t,h2.1,u,h2.2.1,e,rfl⟩)⟩
    ·exact .snoc h3 ⟨hc,zke.2 ⟨t,h2.1,u,h2.2.1,rfl⟩⟩
theorem hitT_at {d:List SNode} {w:List Int} (hw:∀c∈w,InR .u8 c):(∃x,Rn (stpT d) (stS d,stS d,false) w x∧hitT d x=true)↔2≤wN d w:=by
 have e:wN d w=((endL d w).flatMap fun s=>List.replicate (endN d s) ()).count ():=by
  unfold wN nodeW;rw [wyn_ends];show zde _ (endL d w)=_;generalize endL d w=L
  induction L with
  | nil=>rfl
  | cons s L ih=>
   rw [List.flatMap_cons,List.count_append,List.count_replicate_self,← ih];simp [zde,endN]
 have sp:∀n:Nat,(0:Int)<sat n↔0<n:=fun n=>by unfold sat;omega
 have sp2:∀n:Nat,(1:Int)<sat n↔2≤n:=fun n=>by unfold sat;omega
 rw [e];constructor
 ·rintro ⟨x,hx,hh⟩;obtain ⟨s,s',ap⟩:=x;rcases (rnT_at hx).1 with ⟨a1,a2,a3⟩ | ⟨a1,a2⟩
  ·simp only at a1 a2 a3;subst a1;subst a2;simp only [hitT,Bool.false_eq_true,if_false,decide_eq_true_iff,sp2] at hh;exact (two_in (f:=fun s=>List.replicate (endN d s) ()) a3 (t:=()) (u:=()) ⟨List.mem_replicate.2 ⟨by omega,rfl⟩,List.mem_replicate.2 ⟨by omega,rfl⟩,fun _=>by rw [List.count_replicate_self];exact hh⟩).2.2 rfl
  ·simp only at a1 a2;subst a1;simp only [hitT,if_true,Bool.and_eq_true,decide_eq_true_iff,sp] at hh;exact (two_flat (f:=fun s=>List.replicate (endN d s) ()) a2 (t:=()) (u:=()) (List.mem_replicate.2 ⟨by omega,rfl⟩) (List.mem_replicate.2 ⟨by omega,rfl⟩)).2.2 rfl
 ·intro h;obtain ⟨i1,i2⟩:=at_rnT (d:=d) w hw;rcases zom h with ⟨p,hp,h2⟩ | ⟨p,q,h2,h3,h4⟩
  ·rw [List.count_replicate_self] at h2;rcases i1 p hp with h3 | h3
   ·exact ⟨_,h3,by simp [hitT,sp2,h2]⟩
   ·exact ⟨_,h3,by simp [hitT];omega⟩
  ·have k3:=(List.mem_replicate.1 h3).1;have k4:=(List.mem_replicate.1 h4).1;refine ⟨_,i2 p q h2, ?_⟩;rcases zmb p q true with e | e <;> rw [e] <;> simp [hitT] <;> omega
theorem zp3 {d:List SNode} {i j:Nat} {q:Qb TW} (h:(zc4 (zon d) i)[j]?=some q):AtT d q.2.2.2 q.1∧(∀c∈q.2.2.2,InR .u8 c)∧q.2.2.2.length≤j:=by
 obtain ⟨h1,h2⟩:=rnT_at (accB_rn (S:=zon d) (zls d) i j q h);exact ⟨h1,h2,(zgx _ _).wlen j q h⟩
theorem AtT.mem {d:List SNode} {w:List Int} {x:TW} (h:AtT d w x):x.1∈aftS d w∧x.2.1∈aftS d w:=by
 rw [zlo,zlo];rcases h with ⟨_,h2,h3⟩ | ⟨_,h2⟩
 ·exact ⟨h3,by rw [← h2];exact h3⟩
 ·exact ⟨h2.1,h2.2.1⟩
theorem twi_tells {d:List SNode} (h:Rt d) (hl:d.length≤24) (ht:Txt d) {b:Int} {v:Int × List Int × Int × Option TW} (ho:OutB (zon d) b v):
  (v.1=1→v.2.1=[]∧∀w,(∀c∈w,InR .u8 c)→wN d w<2)∧(v.1=2→(∀c∈v.2.1,InR .u8 c)∧2≤wN d v.2.1∧∀w,(∀c∈w,InR .u8 c)→2≤wN d w→v.2.1.length≤w.length)∧(v.1=1∨v.1=2∨v.1=3):=by
 obtain ⟨h1,h2,h3⟩:=ho.tells (B:=fun c=>InR .u8 c) (zls d) fun i _ q hq c y hc hs=>by
  obtain ⟨j,hj⟩:=List.getElem?_of_mem hq;obtain ⟨q1,q2,_⟩:=zp3 hj;obtain ⟨m1,m2⟩:=q1.mem;have s1:=(zi7 h hl ht q2 m1).1;have s2:=(zi7 h hl ht q2 m2).1;obtain ⟨x,x1,x2,x3⟩:=bytC_of (zpw d [q.1.1,q.1.2.1]) hc;have hx8:=bytC_u8 x1;have e1:zcg d x q.1.1=zcg d c q.1.1:=step_like s1 hx8 hc fun z hz=>x3 z (List.mem_flatMap.2 ⟨q.1.1,by simp,hz⟩);have e2:zcg d x q.1.2.1=zcg d c q.1.2.1:=step_like s2 hx8 hc fun z hz=>x3 z (List.mem_flatMap.2 ⟨q.1.2.1,by simp,hz⟩);refine ⟨x,List.mem_flatMap.2 ⟨x,x1,List.mem_map.2 ⟨y,byT_mem.2 ?_,rfl⟩⟩⟩;have e:rawT d q.1 x=rawT d q.1 c:=by unfold rawT canOn;rw [e1,e2]
  rw [e];exact hs.2
 refine ⟨fun k=>⟨(h1 k).1,fun w hw=>?_⟩,fun k=>?_,h3⟩
 ·rcases Nat.lt_or_ge (wN d w) 2 with hlt | hge
  ·exact hlt
  ·obtain ⟨x,hx,hh⟩:=(hitT_at hw).2 hge;have:=(h1 k).2 w x hw hx;rw [show (zon d).hit x=hitT d x from rfl,hh] at this;cases this
 ·obtain ⟨x,x1,x2,x3,x4⟩:=h2 k;obtain ⟨_,y2⟩:=rnT_at x3;refine ⟨y2,(hitT_at y2).1 ⟨x,x3,x2⟩,fun w hw hge=>?_⟩;obtain ⟨z,hz,hh⟩:=(hitT_at hw).2 hge;exact x4 w z hw hz hh
theorem twi_cov {d:List SNode} (h:Rt d) (hn:NoFr d):∃K:List TW,(∃n,n≤szN d d.length ((d.length:Int)-1)+1∧K.length=n*(n*2))∧∀i q,q∈zc4 (zon d) i→q.1∈K:=by
 obtain ⟨K,k1,k2⟩:=aftS_all h hn;refine ⟨K.flatMap fun a=>(K.flatMap fun b=>[true,false].map fun c=>(b,c)).map fun b=>(a,b),⟨K.length,k1, ?_⟩,fun i q hq=>?_⟩
 ·rw [prod_len,prod_len];rfl
 ·obtain ⟨j,hj⟩:=List.getElem?_of_mem hq;obtain ⟨m1,m2⟩:=(zp3 hj).1.mem;exact List.mem_flatMap.2 ⟨_,k2 _ _ m1,List.mem_map.2 ⟨_,List.mem_flatMap.2 ⟨_,k2 _ _ m2,List.mem_map.2 ⟨_,by cases q.1.2.2 <;> simp,rfl⟩⟩,rfl⟩⟩
end Go.Proofs.YtkbboemafklkkaaGreatDoor.V
namespace Go.Proofs.YtkbboemafklkkaaGreatDoor.V
open Go
set_option linter.unusedVariables false
theorem zm0 {α:Type} {xs:List α} {i:Nat} {x:α} (h:xs[i]?=some x):at? xs (i:Int)=some x:=by rw [zbq];exact h
theorem rev_in {l:List Int} (hl:l.length≤1000):zt l l.reverse:=by
 refine ⟨zh (by omega) (by omega), ?_⟩;have key:=zhk (P:=fun k (s:List Int) v=>zt.l1 (zt.j1 l.reverse) k s v ((l.length:Int)-1-v)) l.length
  (fun i s=>s.length=l.length∧∀k,k<l.length→s[k]?=if k<i∨l.length≤k+i then l[l.length-1-k]? else l[k]?) ?_ ?_ l ⟨rfl,fun k hk=>by rw [if_neg (by omega)]⟩
 ·simpa using key
 ·rintro i s hi ⟨h1,h2⟩
  by_cases hij:i<l.length-1-i
  ·have hj:(l.length:Int)-1-(i:Int)=((l.length-1-i:Nat):Int):=by omega
   have e1:s[i]?=some l[i]:=by rw [h2 i hi,if_neg (by omega)];exact List.getElem?_eq_getElem hi
   have hjl:l.length-1-i<l.length:=by omega
   have e2:s[l.length-1-i]?=some l[l.length-1-i]:=by rw [h2 _ hjl,if_neg (by omega)];exact List.getElem?_eq_getElem hjl
   refine .inr ⟨(s.set i l[l.length-1-i]).set (l.length-1-i) l[i],⟨by simp [h1],fun k hk=>?_⟩,fun k hk=>⟨fun _=>⟨_,by rw [hj];exact zm0 e2,_,zm0 e1,_,zm0 e1,l[l.length-1-i], ?_,zh (by omega) (by omega),zh (by omega) (by omega), ?_⟩,fun h=>absurd (by omega) (df h)⟩⟩
   ·rw [List.getElem?_set]
    by_cases hk1:l.length-1-i=k
    ·subst hk1;rw [if_pos rfl,if_pos (by simp [h1];omega),if_pos (by omega)];rw [show l.length-1-(l.length-1-i)=i by omega];exact (List.getElem?_eq_getElem hi).symm
    ·rw [if_neg hk1,List.getElem?_set]
     by_cases hk2:i=k
     ·subst hk2;rw [if_pos rfl,if_pos (by rw [h1];exact hi),if_pos (by omega)];exact (List.getElem?_eq_getElem hjl).symm
     ·rw [if_neg hk2,h2 k hk]
      by_cases hk3:k<i∨l.length≤k+i
      ·rw [if_pos hk3,if_pos (by omega)]
      ·rw [if_neg hk3,if_neg (by omega)]
   ·rw [hj];rw [Int.toNat_natCast,zbq,List.getElem?_set,if_neg (by omega)];exact e2
   ·rw [show (l.length:Int)-1-((i:Int)+1)=(l.length:Int)-1-(i:Int)-1 by omega] at hk;rw [hj] at hk ⊢;rw [Int.toNat_natCast,Int.toNat_natCast];exact hk
  ·refine .inl fun k=>⟨fun h=>absurd (dt h) (by omega),fun _=>?_⟩;show l.reverse=s;refine List.ext_getElem? fun k=>?_
   by_cases hk:k<l.length
   ·rw [List.getElem?_reverse hk,h2 k hk];split
    ·rfl
    ·rw [show l.length-1-k=k by omega]
   ·rw [List.getElem?_eq_none (by simp;omega),List.getElem?_eq_none (by omega)]
 ·rintro s ⟨h1,h2⟩ k;refine ⟨fun h=>absurd (dt h) (by omega),fun _=>?_⟩;show l.reverse=s;refine List.ext_getElem? fun k=>?_
  by_cases hk:k<l.length
  ·rw [List.getElem?_reverse hk,h2 k hk,if_pos (by omega)]
  ·rw [List.getElem?_eq_none (by simp;omega),List.getElem?_eq_none (by omega)]
def mdT (q:Qb TW):Smade_scantling_twice_two_search:=(q.1,q.2.1,q.2.2.1)
theorem wordT_in {S:Sch TW} {acc:List (Qb TW)} (h:GoodB S acc) {i:Nat} {q:Qb TW} (hi:acc[i]?=some q) (hl:q.2.2.2.length≤1000):zy (acc.map mdT) (i:Int) q.2.2.2:=by
 have hM:∀(j:Nat) (x:Qb TW),acc[j]?=some x→at? (acc.map mdT) (j:Int)=some (mdT x):=fun j x hx=>zm0 (by rw [List.getElem?_map,hx];rfl);have:=run (P:=fun k (s:Int × List Int)=>zy.l1 (acc.map mdT) (zy.j1 q.2.2.2) k s.1 s.2) (fun s=>∃(j:Nat) (x:Qb TW),s.1=(j:Int)∧acc[j]?=some x∧x.2.2.2++s.2.reverse=q.2.2.2) (fun s=>s.1.toNat) ?_ ((i:Int),[]) ⟨i,q,rfl,hi,by simp⟩
 ·exact this
 ·rintro ⟨v,out⟩ ⟨j,x,h1,hx,hwo⟩;simp only at h1 hwo;subst h1;have hlen:out.length≤1000:=by
   have:=congrArg List.length hwo;simp at this;omega
  rcases h.par j x hx with ⟨h0,hx0⟩ | ⟨p,q',h2,h3,h4,h5,_⟩
  ·subst h0;subst hx0;refine .inl fun k=>⟨_,hM 0 _ hx,fun h=>absurd (dt h) (by simp [mdT]),fun _=>?_⟩;refine ⟨out.reverse,rev_in hlen, ?_⟩;simpa using hwo.symm
  ·refine .inr ⟨((p:Int),out++[x.2.2.1]),⟨p,q',rfl,h4, ?_⟩,by simp only;omega,fun k hk=>⟨_,hM j x hx,fun _=>⟨_,hM j x hx,by simp;omega,_,hM j x hx, ?_⟩,fun h=>absurd (by simp [mdT,h2]) (df h)⟩⟩
   ·rw [← hwo,h5];simp
   ·simp only [mdT];rw [h2];exact hk
def SnT (kf:TW→Str) (seen:List (Str × Bool)) (acc:List (Qb TW)):Prop:=∀z,zdy seen (kf z) false=hasQ acc z
theorem snT_put {kf:TW→Str} (hinj:∀a b,kf a=kf b→a=b) {seen:List (Str × Bool)} {acc:List (Qb TW)} (h:SnT kf seen acc) (x:TW) (q:Int × Int × List Int):SnT kf (zfk seen (kf x) true) (acc++[(x,q)]):=fun z=>by
 rw [zmi,h z,hasQ_app]
 by_cases hz:x=z
 ·subst hz;simp
 ·rw [if_neg (fun e=>hz (hinj _ _ e))];simp [hz]
theorem roundT {S:Sch TW} {s_:SSpace_scantling_twice_two_search} {kf:TW→Str} (hinj:∀a b,kf a=kf b→a=b) {i:Nat} {q0:Qb TW} {acc:List (Qb TW)} {seen:List (Str × Bool)} (hs:SnT kf seen acc)
  (hkey:∀e∈S.ways q0.1,s_.2.1 (e.2,kf e.2)) (hlen:acc.length+(S.ways q0.1).length≤2000000000) (X:List Smade_scantling_twice_two_search→List (Str × Bool)→Prop)
  (hX:∀seen',SnT kf seen' (rdB S i q0 acc)→X ((rdB S i q0 acc).map mdT) seen'):∃k,zf.l2 s_ (i:Int) (S.ways q0.1) X k (acc.map mdT) seen 0:=by
 have hlj:∀j,(((S.ways q0.1).take j).foldl (stB i q0.2.2.2) acc).length≤2000000000:=fun j=>by
  have h1:=zmr i q0.2.2.2 ((S.ways q0.1).take j) acc;have h2:((S.ways q0.1).take j).length≤(S.ways q0.1).length:=by rw [List.length_take];omega
  omega
 refine zhk (P:=fun k (s:List Smade_scantling_twice_two_search × List (Str × Bool)) v=>zf.l2 s_ (i:Int) (S.ways q0.1) X k s.1 s.2 v) (S.ways q0.1).length
  (fun j s=>s.1=(((S.ways q0.1).take j).foldl (stB i q0.2.2.2) acc).map mdT∧SnT kf s.2 (((S.ways q0.1).take j).foldl (stB i q0.2.2.2) acc)) ?_ ?_ (acc.map mdT,seen) ⟨rfl,hs⟩
 ·rintro j ⟨ls,sn⟩ hj ⟨h1,h2⟩;simp only at h1 h2;subst h1;have hk:=hkey _ (List.getElem_mem hj);have hnext:((S.ways q0.1).take (j+1)).foldl (stB i q0.2.2.2) acc=stB i q0.2.2.2 (((S.ways q0.1).take j).foldl (stB i q0.2.2.2) acc) (S.ways q0.1)[j]:=by
   rw [List.take_succ_eq_append_getElem hj,List.foldl_append];rfl
  rw [hnext];have hlen2:=hlj j;have hll:(S.ways q0.1).length≤2000000000:=by omega
  generalize ((S.ways q0.1).take j).foldl (stB i q0.2.2.2) acc=A at *;cases hin:hasQ A (S.ways q0.1)[j].2
  ·refine .inr ⟨(A.map mdT++[((S.ways q0.1)[j].2,(i:Int),(S.ways q0.1)[j].1)],zfk sn (kf (S.ways q0.1)[j].2) true),⟨?_, ?_⟩,fun k h=>⟨fun _=>⟨_,zm0 (List.getElem?_eq_getElem hj),kf (S.ways q0.1)[j].2,hk,fun _=>⟨by simp;omega,zh (by omega) (by omega),h⟩,fun hc=>?_⟩,fun h=>absurd (by omega) (df h)⟩⟩
   ·simp only [stB,hin,Bool.false_eq_true,if_false,List.map_append];rfl
   ·simp only [stB,hin,Bool.false_eq_true,if_false];exact snT_put hinj h2 _ _
   ·rw [h2,hin] at hc;cases hc
  ·refine .inr ⟨(A.map mdT,sn),⟨?_, ?_⟩,fun k h=>⟨fun _=>⟨_,zm0 (List.getElem?_eq_getElem hj),kf (S.ways q0.1)[j].2,hk,fun hc=>?_,fun _=>⟨zh (by omega) (by omega),h⟩⟩,fun h=>absurd (by omega) (df h)⟩⟩
   ·simp only [stB,hin,if_true]
   ·simp only [stB,hin,if_true];exact h2
   ·rw [h2,hin] at hc;cases hc
 ·rintro ⟨ls,sn⟩ ⟨h1,h2⟩ k;simp only at h1 h2;rw [List.take_length] at h1 h2;subst h1;exact ⟨fun h=>absurd (dt h) (by omega),fun _=>hX sn h2⟩
def zmq (v:Int × List Int × Int × Option TW):SFound_scantling_twice_two_search:=((v.1,v.2.1,[],0,0,0,v.2.2.1),v.2.2.2.getD ([],[],false))
theorem walkT_in {S:Sch TW} {kf:TW→Str} (hinj:∀a b,kf a=kf b→a=b) {KP:TW × Str→Prop} {WP:TW × List SOn_scantling_twice_two_search→Prop} {HP:TW × Bool→Prop} {b:Int} (hb:b≤1000) {M:Nat} (hM:1+M*b.toNat≤2000000000) (h0:KP (S.start,kf S.start))
  (hh:∀(i:Nat) q,(i:Int)<b→(zc4 S i)[i]?=some q→HP (q.1,S.hit q.1))
  (hw:∀(i:Nat) q,(i:Int)<b→(zc4 S i)[i]?=some q→S.hit q.1=false→WP (q.1,S.ways q.1)∧(S.ways q.1).length≤M∧∀e∈S.ways q.1,KP (e.2,kf e.2)):
  zf (S.start,KP,WP,HP) b (zmq (zk6 S b)):=by
 refine ⟨_,h0, ?_⟩;refine uptoK (P:=fun k (s:List Smade_scantling_twice_two_search × List (Str × Bool)) v=>zf.l1 (S.start,KP,WP,HP) b (zmq (zk6 S b)) _ k ((0,[],[],0,0,0,0),([],[],false)) s.1 s.2 v) b.toNat
  (fun i s=>s.1=(zc4 S i).map mdT∧SnT kf s.2 (zc4 S i)∧zk6 S b=verdB S b (b.toNat+1-i) i∧(zc4 S i).length≤1+M*i) ?_ ?_ ([(S.start, -1,0)],_) ⟨rfl,fun z=>?_,rfl,by simp [zc4]⟩
 ·rintro i ⟨ls,sn⟩ k hi ⟨h1,h2,h3,h4⟩ hk;simp only at h1 h2 h3 h4;subst h1;have hib:(i:Int)<b:=by omega
  obtain ⟨f,hf⟩:∃f,b.toNat+1-i=f+1:=⟨b.toNat-i,by omega⟩;rw [hf] at h3;unfold verdB at h3;cases hq:(zc4 S i)[i]? with
  | none=>
   rw [hq] at h3;simp only at h3;have hl:=List.getElem?_eq_none_iff.1 hq;refine ⟨fun h=>absurd (dt h) (by simp;omega),fun _=>?_⟩;show zmq _=_;rw [h3];simp [zmq]
  | some q=>
   rw [hq] at h3;simp only at h3;have hl:=(List.getElem?_eq_some_iff.1 hq).1;rw [if_neg (by omega)] at h3;have hMi:M*(i+1)≤M*b.toNat:=Nat.mul_le_mul_left _ (by omega);rw [Nat.mul_succ] at hMi;refine ⟨fun _=>⟨fun h=>absurd (dt h) (by omega),fun _=>⟨mdT q,zm0 (by rw [List.getElem?_map,hq];rfl),_,hh i q hib hq,fun hhit=>?_,fun hno=>?_⟩⟩,fun h=>absurd (by simp;omega) (df h)⟩
   ·have hhit':S.hit q.1=true:=hhit;rw [if_pos hhit'] at h3;have hg:=zgx S i;have hwl:=hg.wlen i q hq;refine ⟨q.2.2.2,wordT_in hg hq (by omega),zh (by omega) (by omega), ?_⟩;rw [h3];rfl
   ·have hno':S.hit q.1=false:=hno;rw [if_neg (by rw [hno'];simp)] at h3;obtain ⟨w1,w2,w3⟩:=hw i q hib hq hno';refine ⟨_,w1,roundT (S:=S) (q0:=q) (kf:=kf) hinj h2 w3 (by omega) _ fun seen' hs'=>?_⟩;have hn:=zgw hq;refine ⟨zh (by omega) (by omega),hk (_,seen') ⟨by rw [hn],by rw [hn];exact hs', ?_, ?_⟩⟩
    ·rw [h3,show b.toNat+1-(i+1)=f by omega]
    ·rw [hn];have:=zmr i q.2.2.2 (S.ways q.1) (zc4 S i);unfold rdB;rw [Nat.mul_succ];omega
 ·rintro ⟨ls,sn⟩ ⟨h1,h2,h3,h4⟩ k;simp only at h1 h2 h3 h4;subst h1;rw [show b.toNat+1-b.toNat=0+1 by omega] at h3;unfold verdB at h3;cases hq:(zc4 S b.toNat)[b.toNat]? with
  | none=>
   rw [hq] at h3;simp only at h3;have hl:=List.getElem?_eq_none_iff.1 hq;refine ⟨fun h=>absurd (dt h) (by simp;omega),fun _=>?_⟩;show zmq _=_;rw [h3];simp [zmq]
  | some q=>
   rw [hq] at h3;simp only at h3;have hl:=(List.getElem?_eq_some_iff.1 hq).1;rw [if_pos (by omega)] at h3;refine ⟨fun _=>⟨fun _=>?_,fun h=>absurd (by omega) (df h)⟩,fun h=>absurd (by simp;omega) (df h)⟩;rw [h3];rfl
 ·show zdy (zfk [] (kf S.start) true) (kf z) false=_;rw [zmi,zph]
  by_cases hz:S.start=z
  ·subst hz;simp [zc4,hasQ]
  ·rw [if_neg (fun e=>hz (hinj _ _ e))];simp [zc4,hasQ,hz]
theorem keyN_low (l:List Int):∀c∈zjo l,32≤c.toNat∧c.toNat≤57∧c≠33∧c≠47:=by
 induction l with
 | nil=>intro c hc;simp [zjo] at hc
 | cons z l ih=>
  intro c hc;rw [zhy,List.mem_append,List.mem_cons] at hc;rcases hc with h | rfl | h
  ·have one:∀(n:Nat),∀c∈Lib.decDigits n,32≤c.toNat∧c.toNat≤57∧c≠33∧c≠47:=fun n c hc=>by
    have:=dec_ge _ c hc;exact ⟨by omega,this.2,(fun e=>by subst e;exact absurd this.1 (by decide)),fun e=>by subst e;exact absurd this.1 (by decide)⟩
   unfold Lib.itoa at h;split at h
   ·rcases List.mem_cons.1 h with h | h
    ·subst h;decide
    ·exact one _ c h
   ·exact one _ c h
  ·decide
  ·exact ih c h
theorem cutC {k:UInt8} {a b:List UInt8} (ha:∀c∈a,c≠k) (hb:∀c∈b,c≠k) {u v:List UInt8} (h:a++k::u=b++k::v):a=b∧u=v:=by
 induction a generalizing b with
 | nil=>
  cases b with
  | nil=>exact ⟨rfl,(List.cons.inj h).2⟩
  | cons y b=>exact absurd (List.cons.inj h).1.symm (hb y (by simp))
 | cons x a ih=>
  cases b with
  | nil=>exact absurd (List.cons.inj h).1 (ha x (by simp))
  | cons y b=>
   obtain ⟨h1,h2⟩:=List.cons.inj h;obtain ⟨h3,h4⟩:=ih (fun c hc=>ha c (by simp [hc])) (fun c hc=>hb c (by simp [hc])) h2;exact ⟨by rw [h1,h3],h4⟩
theorem sm_nums {d:List SNode} {s:List SItem} (h2:Sm d s):∀x∈s,∀z∈zda x,InR .i64 z:=fun x hx z hz=>by
 obtain ⟨a,b,c,e⟩:=itR_all h2.rt.toROk (by have:=h2.len;omega) h2.txt h2.form x hx;simp only [zda,List.mem_cons,List.not_mem_nil,or_false] at hz;rcases hz with rfl | rfl | rfl | rfl
 ·exact a
 ·exact b
 ·exact c
 ·exact e
def stepK (d:List SNode) (c:Int) (s:List SItem):List (List SItem):=(zov (hds d s)).filterMap fun t=>if (zbd d t c).2=true then some (zbd d t c).1 else none
theorem stepK_mem {d:List SNode} {c:Int} {s t:List SItem} (h:t∈zcg d c s):t∈stepK d c s:=by
 unfold zcg at h;obtain ⟨u,h1,h2⟩:=List.mem_filterMap.1 h;exact List.mem_filterMap.2 ⟨u,zcl.2 h1,h2⟩
theorem canOn_len {d:List SNode} (c:Int) {s:List SItem} {U:List (List SItem)} (h:∀t∈zcg d c s,t∈U):(canOn d c s).length≤U.length:=by
 unfold canOn;rw [List.length_map];exact setOf_len h
theorem canOn_few {d:List SNode} (h:Rt d) (c:Int) (s:List SItem):(canOn d c s).length≤s.length*(d.length+1)+1:=by
 refine Nat.le_trans (canOn_len c (U:=stepK d c s) fun t ht=>stepK_mem ht) ?_;have h1:=canB_len h s;unfold canB at h1;rw [List.length_map] at h1;exact Nat.le_trans (List.length_filterMap_le ..) h1
structure Tw (d:List SNode) (b:Int):Prop where
 rt:Rt d
 len:d.length≤24
 txt:Txt d
 few:∃N:Nat,N≤2800∧1+N*N*256*b.toNat≤2000000000∧∀w,(∀c∈w,InR .u8 c)→∀p∈aftS d w,∀c,InR .u8 c→(canOn d c p).length≤N
theorem Tw.less {d:List SNode} {a b:Int} (h:Tw d b) (ha:a≤b):Tw d a:=by
 obtain ⟨N,n1,n2,n3⟩:=h.few;refine ⟨h.rt,h.len,h.txt,N,n1, ?_,n3⟩;have:N*N*256*a.toNat≤N*N*256*b.toNat:=Nat.mul_le_mul_left _ (by omega);omega
theorem tw_heavy {d:List SNode} (h:Rt d) (hl:d.length≤17) (ht:Txt d) {b:Int} (hb:b≤10):Tw d b:=by
 refine ⟨h,by omega,ht,433,by omega,by omega,fun w hw p hp c _=>?_⟩;have h1:=canOn_few h c p;have h2:=(zi7 h (by omega) ht hw hp).2;have h3:p.length*(d.length+1)≤24*18:=Nat.mul_le_mul h2 (by omega);omega
theorem zld {d:List SNode} (h:Rt d) (hl:d.length≤24) (ht:Txt d) (hn:NoFr d) {S:Nat} (hs:szN d d.length ((d.length:Int)-1)≤S) (hS:S≤2000) {b:Int} (hb:1+(S+1)*(S+1)*256*b.toNat≤2000000000):Tw d b:=by
 refine ⟨h,hl,ht,S+1,by omega,hb,fun w hw p hp c hc=>?_⟩;have h1:=canOn_len (d:=d) c (s:=p) (U:=aftS d (w++[c])) fun t ht2=>by rw [zjz,onS_mem];exact ⟨p,hp,ht2⟩
 have h2:=aftS_few h hn (w++[c]);omega
theorem zio {a b:List SItem} {ap:Bool} (ha:a.length≤1000):zfm a b ap (zhr a b ap):=by
 refine ⟨_,zd0 ha,fun h=>?_,fun h=>?_⟩
 ·unfold zhr;rw [if_pos (dt h)]
 ·unfold zhr;rw [if_neg (df h)]
theorem zmf {d:List SNode} {s:List SItem} (h:Sm d s) {c:Int} (hc:InR .u8 c):zbj d s c (canOn d c s):=by
 obtain ⟨o,o1,_,o3⟩:=on_step h hc;rw [o3.uniq (canOn_can d c s)] at o1;exact o1
def rowE (B:List SBranch) (i:Nat):List TW:=match B[i]? with
 | some p=>(p.1,p.1,decide (1<p.2))::(B.take i).map fun q=>zhr p.1 q.1 true
 | none=>[]
theorem rawE_eq (B:List SBranch):rawE B=(List.range B.length).flatMap (rowE B):=rfl
theorem rowE_len {B:List SBranch} {i:Nat} (hi:i<B.length):(rowE B i).length≤B.length:=by
 unfold rowE;rw [List.getElem?_eq_getElem hi];simp only [List.length_cons,List.length_map,List.length_take];omega
theorem rowE_sum {B:List SBranch} {i:Nat} (hi:i≤B.length):((List.range i).flatMap (rowE B)).length≤B.length*i:=by
 have:=zh0 (rowE B) B.length (List.range i) fun j hj=>rowE_len (by have:=List.mem_range.1 hj;omega)
 rwa [List.length_range] at this
theorem zlh {n N:Nat} (hn:n≤N) {m:Nat} (hm:m≤N) (hN:N≤2800):n*m≤7840000:=by
 have:=Nat.mul_le_mul hn hm;have:=Nat.mul_le_mul hN hN;omega
theorem can_short {d:List SNode} {s:List SItem} (h:Sm d s) {c:Int} (hc:InR .u8 c):∀p∈canOn d c s,p.1.length≤1000:=fun p hp=>zgk h hc (zh2.1 ⟨p.2,hp⟩)
theorem ordT_mem (a b:List SItem) (ap:Bool):((zhr a b ap).1=a∨(zhr a b ap).1=b)∧((zhr a b ap).2.1=a∨(zhr a b ap).2.1=b):=by
 rcases zmb a b ap with e | e <;> rw [e] <;> simp
theorem raw_mem {d:List SNode} {t u:TW} {c:Int} (h:u∈rawT d t c):(u.1∈zcg d c t.1∨u.1∈zcg d c t.2.1)∧(u.2.1∈zcg d c t.1∨u.2.1∈zcg d c t.2.1):=by
 obtain ⟨p,q,ap⟩:=t;cases ap
 ·rcases zl8.1 h with ⟨t,ht,rfl⟩ | ⟨t,ht,v,hv,_,rfl⟩
  ·exact ⟨.inl ht,.inl ht⟩
  ·obtain ⟨h1,h2⟩:=ordT_mem t v true;exact ⟨.inl (by rcases h1 with e | e <;> rw [e] <;> assumption),.inl (by rcases h2 with e | e <;> rw [e] <;> assumption)⟩
 ·obtain ⟨t,ht,v,hv,rfl⟩:=zke.1 h;obtain ⟨h1,h2⟩:=ordT_mem t v true;refine ⟨?_, ?_⟩
  ·rcases h1 with e | e <;> rw [e]
   ·exact .inl ht
   ·exact .inr hv
  ·rcases h2 with e | e <;> rw [e]
   ·exact .inl ht
   ·exact .inr hv
theorem zpb {d:List SNode} {t:TW} {c:Int} {N:Nat} (n1:(canOn d c t.1).length≤N) (n2:(canOn d c t.2.1).length≤N):(rawT d t c).length≤N*N:=by
 unfold rawT;split
 ·rw [rawE_eq];exact Nat.le_trans (rowE_sum (Nat.le_refl _)) (Nat.mul_le_mul n1 n1)
 ·refine Nat.le_trans (zh0 _ N _ fun q _=>?_) (Nat.mul_le_mul_left _ n2);rw [List.length_map];exact n1
theorem by_in {d:List SNode} {t:TW} {c:Int} {N:Nat} (hN:N≤2800) (h1:Sm d t.1) (h2:Sm d t.2.1) (hc:InR .u8 c) (n1:(canOn d c t.1).length≤N) (n2:(canOn d c t.2.1).length≤N):zn d t c (byT d t c):=by
 have hsrt:zdt (rawT d t c) (byT d t c):=by
  refine ⟨fun b hb=>?_, ?_,rfl⟩
  ·obtain ⟨k1,k2⟩:=raw_mem hb;exact ⟨k1.elim (fun k=>zgk h1 hc k) fun k=>zgk h2 hc k,k2.elim (fun k=>zgk h1 hc k) fun k=>zgk h2 hc k⟩
  ·have:=zpb n1 n2;have:=zlh (Nat.le_refl N) (Nat.le_refl N) hN;omega
 have s1:=can_short h1 hc;have s2:=can_short h2 hc;refine ⟨_,zmf h1 hc,fun hap=>?_,fun hap=>⟨_,zmf h2 hc, ?_⟩⟩
 ·have hraw:rawT d t c=rawE (canOn d c t.1):=by
   unfold rawT;rw [if_pos (by simpa using hap)]
  rw [hraw,rawE_eq] at hsrt;generalize canOn d c t.1=B at *;have hlen:∀i,i≤B.length→((List.range i).flatMap (rowE B)).length≤7840000:=fun i hi=>Nat.le_trans (rowE_sum hi) (zlh n1 (by omega) hN);refine uptoK (P:=fun k out v=>zn.l1 B _ k out v) B.length (fun i out=>out=(List.range i).flatMap (rowE B)) ?_ ?_ _ (by simp)
  ·rintro i out k hi rfl hk;have hl:=hlen i (by omega);have hrow:rowE B i=(B[i].1,B[i].1,decide (1<B[i].2))::(B.take i).map fun q=>zhr B[i].1 q.1 true:=by unfold rowE;rw [List.getElem?_eq_getElem hi]
   refine ⟨fun _=>⟨_,zff hi,by simp only [List.length_singleton];omega,⟨by omega,by omega⟩, ?_⟩,fun h=>absurd (by omega) (df h)⟩;have htl:(B.take i).length=i:=by rw [List.length_take];omega
   refine uptoK (P:=fun k2 out v=>zn.l2 B (i:Int) B[i] _ k2 out v) i (fun j out=>out=((List.range i).flatMap (rowE B)++[(B[i].1,B[i].1,decide (1<B[i].2))])++((B.take i).take j).map fun q=>zhr B[i].1 q.1 true) ?_ ?_ _ (by simp)
   ·rintro j out k2 hj rfl hk2;have hj2:j<(B.take i).length:=by omega
    refine ⟨_,rfl,fun _=>⟨(B.take i)[j], ?_,_,zio (s1 _ (List.getElem_mem hi)), ?_,zh (by omega) (by omega),hk2 _ ?_⟩,fun h=>?_⟩
    ·rw [Int.toNat_natCast];exact zff hj2
    ·simp only [List.length_append,List.length_singleton,List.length_map,List.length_take];have:=Nat.le_trans n1 hN;omega
    ·rw [List.take_succ_eq_append_getElem hj2,List.map_append,← List.append_assoc];rfl
    ·rw [Int.toNat_natCast,htl] at h;exact absurd (by omega) (df h)
   ·rintro out rfl k2;refine ⟨_,rfl,fun h=>?_,fun _=>⟨zh (by omega) (by omega),hk _ ?_⟩⟩
    ·rw [Int.toNat_natCast,htl] at h;exact absurd (dt h) (by omega)
    ·rw [List.range_succ,List.flatMap_append,List.flatMap_cons,List.flatMap_nil,List.append_nil,hrow,List.take_of_length_le (by omega),List.append_assoc];rfl
  ·rintro out rfl k;exact ⟨fun h=>absurd (dt h) (by omega),fun _=>⟨_,hsrt,rfl⟩⟩
 ·have hraw:rawT d t c=(canOn d c t.2.1).flatMap fun q=>(canOn d c t.1).map fun p=>zhr p.1 q.1 true:=by
   unfold rawT;rw [if_neg (by simpa using hap)]
  rw [hraw] at hsrt;generalize canOn d c t.1=A at *;generalize canOn d c t.2.1=B at *;have hlen:∀i,((B.take i).flatMap fun q=>A.map fun p=>zhr p.1 q.1 true).length≤7840000:=fun i=>by
   refine Nat.le_trans (zh0 _ A.length _ fun q _=>by rw [List.length_map];exact Nat.le_refl _) ?_;exact zlh n1 (by rw [List.length_take];omega) hN
  refine uptoK (P:=fun k out v=>zn.l3 A B _ k out v) B.length (fun i out=>out=(B.take i).flatMap fun q=>A.map fun p=>zhr p.1 q.1 true) ?_ ?_ _ (by simp)
  ·rintro i out k hi rfl hk;have hl:=hlen i;refine ⟨fun _=>⟨_,zff hi, ?_⟩,fun h=>absurd (by omega) (df h)⟩;refine uptoK (P:=fun k2 out v=>zn.l4 A B[i] _ k2 out v) A.length (fun j out=>out=((B.take i).flatMap fun q=>A.map fun p=>zhr p.1 q.1 true)++(A.take j).map fun p=>zhr p.1 B[i].1 true) ?_ ?_ _ (by simp)
   ·rintro j out k2 hj rfl hk2;refine ⟨fun _=>⟨_,zff hj,_,zio (s1 _ (List.getElem_mem hj)), ?_,zh (by omega) (by omega),hk2 _ ?_⟩,fun h=>absurd (by omega) (df h)⟩
    ·simp only [List.length_append,List.length_singleton,List.length_map,List.length_take];omega
    ·rw [List.take_succ_eq_append_getElem hj,List.map_append,← List.append_assoc];rfl
   ·rintro out rfl k2;refine ⟨fun h=>absurd (dt h) (by omega),fun _=>⟨zh (by omega) (by omega),hk _ ?_⟩⟩;rw [List.take_succ_eq_append_getElem hi,List.flatMap_append,List.flatMap_cons,List.flatMap_nil,List.append_nil,List.take_length]
  ·rintro out rfl k;refine ⟨fun h=>absurd (dt h) (by omega),fun _=>⟨_, ?_,rfl⟩⟩;rw [List.take_length];exact hsrt
theorem bytes2_in {d:List SNode} {p q:List SItem} (h1:Sm d p) (h2:Sm d q):zh9 d [p,q] (bytS d [p,q]):=by
 have hs:∀s∈[p,q],Sm d s:=fun s hs=>by
  rcases List.mem_cons.1 hs with rfl | hs
  ·exact h1
  ·rw [List.mem_singleton.1 hs];exact h2
 have a1:=(clsA_in h1).2.2;have a2:=(clsA_in h2).2.2;have hl:=h1.len;have e:(zpw d [p,q]).length=(clsA d p).length+(clsA d q).length:=by simp [zpw]
 have ho:=once_few d [p,q];exact ⟨_,zl3 hs (by simp) (by omega),_,sets_Once_in (by omega) (by omega),_,zna (by omega),rfl⟩
theorem waysT_len {d:List SNode} {t:TW} {N:Nat} (n1:∀c,InR .u8 c→(canOn d c t.1).length≤N) (n2:∀c,InR .u8 c→(canOn d c t.2.1).length≤N) (i:Nat):(((zpy d t).take i).flatMap fun c=>(byT d t c).map fun u=>(c,u)).length≤N*N*256:=by
 refine Nat.le_trans (zh0 _ (N*N) _ fun c hc=>?_) (Nat.mul_le_mul_left _ ?_)
 ·have hu:InR .u8 c:=bytS_u8 (List.mem_of_mem_take hc);rw [List.length_map];unfold byT;rw [(zho _).length_eq];exact zpb (n1 c hu) (n2 c hu)
 ·rw [List.length_take];have:(zpy d t).length≤256:=bytC_len _;omega
theorem waysT_in {d:List SNode} {t:TW} {N:Nat} (hN:N≤2800) (h1:Sm d t.1) (h2:Sm d t.2.1) (n1:∀c,InR .u8 c→(canOn d c t.1).length≤N) (n2:∀c,InR .u8 c→(canOn d c t.2.1).length≤N):zw d t (waysT d t):=by
 have hNN:=zlh (Nat.le_refl N) (Nat.le_refl N) hN;have hlen:=waysT_len n1 n2;have hbl:(zpy d t).length≤256:=bytC_len _;refine ⟨_,bytes2_in h1 h2, ?_⟩;refine uptoK (P:=fun k out v=>zw.l1 d t (bytS d [t.1,t.2.1]) _ k out v) (zpy d t).length (fun i out=>out=((zpy d t).take i).flatMap fun c=>(byT d t c).map fun u=>(c,u)) ?_ ?_ _ (by simp)
 ·rintro i out k hi rfl hk;have hu:InR .u8 (zpy d t)[i]:=bytS_u8 (List.getElem_mem hi);have hl:=hlen i;have hbN:(byT d t (zpy d t)[i]).length≤N*N:=by
   unfold byT;rw [(zho _).length_eq];exact zpb (n1 _ hu) (n2 _ hu)
  refine ⟨fun _=>⟨_,zff hi,_,by_in hN h1 h2 hu (n1 _ hu) (n2 _ hu), ?_⟩,fun h=>absurd (by show (i:Int)<((zpy d t).length:Int);omega) (df h)⟩;refine uptoK (P:=fun k2 out v=>zw.l2 (zpy d t)[i] (byT d t (zpy d t)[i]) _ k2 out v) (byT d t (zpy d t)[i]).length (fun j out=>out=(((zpy d t).take i).flatMap fun c=>(byT d t c).map fun u=>(c,u))++((byT d t (zpy d t)[i]).take j).map fun u=>((zpy d t)[i],u)) ?_ ?_ _ (by simp)
  ·rintro j out k2 hj rfl hk2;refine ⟨fun _=>⟨_,zff hj, ?_,zh (by omega) (by omega),hk2 _ ?_⟩,fun h=>absurd (by omega) (df h)⟩
   ·simp only [List.length_append,List.length_singleton,List.length_map,List.length_take];omega
   ·rw [List.take_succ_eq_append_getElem hj,List.map_append,← List.append_assoc];rfl
  ·rintro out rfl k2;refine ⟨fun h=>absurd (dt h) (by omega),fun _=>⟨zh (by omega) (by omega),hk _ ?_⟩⟩;rw [List.take_succ_eq_append_getElem hi,List.flatMap_append,List.flatMap_cons,List.flatMap_nil,List.append_nil,List.take_length]
 ·rintro out rfl k;refine ⟨fun h=>absurd (dt h) (by show ¬ ((zpy d t).length:Int)<((zpy d t).length:Int);omega),fun _=>?_⟩;show waysT d t=_;rw [List.take_length];rfl
theorem hitT_in {d:List SNode} {t:TW} (h1:Sm d t.1) (h2:Sm d t.2.1):zdx d t (hitT d t):=by
 refine ⟨fun h=>⟨_,(zmt h1).1,_,fun _=>(zmt h2).1, ?_⟩,fun h=>⟨_,(zmt h1).1, ?_⟩⟩
 ·unfold hitT;rw [if_pos h];rfl
 ·unfold hitT;rw [if_neg (by simp [h])];rfl
def keyT (t:TW):Str:=if t.2.2=true then ((keyS t.1++[124])++keyS t.2.1)++[33] else (keyS t.1++[124])++keyS t.2.1
theorem zkj (s:List SItem):∀c∈keyS s,c≠124∧c≠33:=fun c hc=>by
 have:=keyN_low _ c hc;exact ⟨fun e=>by subst e;exact absurd this.2.1 (by decide),this.2.2.1⟩
theorem keyT_inj (x y:TW) (h:keyT x=keyT y):x=y:=by
 obtain ⟨a,b,p⟩:=x;obtain ⟨a',b',q⟩:=y;have e:∀(a b:List SItem) (p:Bool),keyT (a,b,p)=keyS a++124::(keyS b++if p=true then [33] else []):=fun a b p=>by
  cases p <;> simp [keyT]
 rw [e,e] at h;obtain ⟨h1,h2⟩:=cutC (fun c hc=>(zkj a c hc).1) (fun c hc=>(zkj a' c hc).1) h;have ea:=zfh.1 h1;subst ea;cases p <;> cases q
 ·simp only [Bool.false_eq_true,if_false,List.append_nil] at h2;rw [zfh.1 h2]
 ·exfalso;simp only [Bool.false_eq_true,if_false,if_true,List.append_nil] at h2;exact (zkj b 33 (by rw [h2];simp)).2 rfl
 ·exfalso;simp only [Bool.false_eq_true,if_false,if_true,List.append_nil] at h2;exact (zkj b' 33 (by rw [← h2];simp)).2 rfl
 ·simp only [if_true] at h2;obtain ⟨h3,_⟩:=cutC (fun c hc=>(zkj b c hc).2) (fun c hc=>(zkj b' c hc).2) h2;rw [zfh.1 h3]
theorem zkp {d:List SNode} {t:TW} (h1:Sm d t.1) (h2:Sm d t.2.1):zfn t (keyT t):=by
 have k1:=zpm (sm_nums h1);have k2:=zpm (sm_nums h2);have s1:=h1.short;have s2:=h2.short;refine ⟨_,zi1 s1,by simp;omega,_,zi1 s2,by simp;omega,fun h=>⟨by simp;omega, ?_⟩,fun h=>?_⟩
 ·unfold keyT;rw [if_pos h]
 ·unfold keyT;rw [if_neg (by simp [h])]
theorem accT_sm {d:List SNode} {b:Int} (h:Tw d b) {i j:Nat} {q:Qb TW} (hq:(zc4 (zon d) i)[j]?=some q):Sm d q.1.1∧Sm d q.1.2.1:=by
 obtain ⟨q1,q2,_⟩:=zp3 hq;obtain ⟨m1,m2⟩:=q1.mem;exact ⟨(zi7 h.rt h.len h.txt q2 m1).1,(zi7 h.rt h.len h.txt q2 m2).1⟩
theorem walk_twi {d:List SNode} {b:Int} (h:Tw d b) (hb:b≤1000):
  zf ((stS d,stS d,false),(fun q_=>zfn q_.1 q_.2),(fun q_=>zw d q_.1 q_.2),(fun q_=>zdx d q_.1 q_.2)) b (zmq (zk6 (zon d) b)):=by
 obtain ⟨N,n1,n2,n3⟩:=h.few;have hst:=(zi7 h.rt h.len h.txt (w:=[]) (fun c hc=>by cases hc) (u:=stS d) (by rw [zp2];simp)).1;refine walkT_in (S:=zon d) (kf:=keyT) keyT_inj hb (M:=N*N*256) n2 (zkp (t:=(stS d,stS d,false)) hst hst) (fun i q hi hq=>?_) fun i q hi hq _=>?_
 ·obtain ⟨s1,s2⟩:=accT_sm h hq;exact hitT_in s1 s2
 ·obtain ⟨s1,s2⟩:=accT_sm h hq;obtain ⟨q1,q2,q3⟩:=zp3 hq;obtain ⟨m1,m2⟩:=q1.mem;have a1:=n3 _ q2 _ m1;have a2:=n3 _ q2 _ m2;refine ⟨waysT_in n1 s1 s2 a1 a2, ?_,fun x hx=>?_⟩
  ·have:=waysT_len a1 a2 (zpy d q.1).length;rw [List.take_length] at this;exact this
  ·obtain ⟨e1,e2⟩:=zls d q.1 x.1 x.2 hx;have hu:∀c∈q.2.2.2++[x.1],InR .u8 c:=fun c hc=>(List.mem_append.1 hc).elim (q2 c) fun h=>by rw [List.mem_singleton.1 h];exact e1
   obtain ⟨r1,r2⟩:=raw_mem e2;have hin:∀u,(u∈zcg d x.1 q.1.1∨u∈zcg d x.1 q.1.2.1)→Sm d u:=fun u hu2=>by
    refine (zi7 h.rt h.len h.txt hu (u:=u) ?_).1;rw [zjz,onS_mem];exact hu2.elim (fun k=>⟨_,m1,k⟩) fun k=>⟨_,m2,k⟩
   exact zkp (hin _ r1) (hin _ r2)
def zk2 (d:List SNode) (b:Int):SVerdict:=((zk6 (zon d) b).1,(zk6 (zon d) b).2.1,[],0,0,0,(zk6 (zon d) b).2.2.1)
theorem zcz {d:List SNode} {b:Int} (h:Tw d b) (hb:b≤1000):zby d b (zk2 d b):=by
 have:=h.len;exact ⟨_,item_StartS h.rt.ne (by omega),_,walk_twi h hb,rfl⟩
theorem znb (a:SVerdict) (h1:a.2.1.length<9223372036854775807) (h2:a.2.2.1.length<9223372036854775807):zgn a a true:=
 ⟨_,fun _=>zf9 h1,_,fun _=>zf9 h2,_,rfl,_,rfl,by simp⟩
theorem text_rt {n:SNode} (hk:n.1=3) (h0:n.2.1=0∧n.2.2.1=0) (hx:n.2.2.2.2.2.2≠[]):Rt [n]:=by
 have tr:Tr [n] 0 ((([n]:List SNode).length:Int)-1):=.leaf (e:=n) rfl (by omega) (fun _=>hx) h0;have nk:=tr.nok;refine ⟨⟨nk.two,nk.one,nk.rep,nk.kind,nk.ntx,fun i m hm h67=>?_⟩,tr⟩;obtain ⟨_,rfl⟩:=at_one hm;omega
def fDot:List SNode:=[(2,0,0,0,0,Cl.row 0 255,([]:Str))]
def fA:List SNode:=[(3,0,0,0,0,(0#256),([97]:Str))]
def fOr:List SNode:=zjj 5 fDot fA
def fSeq:List SNode:=zjj 4 fOr dDead
theorem fDot_rt:Rt fDot:=leaf_rt (.inr rfl) ⟨rfl,rfl⟩
theorem fA_rt:Rt fA:=text_rt rfl ⟨rfl,rfl⟩ (by decide)
theorem fOr_rt:Rt fOr:=pair_rt fDot_rt fA_rt (.inr rfl)
theorem fSeq_rt:Rt fSeq:=pair_rt fOr_rt dDead_rt (.inl rfl)
theorem few_txt {d:List SNode} (h:∀n∈d,n.2.2.2.2.2.2.length≤1):Txt d:=fun n hn=>by have:=h n hn;omega
def twiH (d:List SNode):Sch TW:=⟨(stS d,stS d,false),fun t=>((zfi (zpw d [t.1,t.2.1])).map fun n:Nat=>(n:Int)).flatMap fun c=>(byT d t c).map fun u=>(c,u),hitT d⟩
theorem twi_H (d:List SNode):zon d=twiH d:=by
 unfold zon twiH waysT zpy bytS
 congr 1
 funext t;rw [zpz]
def zlq (d:List SNode) (b:Int):SVerdict:=((zk6 (twiH d) b).1,(zk6 (twiH d) b).2.1,[],0,0,0,(zk6 (twiH d) b).2.2.1)
theorem verT_H (d:List SNode) (b:Int):zk2 d b=zlq d b:=by unfold zk2 zlq;rw [twi_H]
theorem nf_small {d:List SNode} (h:∀n∈d,n.1≠8∧n.1≠9):NoFr d:=nf_of h _ _
theorem awake20:zfw true:=by
 have u8:∀c:Int,0≤c∧c≤255→InR .u8 c:=fun c h=>zfy.2 h;have tOr:Tw fOr 20:=zld fOr_rt (by decide +kernel) (few_txt (by decide +kernel)) (nf_small (by decide +kernel)) (S:=10) (by decide +kernel) (by decide) (by decide);have tSeq:Tw fSeq 20:=zld fSeq_rt (by decide +kernel) (few_txt (by decide +kernel)) (nf_small (by decide +kernel)) (S:=10) (by decide +kernel) (by decide) (by decide);have tDot:∀b:Int,b≤10→Tw fDot b:=fun b hb=>tw_heavy fDot_rt (by decide +kernel) (few_txt (by decide +kernel)) hb;obtain ⟨m,w1⟩:∃m,zby fOr 20 (2,[97],[],0,0,0,m):=by
  have:=zcz tOr (by decide);exact ⟨(zlq fOr 20).2.2.2.2.2.2,by rwa [verT_H,show zlq fOr 20=(2,[97],[],0,0,0,(zlq fOr 20).2.2.2.2.2.2) by decide +kernel] at this⟩
 obtain ⟨m2,w2⟩:∃m,zby fSeq 20 (1,[],[],0,0,0,m):=by
  have:=zcz tSeq (by decide);exact ⟨(zlq fSeq 20).2.2.2.2.2.2,by rwa [verT_H,show zlq fSeq 20=(1,[],[],0,0,0,(zlq fSeq 20).2.2.2.2.2.2) by decide +kernel] at this⟩
 have w3:zby fDot 2 (1,[],[],0,0,0,2):=by
  have:=zcz (tDot 2 (by decide)) (by decide)
  rwa [verT_H,show zlq fDot 2=(1,[],[],0,0,0,2) by decide +kernel] at this
 have w4:zby fDot 1 (3,[],[],0,0,0,1):=by
  have:=zcz (tDot 1 (by decide)) (by decide)
  rwa [verT_H,show zlq fDot 1=(3,[],[],0,0,0,1) by decide +kernel] at this
 have w5:zby fDot (-1) (3,[],[],0,0,0,0):=by
  have:=zcz (tDot (-1) (by decide)) (by decide)
  rwa [verT_H,show zlq fDot (-1)=(3,[],[],0,0,0,0) by decide +kernel] at this
 refine ⟨Cl.row 0 255,zhq (u8 0 (by decide)) (u8 255 (by decide)),fOr,Pair_in fDot_rt.tr fA_rt.tr (by decide) (by decide),_,w1,fSeq,Pair_in fOr_rt.tr dDead_rt.tr (by decide +kernel) (by decide),_,w2,_,w3,_,fun _=>zf9 (show (1:Nat)<_ by decide),_,rfl,_,fun _=>w4,_,fun _=>w5,_,rfl, ?_⟩;simp
theorem few20 {d:List SNode} (ht:Txt d):∃r,zhx d r∧(r=true→FewD d):=few_of ht
theorem guard20 {d:List SNode} (ht:Txt d) (b:Int):∃r4 r8:Bool,zhx d r4∧(r4=true→zfu d d b r8)∧(r4=true→r8=true→FewD d∧(b≤10∨∀n∈d,n.1≠8∧n.1≠9)):=by
 obtain ⟨r4,h4,k4⟩:=few20 ht;cases r4
 ·exact ⟨false,false,h4,(fun h=>by cases h),fun h=>by cases h⟩
 ·have f4:=k4 rfl;obtain ⟨r,h1,h2⟩:=Light_ex (d:=d) (e:=d) (by have:=f4.len;omega) (by have:=f4.len;omega) b;exact ⟨true,r,h4,fun _=>h1,fun _ hr=>⟨f4,(h2 hr).imp id And.left⟩⟩
theorem tw_of {d:List SNode} (f:FewD d) (ht:Txt d) {b:Int} (hb:b≤60) (h:b≤10∨∀n∈d,n.1≠8∧n.1≠9):Tw d b:=by
 have l:=f.len;rcases h with h | h
 ·exact tw_heavy f.rt (by omega) ht h
 ·exact zld f.rt (by omega) ht (nf_of h _ _) (S:=60) (f.sz h) (by omega) (by omega)
structure ToldT (d:List SNode) (b:Int):Prop where
 yes:(zk2 d b).1=1→(zk2 d b).2.1=[]∧∀w,(∀c∈w,InR .u8 c)→wN d w<2
 no:(zk2 d b).1=2→(∀c∈(zk2 d b).2.1,InR .u8 c)∧2≤wN d (zk2 d b).2.1∧∀w,(∀c∈w,InR .u8 c)→2≤wN d w→(zk2 d b).2.1.length≤w.length
 any:(zk2 d b).1=1∨(zk2 d b).1=2∨(zk2 d b).1=3
 made:0≤b→(zk2 d b).2.2.2.2.2.2≤b
 len:(zk2 d b).2.1.length≤b.toNat
theorem toldT {d:List SNode} {b:Int} (h:Tw d b):ToldT d b:=by
 have ho:=zjc (zon d) b;obtain ⟨p1,p2,p3⟩:=twi_tells h.rt h.len h.txt ho;exact ⟨p1,p2,p3,fun hb=>ho.made hb,ho.len.1⟩
theorem same20 {d:List SNode} {b:Int} (h:Tw d b) (hb:b≤1000):zgn (zk2 d b) (zk2 d b) true:=
 znb _ (by have:=(toldT h).len;omega) (by simp [zk2])
theorem law20_TwiceBound_true {d:List SNode} {a b:Int} (ht:Txt d) (ha:InR .u8 a) (hb:InR .u8 b):ze9 d a b true:=by
 have ha':=zfy.1 ha;have hb':=zfy.1 hb;obtain ⟨r4,r8,h4,h8,hG⟩:=guard20 ht b;refine ⟨true,awake20,r4,fun _=>h4,_,rfl,r8,fun h=>h8 (by cases r4 <;> simp_all),fun _=>⟨true,awake20,rfl⟩,fun hc=>?_⟩;simp only [Bool.not_true,Bool.false_or,Bool.or_eq_false_iff,Bool.not_eq_false',decide_eq_false_iff_not] at hc;obtain ⟨⟨⟨g1,g2⟩,g3⟩,g4⟩:=hc;obtain ⟨f,hlt⟩:=hG g1 g4;have hD:Tw d b:=tw_of f ht (by omega) hlt;have hA:Tw d a:=hD.less (by omega);have ta:=toldT hA;have tb:=toldT hD;have ma:=ta.made ha'.1;have mb:=tb.made hb'.1;have b22:((decide (a<(zk2 d a).2.2.2.2.2.2))||(decide (b<(zk2 d b).2.2.2.2.2.2)))=false:=by
  rw [Bool.or_eq_false_iff];exact ⟨decide_eq_false (by omega),decide_eq_false (by omega)⟩
 obtain ⟨n,n1,n2,hof,hn⟩:=of7 f.rt (by have:=f.len;omega) ht;refine ⟨_,zcz hA (by omega),_,zcz hD (by omega),_,rfl,true,fun h=>?_,fun h=>?_,fun _=>⟨_,hof,_,zng n, ?_⟩⟩
 ·have hk3:(zk6 (zon d) a).1≠3:=by simpa [zk2] using h.2
  have e1:=(zjc (zon d) a).stays (by omega) (zjc (zon d) b) hk3;have e2:zk2 d a=zk2 d b:=by unfold zk2;rw [e1]
  rw [e2];exact same20 hD (by omega)
 ·rw [b22] at h;simp at h
 ·by_cases hbig:(300:Int)<((4 ^ min n 31:Nat):Int)
  ·refine ⟨(0,[],[],0,0,0,0),fun h=>?_, ?_⟩
   ·rw [decide_eq_true hbig] at h;cases h
   ·rw [decide_eq_true hbig];rfl
  ·have hn4:n≤4:=by
    rcases Nat.lt_or_ge 4 n with h5 | h5
    ·exfalso;have:=Nat.pow_le_pow_right (n:=4) (by decide) (show 5≤min n 31 by omega);have e:(4:Nat) ^ 5=1024:=by decide
     rw [e] at this;omega
    ·exact h5
   obtain ⟨hnf,hsn⟩:=hn (by omega);have hl:=f.len;have hB:Tw d ((4 ^ min n 31:Nat):Int):=zld f.rt (by omega) ht hnf (S:=4) (by omega) (by omega) (by
    have:4 ^ min n 31≤300:=by omega
    rw [Int.toNat_natCast];omega)
   refine ⟨_,fun _=>zcz hB (by omega), ?_⟩;have o:=zjc (zon d) ((4 ^ min n 31:Nat):Int);obtain ⟨K,⟨k,k1,k2⟩,k3⟩:=twi_cov f.rt hnf;have hne:=o.room k3 (by
    have hk:k≤n:=by omega
    have hm:k*(k*2)≤n*(n*2):=Nat.mul_le_mul hk (Nat.mul_le_mul_right 2 hk);rw [k2,Int.toNat_natCast,show min n 31=n by omega];refine Nat.le_trans hm ?_;have:n=0∨n=1∨n=2∨n=3∨n=4:=by omega
    rcases this with rfl | rfl | rfl | rfl | rfl <;> decide)
   have:((zk2 d ((4 ^ min n 31:Nat):Int)).1 != 3)=true:=by
    simp only [zk2,bne_iff_ne];exact hne
   rw [this,Bool.or_true]
open Go.ChangeShapes Go.WideShapes Go.RowKit
structure Rd (P:Program) (t:TypeId) {α:Type} (E:En α) (G:α→Prop):Prop where
 sz:P.cellsOf t=E.sz
 rd:∀{H:Type} (enc:TypeId × Value→H) (w:World) (fuel:Nat) (cs:List Value) (x:DataW H × List MemPlace),
  DataW.trod enc P w 0 (fun _=>true) true fuel t cs=some x→(∀n∈x.1.weights P t,n≤reachBytes)→∃y,E.R w (fun b=>b<w.heap.size) cs y∧G y
 vl:∀(w:World) (v:Value),Value.okWide P w .any 0 t v→(∃y,E.R w (fun b=>b<w.heap.size) v.cells.toList y)→v=E.val v.cells.toList
theorem Rd.int {P:Program} {t:TypeId} {k:IntKind} (ht:P.underlying t=some (.int k)) (hc:P.cellsOf t=1):Rd P t (En.int k) (InR k):=by
 refine ⟨hc, ?_, ?_⟩
 ·intro H enc w fuel cs x h _;obtain ⟨n,rfl,_,hw⟩:=DataW.trod_int ht h;have:InR k n:=by simpa [Lit.wf,InR] using hw
  exact ⟨n,⟨rfl,this⟩,this⟩
 ·intro w v hv _;obtain ⟨n,rfl⟩:=okWide_int ht hv;rfl
theorem Rd.str {P:Program} {t:TypeId} (ht:P.underlying t=some .string) (hc:P.cellsOf t=1):Rd P t En.str (fun y=>y.length≤140737488351232):=by
 refine ⟨hc, ?_, ?_⟩
 ·intro H enc w fuel cs x h hwt;obtain ⟨s,rfl,hx,hs⟩:=DataW.trod_string ht h;have hl:s.data.toList.length≤9223372036854775807:=by simpa [maxLen] using hs
  have h2:s.data.toList.length≤140737488351232:=hwt _ (by rw [hx];simp [DataW.weights]);exact ⟨s.data.toList,⟨rfl,hl⟩,h2⟩
 ·intro w v hv _;simp only [Value.okWide,ht,Cell.okWide,Cell.ok] at hv;cases v <;> simp at hv;rfl
theorem zlp {H:Type} {P:Program} {e:TypeId}:∀{l:List (DataW H)} {d:DataW H},d∈l→∀n∈d.weights P e,n∈DataW.weightsAll P e l
 | [],_,h,_,_=>by cases h
 | d'::l,d,h,n,hn=>by
  simp only [DataW.weightsAll,List.mem_append];rcases List.mem_cons.1 h with rfl | h
  ·exact .inl hn
  ·exact .inr (zlp h n hn)
theorem Rd.slice {P:Program} {t e:TypeId} {α:Type} {E:En α} {G:α→Prop} (ht:P.underlying t=some (.slice e)) (hc:P.cellsOf t=1) (hby:Nat.blt 0 (P.bytesOf e)=true) (he:Rd P e E G):
  Rd P t (En.slice E) (fun xs=>xs.length≤140737488351232∧∀y∈xs,G y):=by
 refine ⟨hc, ?_, ?_⟩
 ·intro H enc w fuel cs x h hwt;rcases Deep.open_slice ht h with ⟨rfl,_⟩ | ⟨a,len,cap,m,n,D,Pl,rfl,hb,hl,hm,hmm,hxe,hx⟩
  ·exact ⟨[],⟨_,rfl,zc7 E _ _⟩,Nat.zero_le _,by simp⟩
  ·simp only [if_true] at hmm;subst hmm;have hall:∀i,i<len→∃p:α × List Value,w.cells? 0 (a.add (i*P.cellsOf e)) (P.cellsOf e)=some p.2∧E.R w (fun b=>b<w.heap.size) p.2 p.1∧G p.1:=fun i hi=>by
    obtain ⟨cs',h1,h2⟩:=hx i (by omega);obtain ⟨y,h3,h4⟩:=he.rd enc w n cs' _ h2 fun q hq=>hwt q (by
     rw [hxe];simp only [DataW.weights,ht,List.mem_cons,List.mem_append];exact .inr (.inl (zlp (List.mem_map.2 ⟨i,by simpa using hi,rfl⟩) q hq)))
    exact ⟨(y,cs'),h1,h3,h4⟩
   have hmax2:len≤140737488351232:=by
    have h1:=hwt ((len+(m-len))*P.bytesOf e) (by rw [hxe];simp [DataW.weights,ht]);have h2:0<P.bytesOf e:=Nat.le_of_ble_eq_true hby;have h3:(len+(m-len))*1≤(len+(m-len))*P.bytesOf e:=Nat.mul_le_mul_left _ h2;have h4:reachBytes=140737488351232:=rfl;omega
   have hmax:len≤lim:=by have:maxLen≤lim:=by decide
                         omega
   by_cases h0:len=0
   ·subst h0;exact ⟨[],⟨_,rfl,some a,m,rfl,Nat.zero_le _,(fun h=>by cases h),Nat.zero_le _,fun h=>absurd rfl h⟩,Nat.zero_le _,by simp⟩
   have hinh:Inhabited (α × List Value):=⟨(hall 0 (by omega)).choose⟩;obtain ⟨f,hf⟩:=Deep.choose_lt hall;have hsz:=E.pos;rw [← he.sz] at hsz;obtain ⟨hcell0,hblk⟩:a.spot=none∧a.block<w.heap.size:=by
    obtain ⟨_,hl2,hcl⟩:=World.cells?_some (hf 0 (by omega)).1;have h2:=hcl 0 hsz;rw [List.getElem?_eq_getElem (by omega)] at h2;simp only [Nat.zero_mul,Addr.add,if_true,World.cell?] at h2;cases hb2:w.heap[a.block]? with
    | none=>simp [hb2] at h2
    | some o=>
     refine ⟨?_,(Array.getElem?_eq_some_iff.1 hb2).1⟩;cases o <;> simp [hb2] at h2;exact h2.1
   refine ⟨(List.range len).map (fun i=>(f i).1),⟨_,rfl,some a,m, ?_,by simpa using hl,(fun h=>by cases h),by simpa using hmax,fun _=>⟨a.block,a.off,(List.range len).map (fun i=>(f i).2), ?_,hblk,⟨by simp, ?_⟩, ?_⟩⟩,by simpa using hmax2, ?_⟩
   ·simp
   ·cases a;simp at hcell0;subst hcell0;rfl
   ·intro i c y hc1 hy1;have hi:i<len:=by have:=(List.getElem?_eq_some_iff.1 hc1).1;simpa using this
    simp [hi] at hc1 hy1;subst hc1;subst hy1;exact (hf i hi).2.1
   ·have hlens:∀c∈(List.range len).map (fun i=>(f i).2),c.length=E.sz:=by
     intro c hc;simp only [List.mem_map,List.mem_range] at hc;obtain ⟨i,hi,rfl⟩:=hc;rw [(World.cells?_some (hf i hi).1).2.1,he.sz]
    intro j u hj;have hjl:j<len*E.sz:=by
     have:=(List.getElem?_eq_some_iff.1 hj).1;rw [zf6 hlens] at this;simpa using this
    have hp:0<E.sz:=E.pos;have hi:j / E.sz<len:=Nat.div_lt_of_lt_mul (by rw [Nat.mul_comm];exact hjl);have hk:j % E.sz<E.sz:=Nat.mod_lt _ hp;obtain ⟨_,hl2,hcl⟩:=World.cells?_some (hf _ hi).1;have hcell:=hcl (j % E.sz) (by rw [he.sz];exact hk);rw [he.sz] at hl2;have hg:=zjr hlens (i:=j / E.sz) (cs:=(f (j / E.sz)).2) (j:=j % E.sz) (u:=(f (j / E.sz)).2[j % E.sz]'(by omega)) (by simp [hi]) (by simp);rw [Nat.mul_comm,Nat.div_add_mod] at hg;rw [hg] at hj;rw [List.getElem?_eq_getElem (by omega),hj,Deep.add_add,he.sz,Nat.mul_comm,Nat.div_add_mod] at hcell;rw [← hcell];cases a;simp at hcell0;subst hcell0;rw [zfc]
   ·intro y hy;simp only [List.mem_map,List.mem_range] at hy;obtain ⟨i,hi,rfl⟩:=hy;exact (hf i hi).2.2
 ·intro w v hv _;simp only [Value.okWide,ht,Cell.okWide,Cell.ok] at hv;cases v <;> simp at hv;rfl
theorem u64_word {n:Int} (h:InR .u64 n):∃m:Nat,m<2 ^ 64∧n=m:=by
 simp [InR,IntKind.min,IntKind.max,IntKind.signed,IntKind.bits] at h;exact ⟨n.toNat,by omega,by omega⟩
theorem Rd.cls {P:Program} {t e:TypeId} (ht:P.underlying t=some (.array 4 e)) (hc:P.cellsOf t=4) (he:P.underlying e=some (.int .u64)) (hce:P.cellsOf e=1):Rd P t En.cls (fun _=>True):=by
 refine ⟨hc, ?_, ?_⟩
 ·intro H enc w fuel cs x h _;obtain ⟨xs,m,rfl,rfl,hlen,hn,hx⟩:=DataW.trod_array ht h;rw [hc] at hlen
  match cs,hlen with
  | [u0,u1,u2,u3],_=>
   have hx':∀i (hi:i<4) u,[u0,u1,u2,u3][i]?=some u→∃q:Nat,q<2 ^ 64∧u = .int .u64 q:=by
    intro i hi u hu;have h1:=hx i hi;rw [hce,Nat.mul_one,List.getElem?_eq_getElem (by omega)] at h1;have h2:List.take 1 (List.drop i [u0,u1,u2,u3])=[u]:=by
     match i,hi with
     | 0,_ | 1,_ | 2,_ | 3,_=>simp at hu;subst hu;rfl
    rw [h2] at h1;obtain ⟨n,h3,_,h4⟩:=DataW.trod_int he h1;obtain ⟨q,hq,rfl⟩:=u64_word (n:=n) (by simpa [Lit.wf,InR] using h4);simp at h3;exact ⟨q,hq,h3⟩
   obtain ⟨q0,h0,rfl⟩:=hx' 0 (by omega) u0 rfl;obtain ⟨q1,h1,rfl⟩:=hx' 1 (by omega) u1 rfl;obtain ⟨q2,h2,rfl⟩:=hx' 2 (by omega) u2 rfl;obtain ⟨q3,h3,rfl⟩:=hx' 3 (by omega) u3 rfl;refine ⟨Cl.ofWords q0 q1 q2 q3, ?_,trivial⟩;obtain ⟨e0,e1,e2,e3⟩:=Cl.ofWords_word h0 h1 h2 h3;show _=zbp _;unfold zbp;rw [e0,e1,e2,e3]
 ·intro w v hv _;simp only [Value.okWide,ht] at hv;obtain ⟨cs,rfl,_⟩:=hv;simp [En.val,En.cls,Value.cells]
structure RdF (P:Program) (fs:List Field) (o:Nat) {α:Type} (E:En α) (G:α→Prop):Prop where
 rd:∀{H:Type} (enc:TypeId × Value→H) (w:World) (fuel:Nat) (cs:List Value) (xs:List (DataW H × List MemPlace)),xs.length=fs.length →
  (∀(i:Nat) (f:Field),fs[i]?=some f→DataW.trod enc P w 0 (fun _=>true) true fuel f.type ((cs.drop f.offset).take (P.cellsOf f.type))=xs[i]?) →
  (∀n∈DataW.weightsEach P (fs.map (·.type)) (xs.map (·.1)),n≤reachBytes)→∃y,E.R w (fun b=>b<w.heap.size) ((cs.drop o).take E.sz) y∧G y
theorem RdF.last {P:Program} {f:Field} {o:Nat} {α:Type} {E:En α} {G:α→Prop} (h:Rd P f.type E G) (ho:f.offset=o):RdF P [f] o E G:=⟨by
 intro H enc w fuel cs xs hl hx hw;obtain ⟨x,rfl⟩:∃x,xs=[x]:=List.length_eq_one_iff.1 hl;have h1:=hx 0 f rfl;rw [ho,h.sz] at h1;exact h.rd enc w fuel _ x h1 fun n hn=>hw n (by simp [DataW.weightsEach,hn])⟩
theorem RdF.solo {P:Program} {fs:List Field} {o:Nat} {α:Type} {E:En α} {G:α→Prop} (h:RdF P fs o E G):RdF P fs o E.solo G:=⟨h.rd⟩
theorem zm4 {xs:List Value} {o m n:Nat}:(xs.drop o).take (m+n)=(xs.drop o).take m++(xs.drop (o+m)).take n:=by
 rw [List.take_add,List.drop_drop]
theorem RdF.cons {P:Program} {f:Field} {fs:List Field} {o:Nat} {α β:Type} {E:En α} {F:En β} {G:α→Prop} {K:β→Prop} (h:Rd P f.type E G) (ho:f.offset=o) (hr:RdF P fs (o+E.sz) F K):RdF P (f::fs) o (E.cat F) (fun x=>G x.1∧K x.2):=⟨by
 intro H enc w fuel cs xs hl hx hw;obtain ⟨x,xs',rfl⟩:∃x xs',xs=x::xs':=by
  cases xs with
  | nil=>simp at hl
  | cons x xs'=>exact ⟨x,xs',rfl⟩
 have h1:=hx 0 f rfl;rw [ho,h.sz] at h1;obtain ⟨y,hy1,hy2⟩:=h.rd enc w fuel _ x h1 fun n hn=>hw n (by simp [DataW.weightsEach,hn]);obtain ⟨z,hz1,hz2⟩:=hr.rd enc w fuel cs xs' (by simpa using hl) (fun i g hg=>by have:=hx (i+1) g (by simpa using hg);simpa using this) fun n hn=>hw n (by
  simp only [List.map_cons,DataW.weightsEach,List.mem_append];exact .inr hn)
 exact ⟨(y,z),⟨_,_,zm4,hy1,hz1⟩,hy2,hz2⟩⟩
theorem Rd.struct {P:Program} {t:TypeId} {fs:Array Field} {α:Type} {E:En α} {G:α→Prop} (ht:P.underlying t=some (.struct fs)) (ha:E.agg=true) (hc:P.cellsOf t=E.sz) (h:RdF P fs.toList 0 E G):Rd P t E G:=by
 refine ⟨hc, ?_, ?_⟩
 ·intro H enc w fuel cs x hx hw;obtain ⟨xs,n,rfl,rfl,hlen,hxl,hf⟩:=DataW.trod_struct ht hx;obtain ⟨y,hy1,hy2⟩:=h.rd enc w n cs xs (by simpa using hxl) (fun i f hi=>hf i f (by simpa using hi)) fun q hq=>hw q (by
   simp only [DataW.weights,ht];exact hq)
  rw [List.drop_zero,List.take_of_length_le (by rw [hlen,hc];exact Nat.le_refl _)] at hy1;exact ⟨y,hy1,hy2⟩
 ·intro w v hv _;obtain ⟨cs,rfl,_⟩:=okWide_struct ht hv;unfold En.val;rw [ha];simp [Value.cells]
theorem Rd.open {P:Program} {t:TypeId} {α:Type} {E:En α} {G:α→Prop} (hr:Rd P t E G) {H:Type} {enc:TypeId × Value→H} {W:World} {v:Value} {d:DataW H} {p:List MemPlace}
  (hv:Value.okWide P W .any 0 t v) (hd:DataW.Trod enc P W 0 (fun _=>true) true t v d p) (hw:∀n∈d.weights P t,n≤reachBytes):∃y,(Pd.rep E y).p ⟨W,fun _=>False,fun _ h=>h.elim⟩ v∧G y:=by
 obtain ⟨fuel,h⟩:=hd;obtain ⟨y,hy,hg⟩:=hr.rd enc W fuel _ _ h hw;refine ⟨y,⟨v.cells.toList,hr.vl W v hv ⟨y,hy⟩, ?_⟩,hg⟩;exact E.mono (fun b hb=>⟨hb,fun h=>h⟩) hy
theorem Ex.below {s s':St} (h:Ex s s'):Below s.w.heap.size s.w s'.w:=⟨h.mv.os,h.mv.tape,h.mv.output,h.mv.size,fun k hk=>h.mv.blk k hk (fun h=>h)⟩
theorem okWide_any {P:Program} {W:World} {b:Nat} {t:TypeId} {v:Value} (h:Value.okWide P W .any b t v):Value.okWide P W .any 0 t v:=by
 unfold Value.okWide Row.okWide Cell.okWide Cell.ok World.has at *;exact h
section
variable {H : Type} {enc : TypeId × Value → H} {P : Program}
theorem stays {W W':World} (hl:laidOutB P=true) (hb:Below W.heap.size W W') {sp:Nat→Bool}:∀{ts:List TypeId} {vs:List Value} {ds:List (DataW H)} {ps:List MemPlace},
  (ts.all fun t=>P.readableRec t&&decide (t<P.types.size))=true→DataW.TrodAll enc P W 0 (fun _=>true) true ts vs ds ps→(∀p∈ps,p.block<W.heap.size)→(∀p∈ps,sp p.block=true) →
  DataW.TrodAll enc P W' 0 sp true ts vs ds ps
 | [],vs,ds,ps,_,h,_,_=>by
  obtain ⟨rfl,rfl,rfl⟩:=trodAll_nil h;exact trodAll_mk0
 | t::ts,vs,ds,ps,ha,h,hlt,hsp=>by
  obtain ⟨v,vs',d,ds',p,q,rfl,rfl,rfl,h1,h2⟩:=trodAll_cons h;simp only [List.all_cons,Bool.and_eq_true,decide_eq_true_eq] at ha;refine trodAll_cons_mk (WideElems.Trod_stays hl ha.1.1 ha.1.2 h1 (fun x hx=>hb.same (hlt x (List.mem_append_left _ hx))) fun x hx=>hsp x (List.mem_append_left _ hx)) ?_;exact stays hl hb (by simpa using ha.2) h2 (fun x hx=>hlt x (List.mem_append_right _ hx)) fun x hx=>hsp x (List.mem_append_right _ hx)
theorem post_law {f:Func} {s:ChangeSpec} {apart fresh handsOn again:Bool} {W W':World} {args:Array Value} {v:Value} {ds gs:List (DataW H)} {before:List MemPlace} {tb:TypeId}
  (hW:DataW.Whole enc P f.params.toList s.vars apart W args.toList ds gs before) (hb:Below W.heap.size W W') (hl:laidOutB P=true)
  (hrd:(f.params.toList.all fun t=>P.readableRec t&&decide (t<P.types.size))=true) (hs:s.vars=[]) (hrt:f.resultTypes = #[tb]) (hub:P.underlying tb=some .bool) (hv:v = .bool true)
  (hres:(s.fn H (ds++gs)).results=[.lit (.bool true)]) (hargs:(s.fn H (ds++gs)).args=ds) (hvars:(s.fn H (ds++gs)).vars=[]):s.post enc P f apart fresh handsOn again W args v W':=by
 subst hv;have hlt:=hW.lt;have hW':=hW;obtain ⟨p,q,hA,hV,rfl,hz,hn⟩:=hW;rw [hs] at hV;obtain ⟨rfl,rfl⟩:=trodVars_none hV;have hsub:∀x∈p,x∈p++([]:List MemPlace):=fun x hx=>by simpa using hx
 have harg:∀sp:Nat→Bool,(∀x∈p++([]:List MemPlace),sp x.block=true)→DataW.TrodAll enc P W' 0 sp true f.params.toList args.toList (s.fn H (ds++[])).args p:=fun sp hsp=>by
  rw [hargs];exact stays hl hb hrd hA (fun x hx=>hlt x (hsub x hx)) fun x hx=>hsp x (hsub x hx)
 have hvar:∀sp:Nat→Bool,DataW.TrodVars enc P W' sp s.vars (s.fn H (ds++[])).vars []:=fun sp=>by rw [hs,hvars];exact rfl
 have hr:∀(b:Nat) (sp:Nat→Bool) (hd:Bool),DataW.TrodAll enc P W' b sp hd f.resultTypes.toList ((Value.bool true).resultList f.resultTypes.size) (s.fn H (ds++[])).results []:=fun b sp hd=>by
  rw [hres,hrt];exact trodAll_cons_mk (shut_bool hub _) trodAll_mk0
 have hold:∀x∈p++([]:List MemPlace),(fun b=>decide (b<W.heap.size)) x.block=true:=fun x hx=>by simpa using hlt x hx
 refine ⟨ds,[],p++[],[],p,[],hW',hr _ _ _,harg _ hold,hvar _,World.keptBut_mono (fun x hx=>⟨hx, ?_⟩) (hb.frame (·∈p++[])),fun _=>?_⟩
 ·simpa using hx
 ·refine ⟨ok_one hrt rfl (okWide_bool_mk hub _),_,_,([]++p)++[],⟨[]++p,[],trodAll_append (harg _ (fun _ _=>rfl)) (hr _ _ _),hvar _,rfl, ?_, ?_⟩, ?_⟩
  ·intro b off hp;have hp':MemPlace.cell b off∈p++([]:List MemPlace):=by simpa using hp
   rw [hb.frozen (p:=⟨b,off,none⟩) (hlt _ hp')];exact hz b off hp'
  ·intro ha;simpa using hn ha
  ·intro x hx _;simpa using hx
end
end Go.Proofs.YtkbboemafklkkaaGreatDoor.V
namespace Go.Proofs.YtkbboemafklkkaaGreatDoor.V
open Go Go.ChangeShapes Go.WideShapes Go.RowKit
set_option linter.unusedVariables false
def lst4:List (String × DataW Unit):=[("math/bits.deBruijn32tab",Rows.laid_math_bits_deBruijn32tab),("math/bits.deBruijn64tab",Rows.laid_math_bits_deBruijn64tab),("internal/strconv.uint64pow10",Rows.laid_internal_strconv_uint64pow10),("scantling/heads.readies",Rows.laid_scantling_heads_readies)]
def lst:List (String × DataW Unit):=[("math/bits.deBruijn32tab",Rows.laid_math_bits_deBruijn32tab),("math/bits.deBruijn64tab",Rows.laid_math_bits_deBruijn64tab),("internal/strconv.uint64pow10",Rows.laid_internal_strconv_uint64pow10),("scantling/heads.readies",Rows.laid_scantling_heads_readies),("scantling/next.steps",Rows.laid_scantling_next_steps)]
theorem znp {H:Type} {enc:TypeId × Value→H} {P:Program} {w:World} {base:Nat} {sp:Nat→Bool} {held:Bool} {fuel:Nat} {t e:TypeId} {n:Nat} {cs:List Value} {bs:List Bool} {p:List MemPlace}
  (ht:P.underlying t=some (.array n e)) (he:P.underlying e=some .bool) (hce:P.cellsOf e=1) (hct:P.cellsOf t=n)
  (h:DataW.trod enc P w base sp held fuel t cs=some (.agg (bs.map fun b=>.lit (.bool b)),p)):cs=bs.map Value.bool:=by
 obtain ⟨xs,m,rfl,hx,hl,hn,hf⟩:=DataW.trod_array ht h;have hx1:=congrArg Prod.fst hx;simp only [DataW.agg.injEq] at hx1;have hbl:bs.length=n:=by
  have:=congrArg List.length hx1;simp at this;omega
 apply List.ext_getElem?;intro i
 by_cases hi:i<n
 ·have h1:=hf i hi;rw [hce,Nat.mul_one,List.getElem?_eq_getElem (by omega)] at h1;obtain ⟨b,hc,hb⟩:=DataW.trod_bool he h1;have h2:cs[i]?=some (.bool b):=by
   have:=congrArg (·[0]?) hc;simpa [List.getElem?_take,List.getElem?_drop] using this
  have h3:(bs.map fun b=>(DataW.lit (.bool b):DataW H))[i]?=some (.lit (.bool b)):=by
   rw [hx1,List.getElem?_map,List.getElem?_eq_getElem (by omega),hb];rfl
  rw [List.getElem?_map,Option.map_eq_some_iff] at h3;obtain ⟨b',hb',e⟩:=h3;cases e;rw [h2,List.getElem?_map,hb'];rfl
 ·rw [List.getElem?_eq_none (by omega),List.getElem?_eq_none (by simp;omega)]
def nameB1:List UInt8:=[40,115,99,97,110,116,108,105,110,103,47,110,101,120,116,46,115,116,101,112,41,46,110,111,100,101]
def nameB3:List UInt8:=[40,115,99,97,110,116,108,105,110,103,47,110,101,120,116,46,115,116,101,112,41,46,116,101,120,116]
def nameB4:List UInt8:=[40,115,99,97,110,116,108,105,110,103,47,110,101,120,116,46,115,116,101,112,41,46,104,97,108,102]
def stepsD:DataW Unit:=.map [(.int .i64 1,.iface "func" (.lit (.string nameB1))),(.int .i64 3,.iface "func" (.lit (.string nameB3))),(.int .i64 4,.iface "func" (.lit (.string nameB4)))]
def stepsL:List (Lit × DataW (List UInt8)):=[(.int .i64 1,.held nameB1),(.int .i64 3,.held nameB3),(.int .i64 4,.held nameB4)]
theorem key_int {P:Program} {k:TypeId} (hk:P.underlying k=some (.int .i64)) {v:Value} {l:Lit} (h:keyOf P k v=some l):∃n:Int,v = .int .i64 n∧l = .int .i64 n∧InR .i64 n:=by
 rw [keyOf_int hk] at h;unfold mapKey at h;rw [hk] at h;cases v <;> simp at h;obtain ⟨⟨rfl,h2⟩,rfl⟩:=h;exact ⟨_,rfl,rfl,by simpa [Lit.wf,InR] using h2⟩
theorem zpd {P:Program} {t:TypeId} {ps rs:Array TypeId} {va:Bool} {v:Value} (ht:P.underlying t=some (.func ps rs va)) (h:v.formed P t=true):v.cells.toList=[v]:=by
 cases v <;> simp [Value.formed,ht] at h <;> rfl
def entY (e:MapEntry):Int × Option Nat:=match e.key with | .int _ n=>(n,zdy gfmS n none) | _=>(0,none)
def entL (q:Lit × DataW (List UInt8)):Int × Option Nat:=match q.1 with | .int _ n=>(n,zdy gfmS n none) | _=>(0,none)
def Steps (W:World):Prop:=∃m t fr es clock ys,W.heap[0]?=some (.cells #[.map (some m)] t fr)∧W.heap[m]?=some (.map es clock)∧Fmst es clock ys∧ys.Perm gfmS
theorem zm6 {W:World} (h:funcsAt Tryz.prog W "scantling/next.steps" stepsD):Steps W:=by
 obtain ⟨g,t,cs,fuel,p,hg,ht,hv,hd⟩:=h;have hg':Tryz.prog.globalNamed "scantling/next.steps"=some 0:=by kernel_rfl
 have hty:(Tryz.prog.globals[0]?).map (·.type)=some 220:=by kernel_rfl
 obtain rfl:=Option.some.inj (hg'.symm.trans hg);obtain rfl:=Option.some.inj (hty.symm.trans ht);have e:DataW.funcsOut stepsD = .map stepsL:=by kernel_rfl
 rw [e] at hd;have hkt:Tryz.prog.underlying 3=some (.int .i64):=Tryz.underlying3;rcases WideElems.open_map Tryz.underlying220 hd with ⟨_,hx⟩ | ⟨m,es,clock,n,rfl,hcs,hb,_,F,hx⟩
 ·simp at hx
 ·simp only [Prod.mk.injEq,DataW.map.injEq] at hx;have hp:stepsL.Perm (es.toList.map (WideElems.rg Tryz.prog 3 (WideElems.elemAt (funcToken Tryz.prog) Tryz.prog W 0 (fun _=>true) true n 218))):=by
   rw [hx.1];exact sorted_perm _
  have ent:∀x∈es.toList,∃i:Int,x.key = .int .i64 i∧InR .i64 i∧entL (WideElems.rg Tryz.prog 3 (WideElems.elemAt (funcToken Tryz.prog) Tryz.prog W 0 (fun _=>true) true n 218) x)=(i,zdy gfmS i none)∧x.val=fidV (zdy gfmS i none):=by
   intro x hx';obtain ⟨y,hy⟩:=F.reads x hx';have hrg:=WideElems.rg_of hy;have hm:y∈stepsL:=hp.mem_iff.2 (List.mem_map.2 ⟨x,hx',hrg⟩);obtain ⟨i,hk1,hk2,hk3⟩:=key_int hkt (WideElems.rd_key hy);obtain ⟨z,hz1,hz2⟩:=WideElems.rd_val hy;unfold WideElems.elemAt at hz1;split at hz1
   case isFalse=>cases hz1
   rename_i hf
   rw [zpd Tryz.underlying218 hf] at hz1;refine ⟨i,hk1,hk3,by rw [hrg];simp only [entL,hk2], ?_⟩;unfold stepsL at hm;simp only [List.mem_cons,List.not_mem_nil,or_false] at hm;rcases hm with rfl | rfl | rfl
   ·simp only [Lit.int.injEq,true_and] at hk2;subst hk2;obtain ⟨z1,z2⟩:=z;simp only at hz2;subst hz2;exact func_of_trod (f0:=238) Tryz.underlying218 (by kernel_rfl) hz1
   ·simp only [Lit.int.injEq,true_and] at hk2;subst hk2;obtain ⟨z1,z2⟩:=z;simp only at hz2;subst hz2;exact func_of_trod (f0:=239) Tryz.underlying218 (by kernel_rfl) hz1
   ·simp only [Lit.int.injEq,true_and] at hk2;subst hk2;obtain ⟨z1,z2⟩:=z;simp only at hz2;subst hz2;exact func_of_trod (f0:=236) Tryz.underlying218 (by kernel_rfl) hz1
  obtain ⟨o,ho,hcell⟩:∃t fr,W.heap[0]?=some (.cells #[.map (some m)] t fr):=by
   unfold World.var? at hv;rw [hg'] at hv;simp only [Option.bind_some] at hv;split at hv
   ·rename_i cs' t' fr' hc
    refine ⟨t',fr', ?_⟩;rw [hc];simp only [Option.some.injEq] at hv;rw [hv,← Array.toArray_toList (xs:=cs),hcs]
   ·cases hv
  refine ⟨m,o,ho,es,clock,es.toList.map entY,hcell,hb,⟨F.stamped,by simp,fun i e q h1 h2=>?_⟩, ?_⟩
  ·have hm:=List.mem_of_getElem? h1;obtain ⟨j,hk1,hk3,_,hval⟩:=ent e hm;rw [List.getElem?_map,h1] at h2;simp only [Option.map_some,Option.some.injEq] at h2;subst h2;have hr:=zhz.1 hk3;simp only [entY,hk1];exact ⟨trivial,hr,hval⟩
  ·have h3:=(hp.map entL).symm;have e1:stepsL.map entL=gfmS:=by kernel_rfl
   rw [e1,List.map_map] at h3;refine List.Perm.trans (List.Perm.of_eq (List.map_congr_left fun x hx'=>?_)) h3;obtain ⟨j,hk1,_,hL,_⟩:=ent x hx';simp only [Function.comp,entY,hk1];exact hL.symm
def Tabs (W:World):Prop:=(Lib.TabIs Tryz.prog W "internal/strconv.uint64pow10" .u64 Lib.pow10Tab∧W.var? Tryz.prog "scantling/heads.readies"=some (gdat1.map Value.bool).toArray)∧Steps W
theorem tab_of_laid {W:World} (h:laidMetH Tryz.prog lst W):Tabs W:=by
 have hs:("scantling/next.steps",(DataW.iface "func table" stepsD:DataW Unit))∈lst:=by
  have e:(Rows.laid_scantling_next_steps:DataW Unit)=DataW.iface "func table" stepsD:=by kernel_rfl
  unfold lst;rw [e];simp
 have h3:=zm6 (h.funcs hs);have e0:laidMetH Tryz.prog lst W=(laidMet Tryz.prog lst4 W∧handlesMet Tryz.prog [("scantling/next.steps",Rows.laid_scantling_next_steps)] W):=by kernel_rfl
 rw [e0] at h;have h':=h.1;unfold lst4 at h';refine ⟨⟨?_, ?_⟩,h3⟩
 ·have e:(Rows.laid_internal_strconv_uint64pow10:DataW Unit)=Lib.tabData .u64 Lib.pow10Tab:=by kernel_rfl
  have h2:=h'.tail.tail;rw [e] at h2;exact Lib.tabIs_of_head (g:=2) (t:=296) (e:=36) (n:=20) (by kernel_rfl) (by kernel_rfl) Tryz.underlying296 Tryz.underlying36 (by kernel_rfl) (by kernel_rfl) h2
 ·have e:(Rows.laid_scantling_heads_readies:DataW Unit) = .agg (gdat1.map fun b=>.lit (.bool b)):=by kernel_rfl
  have h2:=h'.tail.tail.tail;rw [e] at h2;obtain ⟨ps,⟨g',t',cs,fuel,p,q,hg',ht',hvar,hd,_,_⟩,_⟩:=h2;have hg:Tryz.prog.globalNamed "scantling/heads.readies"=some 1:=by kernel_rfl
  have hty:(Tryz.prog.globals[1]?).map (·.type)=some 285:=by kernel_rfl
  obtain rfl:=Option.some.inj (hg.symm.trans hg');obtain rfl:=Option.some.inj (hty.symm.trans ht');rw [hvar,← znp Tryz.underlying285 (e:=4) Tryz.underlying4 (by kernel_rfl) (by kernel_rfl) hd]
theorem gl_of_tab {W:World} (h:Tabs W):Gl ⟨W,fun _=>False,fun _ h=>h.elim⟩:=by
 obtain ⟨⟨h1,h2⟩,h3⟩:=h;refine ⟨fun p hp=>?_,fun p hp=>?_⟩
 ·unfold gtab at hp;rcases List.mem_cons.1 hp with rfl | hp
  ·refine ⟨fun h=>h, ?_⟩;unfold Lib.TabIs World.var? at h1;have hg:Tryz.prog.globalNamed "internal/strconv.uint64pow10"=some 2:=by kernel_rfl
   rw [hg] at h1;simp only [Option.bind_some] at h1;split at h1
   ·rename_i cs t fr hc
    refine ⟨t,fr, ?_⟩;show W.heap[2]?=_;rw [hc];simp only [Option.some.injEq] at h1;rw [h1];simp [Lib.pow10Tab]
   ·cases h1
  ·obtain rfl:=List.mem_singleton.1 hp;refine ⟨fun h=>h, ?_⟩;unfold World.var? at h2;have hg:Tryz.prog.globalNamed "scantling/heads.readies"=some 1:=by kernel_rfl
   rw [hg] at h2;simp only [Option.bind_some] at h2;split at h2
   ·rename_i cs t fr hc
    refine ⟨t,fr, ?_⟩;show W.heap[1]?=_;rw [hc];simp only [Option.some.injEq] at h2;rw [h2]
   ·cases h2
 ·unfold gmap at hp;obtain rfl:=List.mem_singleton.1 hp;obtain ⟨m,t,fr,es,clock,ys,k1,k2,k3,k4⟩:=h3;exact ⟨fun h=>h,m,t,fr,es,clock,ys,k1,fun h=>h,k2,k3,k4⟩
noncomputable def laidWorld (os:Os):World:=World.doorLaid Tryz.prog 400 os
theorem laid_met (os:Os) (args:Array Value):laidMetH Tryz.prog lst ((laidWorld os).forCall (fun _ _=>0) ⟨#[],args,[]⟩).memory:=
 laidMetH_of_parts3 (fuel:=8) (laidMet_of_run' 8 (by kernel_rfl) (by kernel_rfl)) (by kernel_rfl) (by kernel_rfl)
theorem weigh {H:Type} {P:Program} {ts:List TypeId} {ds:List (DataW H)} (h:(DataW.weightsEach P ts ds).all (·≤reachBytes)=true) (j:Nat) {t:TypeId} {d:DataW H} (ht:ts[j]?=some t) (hd:ds[j]?=some d):∀n∈d.weights P t,n≤reachBytes:=fun n hn=>by
 have:=List.all_eq_true.1 h n (DataW.weights_mem_each ht hd n hn);simpa using this
end Go.Proofs.YtkbboemafklkkaaGreatDoor.V
