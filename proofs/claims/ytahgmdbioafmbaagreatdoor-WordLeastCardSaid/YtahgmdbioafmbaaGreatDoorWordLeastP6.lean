/-
  The texts that the law's proof needs, part 6.
-/
import Derived.Carry
import Derived.ChangeSame
import Derived.Deep.Slices
import Derived.Handed
import Derived.KernelRfl
import Derived.LaidHandle
import Derived.LaidLaws
import Derived.LaidMore
import Derived.Lib.LaidTab
import Derived.OpenShut
import Derived.ProofKit
import Derived.RowKit
import Derived.SizedLaws
import Derived.Stop.LaidErr
import Derived.Test.YtahgmdbioafmbaaGreatDoorRows
import Derived.WalkKit
import Derived.WideKeyElems2
import Derived.Test.YtahgmdbioafmbaaGreatDoorWordLeastP5

namespace Go.Proofs.YtahgmdbioafmbaaGreatDoor.V
open Go
set_option linter.unusedVariables false
def ltL:List Int→List Int→Prop
 | a::u,b::v=>a<b∨(a=b∧ltL u v)
 | _,_=>False
theorem ltL_trans:∀{u v w:List Int},ltL u v→ltL v w→ltL u w
 | [],_,_,h,_=>h.elim
 | _::_,[],_,h,_=>h.elim
 | _::_,_::_,[],_,k=>k.elim
 | a::u,b::v,c::w,h,k=>by
  rcases h with h | ⟨h1,h2⟩
  ·rcases k with k | ⟨k1,k2⟩
   ·exact .inl (by omega)
   ·exact .inl (by omega)
  ·rcases k with k | ⟨k1,k2⟩
   ·exact .inl (by omega)
   ·exact .inr ⟨by omega,ltL_trans h2 k2⟩
theorem ltL_app (c d:Int):∀{u v:List Int},ltL u v→ltL (u++[c]) (v++[d])
 | [],_,h=>h.elim
 | _::_,[],h=>h.elim
 | a::u,b::v,h=>h.imp id fun h=>⟨h.1,ltL_app c d h.2⟩
theorem ltL_last {c d:Int} (h:c<d):∀u:List Int,ltL (u++[c]) (u++[d])
 | []=>.inl h
 | a::u=>.inr ⟨rfl,ltL_last h u⟩
def sls (u v:List Int):Prop:=u.length<v.length∨(u.length=v.length∧ltL u v)
def sle (u v:List Int):Prop:=u=v∨sls u v
theorem znu {u v w:List Int} (h:sls u v) (k:sls v w):sls u w:=by
 rcases h with h | ⟨h1,h2⟩ <;> rcases k with k | ⟨k1,k2⟩
 ·exact .inl (by omega)
 ·exact .inl (by omega)
 ·exact .inl (by omega)
 ·exact .inr ⟨by omega,ltL_trans h2 k2⟩
theorem sle_sls {u v w:List Int} (h:sle u v) (k:sls v w):sls u w:=h.elim (fun e=>by rw [e];exact k) fun h=>znu h k
theorem sls_sle {u v w:List Int} (h:sls u v) (k:sle v w):sls u w:=k.elim (fun e=>by rw [← e];exact h) fun k=>znu h k
theorem sle_trans {u v w:List Int} (h:sle u v) (k:sle v w):sle u w:=h.elim (fun e=>by rw [e];exact k) fun h=>.inr (sls_sle h k)
theorem sls_app {u v:List Int} (c d:Int) (h:sls u v):sls (u++[c]) (v++[d]):=h.imp (fun h=>by simp;omega) fun h=>⟨by simp;omega,ltL_app c d h.2⟩
theorem sls_last (u:List Int) {c d:Int} (h:c<d):sls (u++[c]) (u++[d]):=.inr ⟨by simp,ltL_last h u⟩
theorem sle_app {u v:List Int} {c d:Int} (h:sle u v) (hc:c≤d):sle (u++[c]) (v++[d]):=by
 rcases h with rfl | h
 ·rcases Int.lt_or_eq_of_le hc with h | rfl
  ·exact .inr (sls_last u h)
  ·exact .inl rfl
 ·exact .inr (sls_app c d h)
theorem sls_more (u:List Int) (c:Int):sls u (u++[c]):=.inl (by simp)
section
variable {T : Type} [DecidableEq T]
def Ris (acc:List (Qb T)):Prop:=∀(j m:Nat) (q q':Qb T),j<m→acc[j]?=some q→acc[m]?=some q'→sls q.2.2.2 q'.2.2.2
theorem stB_ris {i:Nat} {w:List Int} {acc:List (Qb T)} {e:Int × T} (h:Ris acc) (h2:∀q∈acc,sls q.2.2.2 (w++[e.1])):Ris (stB i w acc e):=fun j m q q' hjm hq hq'=>by
 unfold stB at hq hq';split at hq
 ·rename_i hh
  rw [if_pos hh] at hq';exact h j m q q' hjm hq hq'
 ·rename_i hh
  rw [if_neg hh] at hq';have hml:=(List.getElem?_eq_some_iff.1 hq').1;simp at hml;have hj:j<acc.length:=by omega
  rw [List.getElem?_append_left hj] at hq
  by_cases hm:m<acc.length
  ·rw [List.getElem?_append_left hm] at hq';exact h j m q q' hjm hq hq'
  ·have em:m=acc.length:=by omega
   subst em;rw [List.getElem?_append_right (Nat.le_refl _)] at hq';simp at hq';subst hq';exact h2 q (List.mem_of_getElem? hq)
theorem zoo {i:Nat} {w:List Int}:∀(es:List (Int × T)) (acc:List (Qb T)),es.Pairwise (fun a b=>a.1<b.1)→Ris acc→(∀q∈acc,∀e∈es,sls q.2.2.2 (w++[e.1])) →
  Ris (es.foldl (stB i w) acc)∧∀e∈es,∃q'∈es.foldl (stB i w) acc,q'.1=e.2∧sle q'.2.2.2 (w++[e.1])
 | [],acc,_,h,_=>⟨h,fun e h=>by cases h⟩
 | e::es,acc,hp,h,h2=>by
  rw [List.pairwise_cons] at hp;have h3:=stB_ris (i:=i) h fun q hq=>h2 q hq e (by simp);obtain ⟨k1,k2⟩:=zoo (i:=i) es (stB i w acc e) hp.2 h3 fun q hq e' he'=>by
   rcases stB_mem q hq with hq | hq
   ·exact h2 q hq e' (by simp [he'])
   ·rw [hq];exact sls_last w (hp.1 e' he')
  refine ⟨k1,fun e' he'=>?_⟩;rcases List.mem_cons.1 he' with rfl | he'
  ·cases hh:hasQ acc e'.2
   ·refine ⟨(e'.2,(i:Int),e'.1,w++[e'.1]),(zop i w es _).subset ?_,rfl,.inl rfl⟩;unfold stB;rw [hh];simp
   ·obtain ⟨q',a,b⟩:=hasQ_iff.1 hh;refine ⟨q',(zop i w es _).subset ((stB_pre i w acc e').subset a),b,.inr (h2 q' a e' (by simp))⟩
  ·exact k2 e' he'
theorem zsk {S:Sch T}:∀(i:Nat),(∀(j:Nat) (q:Qb T),j<i→(zdm S i)[j]?=some q→(S.ways q.1).Pairwise (fun a b=>a.1<b.1))→Ris (zdm S i)
 | 0,_=>fun j m q q' hjm hq hq'=>by
  have:=(List.getElem?_eq_some_iff.1 hq').1;simp [zdm] at this;omega
 | i+1,hst=>by
  have ih:=zsk i fun j q hj hq=>hst j q (by omega) (zes (zgw S i) hq);cases hi:(zdm S i)[i]? with
  | none=>rw [zlg hi];exact ih
  | some q0=>
   have hw:=hst i q0 (by omega) (zes (zgw S i) hi);rw [zh0 hi];refine (zoo _ _ hw ih fun q hq e he=>?_).1;rcases zlf S i q hq with h | ⟨p,q',h1,h2,h3,_⟩
   ·rw [h];exact .inl (by simp)
   ·rw [h3];exact sls_app _ _ (ih p i q' q0 h1 h2 hi)
theorem accB_least {S:Sch T} {i j:Nat} {q:Qb T} (hst:∀(j:Nat) (q:Qb T),j<i→(zdm S i)[j]?=some q→(S.ways q.1).Pairwise (fun a b=>a.1<b.1)) (hj:j<i) (hq:(zdm S i)[j]?=some q) {e:Int × T} (he:e∈S.ways q.1):
  ∃(m:Nat) (q':Qb T),(zdm S i)[m]?=some q'∧q'.1=e.2∧sle q'.2.2.2 (q.2.2.2++[e.1]):=by
 have hq0:(zdm S j)[j]?=some q:=by rw [← accB_at (Nat.le_of_lt hj)];exact hq
 have hst':∀(k:Nat) (q:Qb T),k<j→(zdm S j)[k]?=some q→(S.ways q.1).Pairwise (fun a b=>a.1<b.1):=fun k q hk h=>hst k q (by omega) (zes (znc S (Nat.le_of_lt hj)) h);have ih:=zsk j hst';have h1:=(zoo (i:=j) (w:=q.2.2.2) (S.ways q.1) (zdm S j) (hst j q hj hq) ih fun q' hq' e' he'=>by
  rcases zlf S j q' hq' with h | ⟨p,q2,k1,k2,k3,_⟩
  ·rw [h];exact .inl (by simp)
  ·rw [k3];exact sls_app _ _ (ih p j q2 q k1 k2 hq0)).2 e he
 obtain ⟨q',a,b,c⟩:=h1;have e1:zdm S (j+1)=(S.ways q.1).foldl (stB j q.2.2.2) (zdm S j):=zh0 hq0;rw [← e1] at a;obtain ⟨m,hm⟩:=List.getElem?_of_mem a;exact ⟨m,q',zes (znc S hj) hm,b,c⟩
theorem cov_least {S:Sch T} {step:T→Int→T→Prop} {B:Int→Prop} {i:Nat} (hst:∀(j:Nat) (q:Qb T),j<i→(zdm S i)[j]?=some q→(S.ways q.1).Pairwise (fun a b=>a.1<b.1))
  (hc:∀q∈zdm S i,∀c y,B c→step q.1 c y→∃b,b≤c∧(b,y)∈S.ways q.1) {w:List Int} {y:T} (h:Rn step S.start w y) (hw:∀c∈w,B c):
  (∃(m:Nat) (q:Qb T),(zdm S i)[m]?=some q∧q.1=y∧sle q.2.2.2 w)∨∃(k:Nat) (q:Qb T),i≤k∧(zdm S i)[k]?=some q∧sls q.2.2.2 w:=by
 induction h with
 | nil=>
  left;have:(zdm S 0)[0]?=some (S.start, -1,0,[]):=rfl;exact ⟨0,_,zes (znc S (Nat.zero_le i)) this,rfl,.inl rfl⟩
 | snoc h hs ih=>
  rename_i w x c y
  rcases ih fun c hc=>hw c (by simp [hc]) with ⟨m,q,h1,h2,h3⟩ | ⟨k,q,h1,h2,h3⟩
  ·by_cases hm:m<i
   ·rw [← h2] at hs;obtain ⟨b,hb1,hb⟩:=hc q (List.mem_of_getElem? h1) c y (hw c (by simp)) hs;obtain ⟨m',q',k1,k2,k3⟩:=accB_least hst hm h1 hb;exact .inl ⟨m',q',k1,k2,sle_trans k3 (sle_app h3 hb1)⟩
   ·exact .inr ⟨m,q,by omega,h1,sle_sls h3 (sls_more w c)⟩
  ·exact .inr ⟨k,q,h1,h2,znu h3 (sls_more w c)⟩
theorem OutB.least {S:Sch T} {step:T→Int→T→Prop} {B:Int→Prop} {b:Int} {v:Int × List Int × Int × Option T} (h:OutB S b v) (hs:∀x c y,(c,y)∈S.ways x→step x c y)
  (hst:∀i:Nat,(i:Int)≤b∨i=0→∀q∈zdm S i,(S.ways q.1).Pairwise (fun a b=>a.1<b.1))
  (hc:∀i:Nat,(i:Int)≤b∨i=0→∀q∈zdm S i,∀c y,B c→step q.1 c y→∃d,d≤c∧(d,y)∈S.ways q.1):
  (v.1=1→v.2.1=[]∧∀w y,(∀c∈w,B c)→Rn step S.start w y→S.hit y=false)∧(v.1=2→∃x,v.2.2.2=some x∧S.hit x=true∧Rn step S.start v.2.1 x∧∀w y,(∀c∈w,B c)→Rn step S.start w y→S.hit y=true→sle v.2.1 w)∧(v.1=1∨v.1=2∨v.1=3):=by
 cases h with
 | limit _ _=>exact ⟨(fun h=>by simp at h),(fun h=>by simp at h),.inr (.inr rfl)⟩
 | yes i hb h hno=>
  have hst':∀(j:Nat) (q:Qb T),j<i→(zdm S i)[j]?=some q→(S.ways q.1).Pairwise (fun a b=>a.1<b.1):=fun j q _ hq=>hst i (by omega) q (List.mem_of_getElem? hq);refine ⟨fun _=>⟨rfl,fun w y hw hr=>?_⟩,(fun h=>by simp at h),.inl rfl⟩;have hl:=List.getElem?_eq_none_iff.1 h;rcases cov_least hst' (hc i (by omega)) hr hw with ⟨m,q,h1,h2,_⟩ | ⟨k,q,h1,h2,_⟩
  ·have:=(List.getElem?_eq_some_iff.1 h1).1;rw [← h2];exact hno m q (by omega) h1
  ·have:=(List.getElem?_eq_some_iff.1 h2).1;omega
 | no i q hb h hh hno=>
  have hst':∀(j:Nat) (q:Qb T),j<i→(zdm S i)[j]?=some q→(S.ways q.1).Pairwise (fun a b=>a.1<b.1):=fun j q _ hq=>hst i (by omega) q (List.mem_of_getElem? hq);have hris:=zsk i hst';have hle:∀m q',i≤m→(zdm S i)[m]?=some q'→sle q.2.2.2 q'.2.2.2:=fun m q' him hq'=>by
   rcases Nat.lt_or_eq_of_le him with h1 | h1
   ·exact .inr (hris i m q q' h1 h hq')
   ·subst h1;rw [h] at hq';cases hq';exact .inl rfl
  refine ⟨(fun h=>by simp at h),fun _=>⟨q.1,rfl,hh,accB_rn hs i i q h,fun w y hw hr hy=>?_⟩,.inr (.inl rfl)⟩;rcases cov_least hst' (hc i (by omega)) hr hw with ⟨m,q',h1,h2,h3⟩ | ⟨k,q',h1,h2,h3⟩
  ·have hm:i≤m:=by
    rcases Nat.lt_or_ge m i with hm | hm
    ·have:=hno m q' hm h1;rw [h2,hy] at this;cases this
    ·exact hm
   exact sle_trans (hle m q' hm h1) h3
  ·exact .inr (sle_sls (hle k q' h1 h2) h3)
end
end Go.Proofs.YtahgmdbioafmbaaGreatDoor.V
namespace Go.Proofs.YtahgmdbioafmbaaGreatDoor.V
open Go
set_option linter.unusedVariables false
theorem rm_pre {d:List SNode} (h:Rt d) (hl:d.length≤16) (ht:Txt d) {b:Int} (hk:Lk d b) {w:List Int} (hw:∀c∈w,InR .u8 c) (hwl:(w.length:Int)<b∨w.length≤9) (i:Nat):Rm d (zgh d (w.take i)):=by
 have hu:∀c∈w.take i,InR .u8 c:=fun c hc=>hw c (List.mem_of_mem_take hc);have hli:(w.take i).length≤w.length:=by rw [List.length_take];omega
 rcases hk with ⟨k1,k2⟩ | k1
 ·exact rm_light h (by omega) ht k1 k2 hu
 ·exact rm_heavy h hl ht hu (by omega)
theorem sets_After_w {d:List SNode} (h:Rt d) (hl:d.length≤24) {w:List Int} (hw:∀c∈w,InR .u8 c) (hn:w.length≤1000) (hr:∀i,Rm d (zgh d (w.take i))):zcf d w (zgh d w):=by
 refine ⟨_,zh5 h.ne (by omega), ?_⟩;refine zgx (P:=fun k l v=>zcf.l1 d w _ k l v) w.length (fun i l=>l=zgh d (w.take i)) ?_ ?_ _ (by rw [List.take_zero,zna])
 ·rintro i l hi rfl;have hsn:zgh d (w.take (i+1))=onS d w[i] (zgh d (w.take i)):=by rw [List.take_succ_eq_append_getElem hi,ze0]
  have hc:=hw _ (List.getElem_mem hi);exact .inr ⟨_,rfl,fun k hk=>⟨fun _=>⟨_,zf3 hi,_,zlt ((hr i).on _ hc) hc,zh (by omega) (by omega),by rw [← hsn];exact hk⟩,fun h=>absurd (by omega) (df h)⟩⟩
 ·rintro l rfl k;refine ⟨fun h=>absurd (dt h) (by omega),fun _=>?_⟩;show zgh d w=_;rw [List.take_length]
theorem word_Is_w {d:List SNode} (h:Rt d) (hl:d.length≤16) (ht:Txt d) {b:Int} (hk:Lk d b) {w:List Int} (hw:∀c∈w,InR .u8 c) (hn:w.length≤1000) (hwl:(w.length:Int)<b∨w.length≤9):zh3 d w (endS d (zgh d w)):=by
 have hr:=rm_pre h hl ht hk hw hwl;have hm:=hr w.length;rw [List.take_length] at hm;exact ⟨_,sets_After_w h (by omega) hw hn hr,_,ziv hm.sm (by have:=hm.len;omega),rfl⟩
theorem ways_rise (d:List SNode) (l:TS):(zkj d l).Pairwise fun a b=>a.1<b.1:=by
 unfold zkj;rw [List.pairwise_map];exact bytC_srt _
theorem sets_least {d:List SNode} (h:Rt d) (hl:d.length≤16) (ht:Txt d) {b:Int} {v:Int × List Int × Int × Option TS} (ho:OutB (zfm d) b v):
  (v.1=1→v.2.1=[]∧∀w,(∀c∈w,InR .u8 c)→endS d (zgh d w)=false)∧(v.1=2→(∀c∈v.2.1,InR .u8 c)∧endS d (zgh d v.2.1)=true∧∀w,(∀c∈w,InR .u8 c)→endS d (zgh d w)=true→sle v.2.1 w)∧(v.1=1∨v.1=2∨v.1=3):=by
 obtain ⟨h1,h2,h3⟩:=ho.least (B:=fun c=>InR .u8 c) (zlu d) (fun i _ q _=>ways_rise d q.1) fun i _ q hq c y hc hs=>by
  obtain ⟨j,hj⟩:=List.getElem?_of_mem hq;obtain ⟨q1,q2,_⟩:=zsj hj;have hsm:∀s∈q.1,Sm d s:=fun s hs=>by rw [q1] at hs;exact (zja h (by omega) ht q2 hs).1
  obtain ⟨x,x1,x2,x3⟩:=onS_byte hsm hc;refine ⟨x,x2, ?_⟩;rw [hs.2,← x3];exact List.mem_map.2 ⟨x,x1,rfl⟩
 refine ⟨fun e=>⟨(h1 e).1,fun w hw=>(h1 e).2 w _ hw (aft_rn w hw)⟩,fun e=>?_,h3⟩;obtain ⟨x,x1,x2,x3,x4⟩:=h2 e;obtain ⟨y1,y2⟩:=rn_aft x3;exact ⟨y2,by rw [← y1];exact x2,fun w hw hwe=>x4 w _ hw (aft_rn w hw) hwe⟩
theorem ge_of {u v:List Int} (hu:∀c∈u,InR .u8 c) (hv:∀c∈v,InR .u8 c):Op.bytesLess (zmy u) (zmy v)=true→¬ (v=u∨ltL v u):=by
 induction u generalizing v with
 | nil=>
  cases v with
  | nil=>intro h;simp [zmy,Op.bytesLess] at h
  | cons b v=>intro _ h;exact h.elim (fun e=>by cases e) fun e=>e
 | cons a u ih=>
  cases v with
  | nil=>intro h;simp [zmy,Op.bytesLess] at h
  | cons b v=>
   have ha:=zcy.1 (hu a (by simp));have hb:=zcy.1 (hv b (by simp));have ea:(UInt8.ofNat a.toNat).toNat=a.toNat:=by rw [UInt8.toNat_ofNat'];omega
   have eb:(UInt8.ofNat b.toNat).toNat=b.toNat:=by rw [UInt8.toNat_ofNat'];omega
   intro h hh;have ih:=ih (v:=v) (fun c hc=>hu c (by simp [hc])) (fun c hc=>hv c (by simp [hc]));simp only [zmy,List.map_cons,Op.bytesLess] at h
   by_cases h1:UInt8.ofNat a.toNat<UInt8.ofNat b.toNat
   ·have:=UInt8.lt_iff_toNat_lt.1 h1;rw [ea,eb] at this;rcases hh with e | e
    ·cases e;omega
    ·rcases e with e | ⟨e,_⟩ <;> omega
   ·by_cases h2:UInt8.ofNat a.toNat=UInt8.ofNat b.toNat
    ·have e3:a=b:=by
      have:=congrArg UInt8.toNat h2;rw [ea,eb] at this;omega
     subst e3;have h4:Op.bytesLess (zmy u) (zmy v)=true:=by
      simpa [zmy,h1] using h
     refine ih h4 (hh.imp (fun e=>by cases e;rfl) fun e=>?_);rcases e with e | ⟨_,e⟩
     ·omega
     ·exact e
    ·simp [h1,h2] at h
theorem out_lim {S:Sch TS} {b:Int} {v:Int × List Int × Int × Option TS} (hb:0≤b) (h:OutB S b v):v.1=3→v.2.1=[]∧v.2.2.1=b:=by
 cases h with
 | limit _ _=>exact fun _=>⟨rfl,by show max b 0=b;omega⟩
 | yes i _ _ _=>exact fun h=>by simp at h
 | no i q _ _ _ _=>exact fun h=>by simp at h
theorem out_no {d:List SNode} {b:Int} {v:Int × List Int × Int × Option TS} (h:OutB (zfm d) b v):v.1=2→(v.2.1.length:Int)<b:=by
 cases h with
 | limit _ _=>exact fun h=>by simp at h
 | yes i _ _ _=>exact fun h=>by simp at h
 | no i q hib hq _ _=>
  intro _;have:=(zsj hq).2.2;show (q.2.2.2.length:Int)<b;omega
theorem law18_WordLeast_true {d:List SNode} {w:List Int} {b:Int} (ht:Txt d) (hw:∀c∈w,InR .u8 c) (hb:InR .u8 b):zgt d w b true:=by
 have hb':=zcy.1 hb;obtain ⟨r6,h6,h6b⟩:=few18_ex ht;have hlx:∃r10,(r6=true→zgq d d b r10)∧(r6=true→r10=true→b≤10∨∀n∈d,n.1≠8∧n.1≠9):=by
  cases r6
  ·exact ⟨false,(fun h=>by cases h),(fun h=>by cases h)⟩
  ·obtain ⟨r,h1,h2⟩:=Light_ex (d:=d) (by have:=(h6b rfl).2.1;omega) b;exact ⟨r,fun _=>h1,fun _=>h2⟩
 obtain ⟨r10,h10,h10b⟩:=hlx;refine ⟨true,awake18,r6,fun _=>h6,_,rfl,r10,fun h=>h10 (by simp at h;exact h.1.1),fun _=>⟨true,awake18,rfl⟩,fun hc=>?_⟩;simp only [Bool.not_true,Bool.false_or,Bool.or_eq_false_iff,Bool.not_eq_false',decide_eq_false_iff_not] at hc;obtain ⟨⟨⟨g1,g2⟩,g3⟩,g4⟩:=hc;obtain ⟨hR,hl,hsz⟩:=h6b g1;have lb:Lk d b:=lk_of (h10b g1 g4) hsz;have ho:=srchB_out (zfm d) b;obtain ⟨t1,t2,t3⟩:=sets_least hR hl ht ho;have tm:=ho.made hb'.1;have tw:=word_len ho;have tlim:=out_lim hb'.1 ho;have tb:=out_no ho;have hIs:∀w:List Int,(∀c∈w,InR .u8 c)→(decide (0<(sat (zbm d ((d.length:Int)-1) w))))=endS d (zgh d w):=fun w _=>(ends_ways d w).symm;refine ⟨_,zga hR hl ht (by omega) lb,fun h3=>?_,fun h3=>⟨_,zq7 hR (by omega) ht (by omega) hw,fun h1=>?_,fun h1=>?_⟩⟩
 ·have k3:(zgm (zfm d) b).1=3:=by simpa [zdj] using h3
  obtain ⟨e1,e2⟩:=tlim k3;refine ⟨true, ?_,rfl⟩;simp [zdj,e1,e2]
 ·have k1:(zgm (zfm d) b).1=1:=by simpa [zdj] using h1
  obtain ⟨e1,e2⟩:=t1 k1;have e3:=e2 w hw;rw [← hIs w hw] at e3;refine ⟨true, ?_, ?_⟩
  ·rw [e3];simp [zdj,e1]
  ·have:decide ((zdj (zgm (zfm d) b)).1.2.2.2.2.2.2≤b)=true:=decide_eq_true tm;rw [this];rfl
 ·have k3:¬ (zgm (zfm d) b).1=3:=by simpa [zdj] using h3
  have k1:¬ (zgm (zfm d) b).1=1:=by simpa [zdj] using h1
  have k2:(zgm (zfm d) b).1=2:=by omega
  obtain ⟨u1,u2,u3⟩:=t2 k2;have ul:=tb k2;obtain ⟨r,r1,r2⟩:=of10 hR ht;have hne:∀w:List Int,(∀c∈w,InR .u8 c)→(zbm d ((d.length:Int)-1) w≠0↔endS d (zgh d w)=true):=fun w hw=>by
   rw [← hIs w hw,sat_pos,decide_eq_true_iff]
  have g:=r2.ge _ u1 ((hne _ u1).2 u2);obtain ⟨x,x1,x2,x3⟩:=r2.ex g.1 (by omega);have hx:=u3 x x1 ((hne x x1).1 x2);have hxl:(zgm (zfm d) b).2.1.length≤x.length:=by
   rcases hx with e | e
   ·rw [e];exact Nat.le_refl _
   ·rcases e with e | ⟨e,_⟩ <;> omega
  have hlen:((zgm (zfm d) b).2.1.length:Int)=r.1:=by omega
  have b27:(false:Bool)=((((zdj (zgm (zfm d) b)).1.1 != 2)||(decide (r.1<0)))||(((zdj (zgm (zfm d) b)).1.2.1.length:Int) != r.1)):=by
   have q1:((zdj (zgm (zfm d) b)).1.1 != 2)=false:=by simp [zdj,k2]
   have q2:decide (r.1<0)=false:=decide_eq_false (by omega);have q3:(((zdj (zgm (zfm d) b)).1.2.1.length:Int) != r.1)=false:=by simp [zdj,hlen]
   rw [q1,q2,q3];rfl
  refine ⟨zh (by omega) (by omega),r,r1,false,b27,true,fun _=>?_,(fun h=>by cases h),fun _=>⟨_,rfl,_,rfl, ?_⟩⟩
  ·have:=word_Is_w hR hl ht lb u1 (by omega) (.inl ul);rw [u2] at this;exact this
  ·symm
   rw [Bool.or_eq_true,Bool.or_eq_true,Bool.not_eq_true',decide_eq_false_iff_not,decide_eq_true_iff,Bool.and_eq_true]
   by_cases hwe:endS d (zgh d w)=true
   ·rcases u3 w hw hwe with e | e
    ·right;refine ⟨by simp [zdj,e], ?_⟩;cases hs:Op.bytesLess (zmy w) (zmy (zgm (zfm d) b).2.1)
     ·simp [strGe,zdj,hs]
     ·exact absurd (.inl e) (ge_of hw u1 hs)
    ·rcases e with e | ⟨e1,e2⟩
     ·left;right;simp only [zdj];omega
     ·right;refine ⟨by simp [zdj,e1], ?_⟩;cases hs:Op.bytesLess (zmy w) (zmy (zgm (zfm d) b).2.1)
      ·simp [strGe,zdj,hs]
      ·exact absurd (.inr e2) (ge_of hw u1 hs)
   ·left;left;rw [← hIs w hw] at hwe;simpa using hwe
open Go.ChangeShapes Go.WideShapes Go.RowKit
structure Rd (P:Program) (t:TypeId) {α:Type} (E:En α) (G:α→Prop):Prop where
 sz:P.cellsOf t=E.sz
 rd:∀{H:Type} (enc:TypeId × Value→H) (w:World) (fuel:Nat) (cs:List Value) (x:DataW H × List MemPlace),
  DataW.trod enc P w 0 (fun _=>true) true fuel t cs=some x→(∀n∈x.1.weights P t,n≤reachBytes)→∃y,E.R w (fun b=>b<w.heap.size) cs y∧G y
 vl:∀(w:World) (v:Value),Value.okWide P w .any 0 t v→(∃y,E.R w (fun b=>b<w.heap.size) v.cells.toList y)→v=E.val v.cells.toList
theorem Rd.int {P:Program} {t:TypeId} {k:IntKind} (ht:P.underlying t=some (.int k)) (hc:P.cellsOf t=1):Rd P t (En.int k) (InR k):=by
 refine ⟨hc, ?_, ?_⟩
 ·intro H enc w fuel cs x h _;obtain ⟨n,rfl,_,hw⟩:=DataW.trod_int ht h;have:InR k n:=by simpa [Lit.wf,InR] using hw
  exact ⟨n,⟨rfl,this⟩,this⟩
 ·intro w v hv _;obtain ⟨n,rfl⟩:=okWide_int ht hv;rfl
theorem Rd.str {P:Program} {t:TypeId} (ht:P.underlying t=some .string) (hc:P.cellsOf t=1):Rd P t En.str (fun y=>y.length≤140737488351232):=by
 refine ⟨hc, ?_, ?_⟩
 ·intro H enc w fuel cs x h hwt;obtain ⟨s,rfl,hx,hs⟩:=DataW.trod_string ht h;have hl:s.data.toList.length≤9223372036854775807:=by simpa [maxLen] using hs
  have h2:s.data.toList.length≤140737488351232:=hwt _ (by rw [hx];simp [DataW.weights]);exact ⟨s.data.toList,⟨rfl,hl⟩,h2⟩
 ·intro w v hv _;simp only [Value.okWide,ht,Cell.okWide,Cell.ok] at hv;cases v <;> simp at hv;rfl
theorem znh {H:Type} {P:Program} {e:TypeId}:∀{l:List (DataW H)} {d:DataW H},d∈l→∀n∈d.weights P e,n∈DataW.weightsAll P e l
 | [],_,h,_,_=>by cases h
 | d'::l,d,h,n,hn=>by
  simp only [DataW.weightsAll,List.mem_append];rcases List.mem_cons.1 h with rfl | h
  ·exact .inl hn
  ·exact .inr (znh h n hn)
theorem Rd.slice {P:Program} {t e:TypeId} {α:Type} {E:En α} {G:α→Prop} (ht:P.underlying t=some (.slice e)) (hc:P.cellsOf t=1) (hby:Nat.blt 0 (P.bytesOf e)=true) (he:Rd P e E G):
  Rd P t (En.slice E) (fun xs=>xs.length≤140737488351232∧∀y∈xs,G y):=by
 refine ⟨hc, ?_, ?_⟩
 ·intro H enc w fuel cs x h hwt;rcases Deep.open_slice ht h with ⟨rfl,_⟩ | ⟨a,len,cap,m,n,D,Pl,rfl,hb,hl,hm,hmm,hxe,hx⟩
  ·exact ⟨[],⟨_,rfl,zew E _ _⟩,Nat.zero_le _,by simp⟩
  ·simp only [if_true] at hmm;subst hmm;have hall:∀i,i<len→∃p:α × List Value,w.cells? 0 (a.add (i*P.cellsOf e)) (P.cellsOf e)=some p.2∧E.R w (fun b=>b<w.heap.size) p.2 p.1∧G p.1:=fun i hi=>by
    obtain ⟨cs',h1,h2⟩:=hx i (by omega);obtain ⟨y,h3,h4⟩:=he.rd enc w n cs' _ h2 fun q hq=>hwt q (by
     rw [hxe];simp only [DataW.weights,ht,List.mem_cons,List.mem_append];exact .inr (.inl (znh (List.mem_map.2 ⟨i,by simpa using hi,rfl⟩) q hq)))
    exact ⟨(y,cs'),h1,h3,h4⟩
   have hmax2:len≤140737488351232:=by
    have h1:=hwt ((len+(m-len))*P.bytesOf e) (by rw [hxe];simp [DataW.weights,ht]);have h2:0<P.bytesOf e:=Nat.le_of_ble_eq_true hby;have h3:(len+(m-len))*1≤(len+(m-len))*P.bytesOf e:=Nat.mul_le_mul_left _ h2;have h4:reachBytes=140737488351232:=rfl;omega
   have hmax:len≤lim:=by have:maxLen≤lim:=by decide
                         omega
   by_cases h0:len=0
   ·subst h0;exact ⟨[],⟨_,rfl,some a,m,rfl,Nat.zero_le _,(fun h=>by cases h),Nat.zero_le _,fun h=>absurd rfl h⟩,Nat.zero_le _,by simp⟩
   have hinh:Inhabited (α × List Value):=⟨(hall 0 (by omega)).choose⟩;obtain ⟨f,hf⟩:=Deep.choose_lt hall;have hsz:=E.pos;rw [← he.sz] at hsz;obtain ⟨hcell0,hblk⟩:a.spot=none∧a.block<w.heap.size:=by
    obtain ⟨_,hl2,hcl⟩:=World.cells?_some (hf 0 (by omega)).1;have h2:=hcl 0 hsz;rw [List.getElem?_eq_getElem (by omega)] at h2;simp only [Nat.zero_mul,Addr.add,if_true,World.cell?] at h2;cases hb2:w.heap[a.block]? with
    | none=>simp [hb2] at h2
    | some o=>
     refine ⟨?_,(Array.getElem?_eq_some_iff.1 hb2).1⟩;cases o <;> simp [hb2] at h2;exact h2.1
   refine ⟨(List.range len).map (fun i=>(f i).1),⟨_,rfl,some a,m, ?_,by simpa using hl,(fun h=>by cases h),by simpa using hmax,fun _=>⟨a.block,a.off,(List.range len).map (fun i=>(f i).2), ?_,hblk,⟨by simp, ?_⟩, ?_⟩⟩,by simpa using hmax2, ?_⟩
   ·simp
   ·cases a;simp at hcell0;subst hcell0;rfl
   ·intro i c y hc1 hy1;have hi:i<len:=by have:=(List.getElem?_eq_some_iff.1 hc1).1;simpa using this
    simp [hi] at hc1 hy1;subst hc1;subst hy1;exact (hf i hi).2.1
   ·have hlens:∀c∈(List.range len).map (fun i=>(f i).2),c.length=E.sz:=by
     intro c hc;simp only [List.mem_map,List.mem_range] at hc;obtain ⟨i,hi,rfl⟩:=hc;rw [(World.cells?_some (hf i hi).1).2.1,he.sz]
    intro j u hj;have hjl:j<len*E.sz:=by
     have:=(List.getElem?_eq_some_iff.1 hj).1;rw [zg7 hlens] at this;simpa using this
    have hp:0<E.sz:=E.pos;have hi:j / E.sz<len:=Nat.div_lt_of_lt_mul (by rw [Nat.mul_comm];exact hjl);have hk:j % E.sz<E.sz:=Nat.mod_lt _ hp;obtain ⟨_,hl2,hcl⟩:=World.cells?_some (hf _ hi).1;have hcell:=hcl (j % E.sz) (by rw [he.sz];exact hk);rw [he.sz] at hl2;have hg:=zg8 hlens (i:=j / E.sz) (cs:=(f (j / E.sz)).2) (j:=j % E.sz) (u:=(f (j / E.sz)).2[j % E.sz]'(by omega)) (by simp [hi]) (by simp);rw [Nat.mul_comm,Nat.div_add_mod] at hg;rw [hg] at hj;rw [List.getElem?_eq_getElem (by omega),hj,Deep.add_add,he.sz,Nat.mul_comm,Nat.div_add_mod] at hcell;rw [← hcell];cases a;simp at hcell0;subst hcell0;rw [zd6]
   ·intro y hy;simp only [List.mem_map,List.mem_range] at hy;obtain ⟨i,hi,rfl⟩:=hy;exact (hf i hi).2.2
 ·intro w v hv _;simp only [Value.okWide,ht,Cell.okWide,Cell.ok] at hv;cases v <;> simp at hv;rfl
theorem u64_word {n:Int} (h:InR .u64 n):∃m:Nat,m<2 ^ 64∧n=m:=by
 simp [InR,IntKind.min,IntKind.max,IntKind.signed,IntKind.bits] at h;exact ⟨n.toNat,by omega,by omega⟩
theorem Rd.cls {P:Program} {t e:TypeId} (ht:P.underlying t=some (.array 4 e)) (hc:P.cellsOf t=4) (he:P.underlying e=some (.int .u64)) (hce:P.cellsOf e=1):Rd P t En.cls (fun _=>True):=by
 refine ⟨hc, ?_, ?_⟩
 ·intro H enc w fuel cs x h _;obtain ⟨xs,m,rfl,rfl,hlen,hn,hx⟩:=DataW.trod_array ht h;rw [hc] at hlen
  match cs,hlen with
  | [u0,u1,u2,u3],_=>
   have hx':∀i (hi:i<4) u,[u0,u1,u2,u3][i]?=some u→∃q:Nat,q<2 ^ 64∧u = .int .u64 q:=by
    intro i hi u hu;have h1:=hx i hi;rw [hce,Nat.mul_one,List.getElem?_eq_getElem (by omega)] at h1;have h2:List.take 1 (List.drop i [u0,u1,u2,u3])=[u]:=by
     match i,hi with
     | 0,_ | 1,_ | 2,_ | 3,_=>simp at hu;subst hu;rfl
    rw [h2] at h1;obtain ⟨n,h3,_,h4⟩:=DataW.trod_int he h1;obtain ⟨q,hq,rfl⟩:=u64_word (n:=n) (by simpa [Lit.wf,InR] using h4);simp at h3;exact ⟨q,hq,h3⟩
   obtain ⟨q0,h0,rfl⟩:=hx' 0 (by omega) u0 rfl;obtain ⟨q1,h1,rfl⟩:=hx' 1 (by omega) u1 rfl;obtain ⟨q2,h2,rfl⟩:=hx' 2 (by omega) u2 rfl;obtain ⟨q3,h3,rfl⟩:=hx' 3 (by omega) u3 rfl;refine ⟨Cl.ofWords q0 q1 q2 q3, ?_,trivial⟩;obtain ⟨e0,e1,e2,e3⟩:=Cl.ofWords_word h0 h1 h2 h3;show _=zbu _;unfold zbu;rw [e0,e1,e2,e3]
 ·intro w v hv _;simp only [Value.okWide,ht] at hv;obtain ⟨cs,rfl,_⟩:=hv;simp [En.val,En.cls,Value.cells]
structure RdF (P:Program) (fs:List Field) (o:Nat) {α:Type} (E:En α) (G:α→Prop):Prop where
 rd:∀{H:Type} (enc:TypeId × Value→H) (w:World) (fuel:Nat) (cs:List Value) (xs:List (DataW H × List MemPlace)),xs.length=fs.length →
  (∀(i:Nat) (f:Field),fs[i]?=some f→DataW.trod enc P w 0 (fun _=>true) true fuel f.type ((cs.drop f.offset).take (P.cellsOf f.type))=xs[i]?) →
  (∀n∈DataW.weightsEach P (fs.map (·.type)) (xs.map (·.1)),n≤reachBytes)→∃y,E.R w (fun b=>b<w.heap.size) ((cs.drop o).take E.sz) y∧G y
theorem RdF.last {P:Program} {f:Field} {o:Nat} {α:Type} {E:En α} {G:α→Prop} (h:Rd P f.type E G) (ho:f.offset=o):RdF P [f] o E G:=⟨by
 intro H enc w fuel cs xs hl hx hw;obtain ⟨x,rfl⟩:∃x,xs=[x]:=List.length_eq_one_iff.1 hl;have h1:=hx 0 f rfl;rw [ho,h.sz] at h1;exact h.rd enc w fuel _ x h1 fun n hn=>hw n (by simp [DataW.weightsEach,hn])⟩
theorem RdF.solo {P:Program} {fs:List Field} {o:Nat} {α:Type} {E:En α} {G:α→Prop} (h:RdF P fs o E G):RdF P fs o E.solo G:=⟨h.rd⟩
theorem zo5 {xs:List Value} {o m n:Nat}:(xs.drop o).take (m+n)=(xs.drop o).take m++(xs.drop (o+m)).take n:=by
 rw [List.take_add,List.drop_drop]
theorem RdF.cons {P:Program} {f:Field} {fs:List Field} {o:Nat} {α β:Type} {E:En α} {F:En β} {G:α→Prop} {K:β→Prop} (h:Rd P f.type E G) (ho:f.offset=o) (hr:RdF P fs (o+E.sz) F K):RdF P (f::fs) o (E.cat F) (fun x=>G x.1∧K x.2):=⟨by
 intro H enc w fuel cs xs hl hx hw;obtain ⟨x,xs',rfl⟩:∃x xs',xs=x::xs':=by
  cases xs with
  | nil=>simp at hl
  | cons x xs'=>exact ⟨x,xs',rfl⟩
 have h1:=hx 0 f rfl;rw [ho,h.sz] at h1;obtain ⟨y,hy1,hy2⟩:=h.rd enc w fuel _ x h1 fun n hn=>hw n (by simp [DataW.weightsEach,hn]);obtain ⟨z,hz1,hz2⟩:=hr.rd enc w fuel cs xs' (by simpa using hl) (fun i g hg=>by have:=hx (i+1) g (by simpa using hg);simpa using this) fun n hn=>hw n (by
  simp only [List.map_cons,DataW.weightsEach,List.mem_append];exact .inr hn)
 exact ⟨(y,z),⟨_,_,zo5,hy1,hz1⟩,hy2,hz2⟩⟩
theorem Rd.struct {P:Program} {t:TypeId} {fs:Array Field} {α:Type} {E:En α} {G:α→Prop} (ht:P.underlying t=some (.struct fs)) (ha:E.agg=true) (hc:P.cellsOf t=E.sz) (h:RdF P fs.toList 0 E G):Rd P t E G:=by
 refine ⟨hc, ?_, ?_⟩
 ·intro H enc w fuel cs x hx hw;obtain ⟨xs,n,rfl,rfl,hlen,hxl,hf⟩:=DataW.trod_struct ht hx;obtain ⟨y,hy1,hy2⟩:=h.rd enc w n cs xs (by simpa using hxl) (fun i f hi=>hf i f (by simpa using hi)) fun q hq=>hw q (by
   simp only [DataW.weights,ht];exact hq)
  rw [List.drop_zero,List.take_of_length_le (by rw [hlen,hc];exact Nat.le_refl _)] at hy1;exact ⟨y,hy1,hy2⟩
 ·intro w v hv _;obtain ⟨cs,rfl,_⟩:=okWide_struct ht hv;unfold En.val;rw [ha];simp [Value.cells]
theorem Rd.open {P:Program} {t:TypeId} {α:Type} {E:En α} {G:α→Prop} (hr:Rd P t E G) {H:Type} {enc:TypeId × Value→H} {W:World} {v:Value} {d:DataW H} {p:List MemPlace}
  (hv:Value.okWide P W .any 0 t v) (hd:DataW.Trod enc P W 0 (fun _=>true) true t v d p) (hw:∀n∈d.weights P t,n≤reachBytes):∃y,(Pd.rep E y).p ⟨W,fun _=>False,fun _ h=>h.elim⟩ v∧G y:=by
 obtain ⟨fuel,h⟩:=hd;obtain ⟨y,hy,hg⟩:=hr.rd enc W fuel _ _ h hw;refine ⟨y,⟨v.cells.toList,hr.vl W v hv ⟨y,hy⟩, ?_⟩,hg⟩;exact E.mono (fun b hb=>⟨hb,fun h=>h⟩) hy
theorem Ex.below {s s':St} (h:Ex s s'):Below s.w.heap.size s.w s'.w:=⟨h.mv.os,h.mv.tape,h.mv.output,h.mv.size,fun k hk=>h.mv.blk k hk (fun h=>h)⟩
theorem okWide_any {P:Program} {W:World} {b:Nat} {t:TypeId} {v:Value} (h:Value.okWide P W .any b t v):Value.okWide P W .any 0 t v:=by
 unfold Value.okWide Row.okWide Cell.okWide Cell.ok World.has at *;exact h
section
variable {H : Type} {enc : TypeId × Value → H} {P : Program}
theorem stays {W W':World} (hl:laidOutB P=true) (hb:Below W.heap.size W W') {sp:Nat→Bool}:∀{ts:List TypeId} {vs:List Value} {ds:List (DataW H)} {ps:List MemPlace},
  (ts.all fun t=>P.readableRec t&&decide (t<P.types.size))=true→DataW.TrodAll enc P W 0 (fun _=>true) true ts vs ds ps→(∀p∈ps,p.block<W.heap.size)→(∀p∈ps,sp p.block=true) →
  DataW.TrodAll enc P W' 0 sp true ts vs ds ps
 | [],vs,ds,ps,_,h,_,_=>by
  obtain ⟨rfl,rfl,rfl⟩:=trodAll_nil h;exact trodAll_mk0
 | t::ts,vs,ds,ps,ha,h,hlt,hsp=>by
  obtain ⟨v,vs',d,ds',p,q,rfl,rfl,rfl,h1,h2⟩:=trodAll_cons h;simp only [List.all_cons,Bool.and_eq_true,decide_eq_true_eq] at ha;refine trodAll_cons_mk (WideElems.Trod_stays hl ha.1.1 ha.1.2 h1 (fun x hx=>hb.same (hlt x (List.mem_append_left _ hx))) fun x hx=>hsp x (List.mem_append_left _ hx)) ?_;exact stays hl hb (by simpa using ha.2) h2 (fun x hx=>hlt x (List.mem_append_right _ hx)) fun x hx=>hsp x (List.mem_append_right _ hx)
theorem post_law {f:Func} {s:ChangeSpec} {apart fresh handsOn again:Bool} {W W':World} {args:Array Value} {v:Value} {ds gs:List (DataW H)} {before:List MemPlace} {tb:TypeId}
  (hW:DataW.Whole enc P f.params.toList s.vars apart W args.toList ds gs before) (hb:Below W.heap.size W W') (hl:laidOutB P=true)
  (hrd:(f.params.toList.all fun t=>P.readableRec t&&decide (t<P.types.size))=true) (hs:s.vars=[]) (hrt:f.resultTypes = #[tb]) (hub:P.underlying tb=some .bool) (hv:v = .bool true)
  (hres:(s.fn H (ds++gs)).results=[.lit (.bool true)]) (hargs:(s.fn H (ds++gs)).args=ds) (hvars:(s.fn H (ds++gs)).vars=[]):s.post enc P f apart fresh handsOn again W args v W':=by
 subst hv;have hlt:=hW.lt;have hW':=hW;obtain ⟨p,q,hA,hV,rfl,hz,hn⟩:=hW;rw [hs] at hV;obtain ⟨rfl,rfl⟩:=trodVars_none hV;have hsub:∀x∈p,x∈p++([]:List MemPlace):=fun x hx=>by simpa using hx
 have harg:∀sp:Nat→Bool,(∀x∈p++([]:List MemPlace),sp x.block=true)→DataW.TrodAll enc P W' 0 sp true f.params.toList args.toList (s.fn H (ds++[])).args p:=fun sp hsp=>by
  rw [hargs];exact stays hl hb hrd hA (fun x hx=>hlt x (hsub x hx)) fun x hx=>hsp x (hsub x hx)
 have hvar:∀sp:Nat→Bool,DataW.TrodVars enc P W' sp s.vars (s.fn H (ds++[])).vars []:=fun sp=>by rw [hs,hvars];exact rfl
 have hr:∀(b:Nat) (sp:Nat→Bool) (hd:Bool),DataW.TrodAll enc P W' b sp hd f.resultTypes.toList ((Value.bool true).resultList f.resultTypes.size) (s.fn H (ds++[])).results []:=fun b sp hd=>by
  rw [hres,hrt];exact trodAll_cons_mk (shut_bool hub _) trodAll_mk0
 have hold:∀x∈p++([]:List MemPlace),(fun b=>decide (b<W.heap.size)) x.block=true:=fun x hx=>by simpa using hlt x hx
 refine ⟨ds,[],p++[],[],p,[],hW',hr _ _ _,harg _ hold,hvar _,World.keptBut_mono (fun x hx=>⟨hx, ?_⟩) (hb.frame (·∈p++[])),fun _=>?_⟩
 ·simpa using hx
 ·refine ⟨ok_one hrt rfl (okWide_bool_mk hub _),_,_,([]++p)++[],⟨[]++p,[],trodAll_append (harg _ (fun _ _=>rfl)) (hr _ _ _),hvar _,rfl, ?_, ?_⟩, ?_⟩
  ·intro b off hp;have hp':MemPlace.cell b off∈p++([]:List MemPlace):=by simpa using hp
   rw [hb.frozen (p:=⟨b,off,none⟩) (hlt _ hp')];exact hz b off hp'
  ·intro ha;simpa using hn ha
  ·intro x hx _;simpa using hx
end
end Go.Proofs.YtahgmdbioafmbaaGreatDoor.V
namespace Go.Proofs.YtahgmdbioafmbaaGreatDoor.V
open Go Go.ChangeShapes Go.WideShapes Go.RowKit
set_option linter.unusedVariables false
def lst4:List (String × DataW Unit):=[("math/bits.deBruijn32tab",Rows.laid_math_bits_deBruijn32tab),("math/bits.deBruijn64tab",Rows.laid_math_bits_deBruijn64tab),("internal/strconv.uint64pow10",Rows.laid_internal_strconv_uint64pow10),("scantling/heads.readies",Rows.laid_scantling_heads_readies)]
def lst:List (String × DataW Unit):=[("math/bits.deBruijn32tab",Rows.laid_math_bits_deBruijn32tab),("math/bits.deBruijn64tab",Rows.laid_math_bits_deBruijn64tab),("internal/strconv.uint64pow10",Rows.laid_internal_strconv_uint64pow10),("scantling/heads.readies",Rows.laid_scantling_heads_readies),("scantling/next.steps",Rows.laid_scantling_next_steps)]
theorem zpt {H:Type} {enc:TypeId × Value→H} {P:Program} {w:World} {base:Nat} {sp:Nat→Bool} {held:Bool} {fuel:Nat} {t e:TypeId} {n:Nat} {cs:List Value} {bs:List Bool} {p:List MemPlace}
  (ht:P.underlying t=some (.array n e)) (he:P.underlying e=some .bool) (hce:P.cellsOf e=1) (hct:P.cellsOf t=n)
  (h:DataW.trod enc P w base sp held fuel t cs=some (.agg (bs.map fun b=>.lit (.bool b)),p)):cs=bs.map Value.bool:=by
 obtain ⟨xs,m,rfl,hx,hl,hn,hf⟩:=DataW.trod_array ht h;have hx1:=congrArg Prod.fst hx;simp only [DataW.agg.injEq] at hx1;have hbl:bs.length=n:=by
  have:=congrArg List.length hx1;simp at this;omega
 apply List.ext_getElem?;intro i
 by_cases hi:i<n
 ·have h1:=hf i hi;rw [hce,Nat.mul_one,List.getElem?_eq_getElem (by omega)] at h1;obtain ⟨b,hc,hb⟩:=DataW.trod_bool he h1;have h2:cs[i]?=some (.bool b):=by
   have:=congrArg (·[0]?) hc;simpa [List.getElem?_take,List.getElem?_drop] using this
  have h3:(bs.map fun b=>(DataW.lit (.bool b):DataW H))[i]?=some (.lit (.bool b)):=by
   rw [hx1,List.getElem?_map,List.getElem?_eq_getElem (by omega),hb];rfl
  rw [List.getElem?_map,Option.map_eq_some_iff] at h3;obtain ⟨b',hb',e⟩:=h3;cases e;rw [h2,List.getElem?_map,hb'];rfl
 ·rw [List.getElem?_eq_none (by omega),List.getElem?_eq_none (by simp;omega)]
def nameB1:List UInt8:=[40,115,99,97,110,116,108,105,110,103,47,110,101,120,116,46,115,116,101,112,41,46,110,111,100,101]
def nameB3:List UInt8:=[40,115,99,97,110,116,108,105,110,103,47,110,101,120,116,46,115,116,101,112,41,46,116,101,120,116]
def nameB4:List UInt8:=[40,115,99,97,110,116,108,105,110,103,47,110,101,120,116,46,115,116,101,112,41,46,104,97,108,102]
def stepsD:DataW Unit:=.map [(.int .i64 1,.iface "func" (.lit (.string nameB1))),(.int .i64 3,.iface "func" (.lit (.string nameB3))),(.int .i64 4,.iface "func" (.lit (.string nameB4)))]
def stepsL:List (Lit × DataW (List UInt8)):=[(.int .i64 1,.held nameB1),(.int .i64 3,.held nameB3),(.int .i64 4,.held nameB4)]
theorem key_int {P:Program} {k:TypeId} (hk:P.underlying k=some (.int .i64)) {v:Value} {l:Lit} (h:keyOf P k v=some l):∃n:Int,v = .int .i64 n∧l = .int .i64 n∧InR .i64 n:=by
 rw [keyOf_int hk] at h;unfold mapKey at h;rw [hk] at h;cases v <;> simp at h;obtain ⟨⟨rfl,h2⟩,rfl⟩:=h;exact ⟨_,rfl,rfl,by simpa [Lit.wf,InR] using h2⟩
theorem zro {P:Program} {t:TypeId} {ps rs:Array TypeId} {va:Bool} {v:Value} (ht:P.underlying t=some (.func ps rs va)) (h:v.formed P t=true):v.cells.toList=[v]:=by
 cases v <;> simp [Value.formed,ht] at h <;> rfl
def entY (e:MapEntry):Int × Option Nat:=match e.key with | .int _ n=>(n,zeg gfmS n none) | _=>(0,none)
def entL (q:Lit × DataW (List UInt8)):Int × Option Nat:=match q.1 with | .int _ n=>(n,zeg gfmS n none) | _=>(0,none)
def Steps (W:World):Prop:=∃m t fr es clock ys,W.heap[0]?=some (.cells #[.map (some m)] t fr)∧W.heap[m]?=some (.map es clock)∧Fmst es clock ys∧ys.Perm gfmS
theorem zo9 {W:World} (h:funcsAt Tryz.prog W "scantling/next.steps" stepsD):Steps W:=by
 obtain ⟨g,t,cs,fuel,p,hg,ht,hv,hd⟩:=h;have hg':Tryz.prog.globalNamed "scantling/next.steps"=some 0:=by kernel_rfl
 have hty:(Tryz.prog.globals[0]?).map (·.type)=some 167:=by kernel_rfl
 obtain rfl:=Option.some.inj (hg'.symm.trans hg);obtain rfl:=Option.some.inj (hty.symm.trans ht);have e:DataW.funcsOut stepsD = .map stepsL:=by kernel_rfl
 rw [e] at hd;have hkt:Tryz.prog.underlying 3=some (.int .i64):=Tryz.underlying3;rcases WideElems.open_map Tryz.underlying167 hd with ⟨_,hx⟩ | ⟨m,es,clock,n,rfl,hcs,hb,_,F,hx⟩
 ·simp at hx
 ·simp only [Prod.mk.injEq,DataW.map.injEq] at hx;have hp:stepsL.Perm (es.toList.map (WideElems.rg Tryz.prog 3 (WideElems.elemAt (funcToken Tryz.prog) Tryz.prog W 0 (fun _=>true) true n 165))):=by
   rw [hx.1];exact sorted_perm _
  have ent:∀x∈es.toList,∃i:Int,x.key = .int .i64 i∧InR .i64 i∧entL (WideElems.rg Tryz.prog 3 (WideElems.elemAt (funcToken Tryz.prog) Tryz.prog W 0 (fun _=>true) true n 165) x)=(i,zeg gfmS i none)∧x.val=fidV (zeg gfmS i none):=by
   intro x hx';obtain ⟨y,hy⟩:=F.reads x hx';have hrg:=WideElems.rg_of hy;have hm:y∈stepsL:=hp.mem_iff.2 (List.mem_map.2 ⟨x,hx',hrg⟩);obtain ⟨i,hk1,hk2,hk3⟩:=key_int hkt (WideElems.rd_key hy);obtain ⟨z,hz1,hz2⟩:=WideElems.rd_val hy;unfold WideElems.elemAt at hz1;split at hz1
   case isFalse=>cases hz1
   rename_i hf
   rw [zro Tryz.underlying165 hf] at hz1;refine ⟨i,hk1,hk3,by rw [hrg];simp only [entL,hk2], ?_⟩;unfold stepsL at hm;simp only [List.mem_cons,List.not_mem_nil,or_false] at hm;rcases hm with rfl | rfl | rfl
   ·simp only [Lit.int.injEq,true_and] at hk2;subst hk2;obtain ⟨z1,z2⟩:=z;simp only at hz2;subst hz2;exact func_of_trod (f0:=209) Tryz.underlying165 (by kernel_rfl) hz1
   ·simp only [Lit.int.injEq,true_and] at hk2;subst hk2;obtain ⟨z1,z2⟩:=z;simp only at hz2;subst hz2;exact func_of_trod (f0:=210) Tryz.underlying165 (by kernel_rfl) hz1
   ·simp only [Lit.int.injEq,true_and] at hk2;subst hk2;obtain ⟨z1,z2⟩:=z;simp only at hz2;subst hz2;exact func_of_trod (f0:=207) Tryz.underlying165 (by kernel_rfl) hz1
  obtain ⟨o,ho,hcell⟩:∃t fr,W.heap[0]?=some (.cells #[.map (some m)] t fr):=by
   unfold World.var? at hv;rw [hg'] at hv;simp only [Option.bind_some] at hv;split at hv
   ·rename_i cs' t' fr' hc
    refine ⟨t',fr', ?_⟩;rw [hc];simp only [Option.some.injEq] at hv;rw [hv,← Array.toArray_toList (xs:=cs),hcs]
   ·cases hv
  refine ⟨m,o,ho,es,clock,es.toList.map entY,hcell,hb,⟨F.stamped,by simp,fun i e q h1 h2=>?_⟩, ?_⟩
  ·have hm:=List.mem_of_getElem? h1;obtain ⟨j,hk1,hk3,_,hval⟩:=ent e hm;rw [List.getElem?_map,h1] at h2;simp only [Option.map_some,Option.some.injEq] at h2;subst h2;have hr:=zi6.1 hk3;simp only [entY,hk1];exact ⟨trivial,hr,hval⟩
  ·have h3:=(hp.map entL).symm;have e1:stepsL.map entL=gfmS:=by kernel_rfl
   rw [e1,List.map_map] at h3;refine List.Perm.trans (List.Perm.of_eq (List.map_congr_left fun x hx'=>?_)) h3;obtain ⟨j,hk1,_,hL,_⟩:=ent x hx';simp only [Function.comp,entY,hk1];exact hL.symm
def Tabs (W:World):Prop:=(Lib.TabIs Tryz.prog W "internal/strconv.uint64pow10" .u64 Lib.pow10Tab∧W.var? Tryz.prog "scantling/heads.readies"=some (gdat1.map Value.bool).toArray)∧Steps W
theorem tab_of_laid {W:World} (h:laidMetH Tryz.prog lst W):Tabs W:=by
 have hs:("scantling/next.steps",(DataW.iface "func table" stepsD:DataW Unit))∈lst:=by
  have e:(Rows.laid_scantling_next_steps:DataW Unit)=DataW.iface "func table" stepsD:=by kernel_rfl
  unfold lst;rw [e];simp
 have h3:=zo9 (h.funcs hs);have e0:laidMetH Tryz.prog lst W=(laidMet Tryz.prog lst4 W∧handlesMet Tryz.prog [("scantling/next.steps",Rows.laid_scantling_next_steps)] W):=by kernel_rfl
 rw [e0] at h;have h':=h.1;unfold lst4 at h';refine ⟨⟨?_, ?_⟩,h3⟩
 ·have e:(Rows.laid_internal_strconv_uint64pow10:DataW Unit)=Lib.tabData .u64 Lib.pow10Tab:=by kernel_rfl
  have h2:=h'.tail.tail;rw [e] at h2;exact Lib.tabIs_of_head (g:=2) (t:=227) (e:=49) (n:=20) (by kernel_rfl) (by kernel_rfl) Tryz.underlying227 Tryz.underlying49 (by kernel_rfl) (by kernel_rfl) h2
 ·have e:(Rows.laid_scantling_heads_readies:DataW Unit) = .agg (gdat1.map fun b=>.lit (.bool b)):=by kernel_rfl
  have h2:=h'.tail.tail.tail;rw [e] at h2;obtain ⟨ps,⟨g',t',cs,fuel,p,q,hg',ht',hvar,hd,_,_⟩,_⟩:=h2;have hg:Tryz.prog.globalNamed "scantling/heads.readies"=some 1:=by kernel_rfl
  have hty:(Tryz.prog.globals[1]?).map (·.type)=some 213:=by kernel_rfl
  obtain rfl:=Option.some.inj (hg.symm.trans hg');obtain rfl:=Option.some.inj (hty.symm.trans ht');rw [hvar,← zpt Tryz.underlying213 (e:=4) Tryz.underlying4 (by kernel_rfl) (by kernel_rfl) hd]
theorem gl_of_tab {W:World} (h:Tabs W):Gl ⟨W,fun _=>False,fun _ h=>h.elim⟩:=by
 obtain ⟨⟨h1,h2⟩,h3⟩:=h;refine ⟨fun p hp=>?_,fun p hp=>?_⟩
 ·unfold gtab at hp;rcases List.mem_cons.1 hp with rfl | hp
  ·refine ⟨fun h=>h, ?_⟩;unfold Lib.TabIs World.var? at h1;have hg:Tryz.prog.globalNamed "internal/strconv.uint64pow10"=some 2:=by kernel_rfl
   rw [hg] at h1;simp only [Option.bind_some] at h1;split at h1
   ·rename_i cs t fr hc
    refine ⟨t,fr, ?_⟩;show W.heap[2]?=_;rw [hc];simp only [Option.some.injEq] at h1;rw [h1];simp [Lib.pow10Tab]
   ·cases h1
  ·obtain rfl:=List.mem_singleton.1 hp;refine ⟨fun h=>h, ?_⟩;unfold World.var? at h2;have hg:Tryz.prog.globalNamed "scantling/heads.readies"=some 1:=by kernel_rfl
   rw [hg] at h2;simp only [Option.bind_some] at h2;split at h2
   ·rename_i cs t fr hc
    refine ⟨t,fr, ?_⟩;show W.heap[1]?=_;rw [hc];simp only [Option.some.injEq] at h2;rw [h2]
   ·cases h2
 ·unfold gmap at hp;obtain rfl:=List.mem_singleton.1 hp;obtain ⟨m,t,fr,es,clock,ys,k1,k2,k3,k4⟩:=h3;exact ⟨fun h=>h,m,t,fr,es,clock,ys,k1,fun h=>h,k2,k3,k4⟩
noncomputable def laidWorld (os:Os):World:=World.doorLaid Tryz.prog 400 os
theorem laid_met (os:Os) (args:Array Value):laidMetH Tryz.prog lst ((laidWorld os).forCall (fun _ _=>0) ⟨#[],args,[]⟩).memory:=
 laidMetH_of_parts3 (fuel:=8) (laidMet_of_run' 8 (by kernel_rfl) (by kernel_rfl)) (by kernel_rfl) (by kernel_rfl)
theorem weigh {H:Type} {P:Program} {ts:List TypeId} {ds:List (DataW H)} (h:(DataW.weightsEach P ts ds).all (·≤reachBytes)=true) (j:Nat) {t:TypeId} {d:DataW H} (ht:ts[j]?=some t) (hd:ds[j]?=some d):∀n∈d.weights P t,n≤reachBytes:=fun n hn=>by
 have:=List.all_eq_true.1 h n (DataW.weights_mem_each ht hd n hn);simpa using this
end Go.Proofs.YtahgmdbioafmbaaGreatDoor.V
