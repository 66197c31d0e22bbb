/-
  The texts that the law's proof needs, part 5.
-/
import Derived.Carry
import Derived.ChangeSame
import Derived.Deep.Slices
import Derived.Handed
import Derived.KernelRfl
import Derived.LaidHandle
import Derived.LaidLaws
import Derived.LaidMore
import Derived.Lib.AppendIntMem
import Derived.Lib.ItoaLen
import Derived.Lib.LaidTab
import Derived.Lib.SlBytesConst
import Derived.OpenShut
import Derived.ProofKit
import Derived.RowKit
import Derived.SizedLaws
import Derived.Stop.LaidErr
import Derived.Test.YtkbboemafklkkaaGreatDoorRows
import Derived.WalkKit
import Derived.WideKeyElems2
import Derived.Test.YtkbboemafklkkaaGreatDoorPrefixCutP4

namespace Go.Proofs.YtkbboemafklkkaaGreatDoor.V
open Go
set_option linter.unusedVariables false
def Cov (n:Nat) (p:List SItem→Prop):Prop:=∃K:List (List SItem),K.length≤n∧∀u,p u→u∈K
theorem Cov.weak {m n:Nat} {p q:List SItem→Prop} (h:Cov m p) (hm:m≤n) (hq:∀u,q u→p u):Cov n q:=
 let ⟨K,h1,h2⟩:=h
 ⟨K,Nat.le_trans h1 hm,fun u hu=>h2 u (hq u hu)⟩
theorem Cov.none {p:List SItem→Prop} (h:∀u,¬ p u) (n:Nat):Cov n p:=⟨[],Nat.zero_le _,fun u hu=>(h u hu).elim⟩
theorem Cov.one {p:List SItem→Prop} (x:List SItem) (h:∀u,p u→u=x):Cov 1 p:=⟨[x],by simp,fun u hu=>by rw [h u hu];simp⟩
theorem Cov.or {m n:Nat} {p q r:List SItem→Prop} (h:Cov m p) (k:Cov n q) (e:∀u,r u→p u∨q u):Cov (m+n) r:=
 let ⟨K,h1,h2⟩:=h
 let ⟨J,k1,k2⟩:=k
 ⟨K++J,by rw [List.length_append];omega,fun u hu=>by rw [List.mem_append];exact (e u hu).imp (h2 u) (k2 u)⟩
theorem Cov.map {m:Nat} {p r:List SItem→Prop} (f:List SItem→List SItem) (h:Cov m p) (e:∀u,r u→∃t,p t∧u=f t):Cov m r:=
 let ⟨K,h1,h2⟩:=h
 ⟨K.map f,by simpa using h1,fun u hu=>by obtain ⟨t,a,rfl⟩:=e u hu;exact List.mem_map.2 ⟨t,h2 t a,rfl⟩⟩
def sumN (f:Nat→Nat):Nat→Nat
 | 0=>0
 | k+1=>sumN f k+f k
theorem Cov.sum {f:Nat→Nat} {p:Nat→List SItem→Prop}:∀(k:Nat),(∀j,j<k→Cov (f j) (p j))→Cov (sumN f k) (fun u=>∃j,j<k∧p j u)
 | 0,_=>Cov.none (fun u ⟨j,h,_⟩=>by omega) _
 | k+1,h=>(Cov.sum k fun j hj=>h j (by omega)).or (h k (by omega)) fun u ⟨j,hj,hp⟩=>by
  by_cases e:j=k
  ·subst e;exact .inr hp
  ·exact .inl ⟨j,by omega,hp⟩
def pasR (f:Nat→Nat):Nat→Nat
 | 0=>1
 | k+1=>f (k+1)+pasR f k
def pas:Nat→Nat→Nat
 | 0=>fun _=>1
 | m+1=>pasR (pas m)
theorem zi7 (m:Nat):pas m 0=1:=by cases m <;> rfl
theorem zlf:∀m k:Nat,1≤pas m k
 | 0,_=>Nat.le_refl _
 | m+1,0=>by rw [zi7];exact Nat.le_refl _
 | m+1,k+1=>by
  have:=zlf m (k+1);show 1≤pas m (k+1)+pas (m+1) k;omega
theorem pas_up (m k:Nat):pas m k≤pas (m+1) k:=by
 cases k with
 | zero=>rw [zi7,zi7];exact Nat.le_refl _
 | succ k=>exact Nat.le_add_right _ _
theorem pas_mono {m m':Nat} (h:m≤m') (k:Nat):pas m k≤pas m' k:=by
 induction h with
 | refl=>exact Nat.le_refl _
 | step _ ih=>exact Nat.le_trans ih (pas_up _ k)
theorem pas_more (m k:Nat):pas m k≤pas m (k+1):=by
 cases m with
 | zero=>exact Nat.le_refl _
 | succ m=>exact Nat.le_add_left _ _
theorem pas_long (m:Nat) {k k':Nat} (h:k≤k'):pas m k≤pas m k':=by
 induction h with
 | refl=>exact Nat.le_refl _
 | step _ ih=>exact Nat.le_trans ih (pas_more m _)
theorem zql (k:Nat):∀m,sumN (fun i=>pas i k) (m+1)=pas m (k+1)
 | 0=>rfl
 | m+1=>by
  show sumN (fun i=>pas i k) (m+1)+pas (m+1) k=_;rw [zql k m];rfl
theorem sumN_two {g:Nat→Nat} (h:∀i j,i≤j→g i≤g j) (x:Nat):∀y,sumN g x+sumN g y≤sumN g (x+y)
 | 0=>Nat.le_refl _
 | y+1=>by
  have:=sumN_two h x y;have:=h y (x+y) (by omega);show sumN g x+(sumN g y+g y)≤sumN g (x+y)+g (x+y);omega
theorem pas_two (a b k:Nat):pas a (k+1)+pas b (k+1)≤pas (a+b+1) (k+1):=by
 have:=sumN_two (g:=fun i=>pas i k) (fun i j h=>pas_mono h k) (a+1) (b+1);rw [zql,zql,show a+1+(b+1)=(a+b+1)+1 by omega,zql] at this;exact this
theorem zqm (a k:Nat):∀m,m≤k→sumN (fun t=>pas a (k-t)) m+pas (a+1) (k-m)≤pas (a+1) k
 | 0,_=>by rw [Nat.sub_zero];show 0+_≤_;omega
 | m+1,h=>by
  have ih:=zqm a k m (by omega);have e:pas (a+1) (k-m)=pas a (k-m)+pas (a+1) (k-(m+1)):=by
   rw [show k-m=(k-(m+1))+1 by omega];rfl
  show sumN (fun t=>pas a (k-t)) m+pas a (k-m)+_≤_;omega
def fac:Nat→Nat
 | 0=>1
 | n+1=>(n+1)*fac n
theorem fac_pos:∀n,1≤fac n
 | 0=>Nat.le_refl _
 | n+1=>Nat.le_trans (fac_pos n) (Nat.le_mul_of_pos_left _ (by omega))
theorem pas_fac:∀m k:Nat,pas m k*(fac m*fac k)=fac (m+k)
 | 0,k=>by simp [pas,fac]
 | m+1,0=>by rw [zi7];simp [fac]
 | m+1,k+1=>by
  have h1:=pas_fac m (k+1);have h2:=pas_fac (m+1) k;have e1:pas m (k+1)*(fac (m+1)*fac (k+1))=(m+1)*fac (m+(k+1)):=by
   rw [← h1];show pas m (k+1)*((m+1)*fac m*fac (k+1))=_;rw [Nat.mul_assoc (m+1),Nat.mul_left_comm]
  have e2:pas (m+1) k*(fac (m+1)*fac (k+1))=(k+1)*fac (m+1+k):=by
   rw [← h2];show pas (m+1) k*(fac (m+1)*((k+1)*fac k))=_;rw [Nat.mul_left_comm (fac (m+1)),Nat.mul_left_comm]
  show (pas m (k+1)+pas (m+1) k)*_=fac (m+1+(k+1));rw [Nat.add_mul,e1,e2,show m+1+(k+1)=(m+k+1)+1 by omega,show m+(k+1)=m+k+1 by omega,show m+1+k=m+k+1 by omega];show _=(m+k+1+1)*fac (m+k+1);rw [← Nat.add_mul]
  congr 1
  omega
theorem pas_le {m k N:Nat} (h:fac (m+k)≤N*(fac m*fac k)):pas m k≤N:=by
 rw [← pas_fac] at h;exact Nat.le_of_mul_le_mul_right h (Nat.mul_pos (fac_pos m) (fac_pos k))
def Rch (d:List SNode) (s:List SItem) (w:List Int) (u:List SItem):Prop:=∃a v,a++v=w∧v≠[]∧u∈zcy d v s
theorem Rch.none {d:List SNode} {s u:List SItem}:¬ Rch d s [] u:=fun ⟨a,v,h,hv,_⟩=>hv (List.append_eq_nil_iff.1 h).2
theorem zls (t:List SItem):∀L:List (List SItem),zb4 (fun u=>if u=t then 1 else 0) L≠0↔t∈L
 | []=>by simp [zb4]
 | u::L=>by
  have ih:=zls t L;have e:zb4 (fun u=>if u=t then 1 else 0) (u::L)=(if u=t then 1 else 0)+zb4 (fun u=>if u=t then 1 else 0) L:=by simp [zb4]
  rw [e,List.mem_cons]
  by_cases hu:u=t
  ·subst hu;simp
  ·rw [if_neg hu,Nat.zero_add,ih];constructor
   ·exact .inr
   ·rintro (e | e)
    ·exact absurd e.symm hu
    ·exact e
theorem mem_sum {A B:List (List SItem)} (h:∀F,zb4 F A=zb4 F B) (t:List SItem):t∈A↔t∈B:=by rw [← zls,← zls t B,h]
theorem mem_sum2 {A B C:List (List SItem)} (h:∀F,zb4 F A=zb4 F B+zb4 F C) (t:List SItem):t∈A↔t∈B∨t∈C:=by rw [← zls,← zls t B,← zls t C,h];omega
theorem ends_or {d:List SNode} {s s1 s2 u:List SItem} {v:List Int} (h:∀t,t≠[]→t∈hds d s→t∈hds d s1∨t∈hds d s2) (hv:v≠[]) (hu:u∈zcy d v s):u∈zcy d v s1∨u∈zcy d v s2:=by
 cases v with
 | nil=>exact absurd rfl hv
 | cons c w=>
  obtain ⟨x,h1,h2⟩:=List.mem_flatMap.1 hu;obtain ⟨t,k1,k2,k3⟩:=zdm.1 h1;have hne:t≠[]:=fun e=>by subst e;simp [zx] at k2
  rcases h t hne k1 with k | k
  ·exact .inl (List.mem_flatMap.2 ⟨x,zdm.2 ⟨t,k,k2,k3⟩,h2⟩)
  ·exact .inr (List.mem_flatMap.2 ⟨x,zdm.2 ⟨t,k,k2,k3⟩,h2⟩)
theorem zhr {d:List SNode} {s s1 u:List SItem} {v:List Int} (h:∀t,t≠[]→t∈hds d s→t∈hds d s1) (hv:v≠[]) (hu:u∈zcy d v s):u∈zcy d v s1:=
 (ends_or (s1:=s1) (s2:=s1) (fun t h1 h2=>.inl (h t h1 h2)) hv hu).elim id id
theorem zkr {d:List SNode} (hd:ROk d):∀(w:List Int) (s r u:List SItem),u∈zcy d w (s++r)→(∃u' r',u'∈zcy d w s∧zog w.length r=some r'∧u=u'++r')∨∃a b r',w=a++b∧b≠[]∧(a=[]→[]∈hds d s)∧zog a.length r=some r'∧u∈zcy d b r'
 | [],s,r,u,h=>by
  rw [zcy,List.mem_singleton] at h;exact .inl ⟨s,r,by rw [zcy];exact List.mem_singleton.2 rfl,rfl,h⟩
 | c::w,s,r,u,h=>by
  obtain ⟨t,h1,h2⟩:=List.mem_flatMap.1 h;rcases step_app hd h1 with ⟨t',k1,k2,rfl⟩ | ⟨k1,k2⟩
  ·have el:∀p,zog (p+1) r=zog p (zdo r).1:=fun p=>by
    show (if (zdo r).2=true then zog p (zdo r).1 else none)=_;rw [if_pos k2]
   rcases zkr hd w t' (zdo r).1 u h2 with ⟨u',r',j1,j2,j3⟩ | ⟨a,b,r',j1,j2,_,j3,j4⟩
   ·exact .inl ⟨u',r',List.mem_flatMap.2 ⟨t',k1,j1⟩,by rw [List.length_cons,el];exact j2,j3⟩
   ·exact .inr ⟨c::a,b,r',by rw [j1];rfl,j2,(fun h=>by cases h),by rw [List.length_cons,el];exact j3,j4⟩
  ·exact .inr ⟨[],c::w,r,rfl,by simp,fun _=>k1,rfl,List.mem_flatMap.2 ⟨t,k2,h2⟩⟩
theorem zpi {x:SItem} (h:x.1≠5):NoEnd [x]:=fun y hy=>by rw [List.mem_singleton.1 hy];exact h
theorem pm_ne {d:List SNode} (hd:ROk d) (i:Int):[] ∉ pm d i:=fun h=>pmI_ne hd (1,i,0,0) [] (show []∈pmI d (1,i,0,0) from h) rfl
theorem no_nil {d:List SNode} (hd:ROk d) {i:Int} (h:nw d i=0):[] ∉ hds d [(1,i,0,0)]:=by
 rw [zlx,h];simpa using pm_ne hd i
theorem ends_stop {d:List SNode} {m:Int} {b:List Int} {u:List SItem} (hb:b≠[]):u ∉ zcy d b [(5,0,m,0)]:=by
 cases b with
 | nil=>exact absurd rfl hb
 | cons c w=>
  intro h;obtain ⟨t,h1,h2⟩:=List.mem_flatMap.1 h;obtain ⟨t,k1,k2,k3⟩:=zdm.1 h1;have e1:pmI d (5,0,m,0)=[]:=by simp [pmI]
  have e3:hds d [(5,0,m,0)]=(pmI d (5,0,m,0)).map (·++[])++(List.replicate (nwI d (5,0,m,0)) [[]]).flatten:=rfl;rw [e3,e1] at k1;have:t=[]:=by
   simp at k1;exact k1.2
  subst this;simp [zx] at k2
section
variable {d : List SNode} (hd : ROk d) {i : Int} {n : SNode} (hn : at? d i = some n) {w : List Int} {u : List SItem}
include hd hn
theorem sum_seq (h:n.1=4) (F:List SItem→Nat):zb4 F (hds d [(1,i,0,0)])=zb4 F (hds d ([(1,n.2.1,0,0)]++[(1,n.2.2.1,0,0)])):=by
 have e:=zjh hd hn;rw [if_neg (by omega),if_neg (by omega),if_pos h] at e;have e1:pm d i=(pm d n.2.1).map (·++[(1,n.2.2.1,0,0)])++(List.replicate (nw d n.2.1) (pm d n.2.2.1)).flatten:=by
  have:pm d i=(PM d d.length i).1:=rfl;rw [this,e]
 have e2:nw d i=nw d n.2.1*nw d n.2.2.1:=by
  have:nw d i=(PM d d.length i).2:=rfl;rw [this,e]
 rw [zde,List.singleton_append,zhg,zde,e1,e2,zer,zea,zgt,Nat.mul_add,Nat.mul_assoc,Nat.add_assoc]
theorem sum_or (h:n.1=5) (F:List SItem→Nat):zb4 F (hds d [(1,i,0,0)])=zb4 F (hds d [(1,n.2.1,0,0)])+zb4 F (hds d [(1,n.2.2.1,0,0)]):=by
 have e:=zjh hd hn;rw [if_neg (by omega),if_neg (by omega),if_neg (by omega),if_pos h] at e;have e1:pm d i=pm d n.2.1++pm d n.2.2.1:=by
  have:pm d i=(PM d d.length i).1:=rfl;rw [this,e]
 have e2:nw d i=nw d n.2.1+nw d n.2.2.1:=by
  have:nw d i=(PM d d.length i).2:=rfl;rw [this,e]
 rw [zde,zde,zde,e1,e2,zer,Nat.add_mul];omega
theorem sum_star (h:n.1=6) (F:List SItem→Nat):zb4 F (hds d [(1,i,0,0)])=zb4 F (hds d [])+zb4 F (hds d ([(1,n.2.1,0,0)]++[(1,i,0,0)])):=by
 have e:=zjh hd hn;rw [if_neg (by omega),if_neg (by omega),if_neg (by omega),if_neg (by omega),if_pos h] at e;have e1:pm d i=(pm d n.2.1).map (·++[(1,i,0,0)]):=by
  have:pm d i=(PM d d.length i).1:=rfl;rw [this,e]
 have e2:nw d i=1:=by
  have:nw d i=(PM d d.length i).2:=rfl;rw [this,e]
 have z:=zjt hd hn (.inl h);rw [zde,List.singleton_append,zhg,e1,e2,z,zea];simp [hds,zb4];omega
def zjw (i:Int) (n:SNode) (t:Nat):SItem:=(2,i,max (n.2.2.2.1-t) 0,n.2.2.2.2.1-t)
omit hd hn in
theorem itemT_next (i:Int) (n:SNode) (t:Nat):((2,i,max (max (n.2.2.2.1-(t:Int)) 0-1) 0,n.2.2.2.2.1-(t:Int)-1):SItem)=zjw i n (t+1):=by
 unfold zjw
 simp only [Prod.mk.injEq,true_and]
 omega
theorem sum_item (h:n.1=7) (lo hi:Int) (F:List SItem→Nat):zb4 F (hds d [(2,i,lo,hi)])=(if lo=0 then F [] else 0)+if 0<hi then zb4 F (hds d ([(1,n.2.1,0,0)]++[(2,i,max (lo-1) 0,hi-1)])) else 0:=by
 have z:=zjt hd hn (.inr h);have e1:pmI d (2,i,lo,hi)=if 0<hi then (pm d n.2.1).map (·++[(2,i,max (lo-1) 0,hi-1)]) else []:=by
  unfold pmI;simp [hn]
 have e2:nwI d (2,i,lo,hi)=if lo=0 then 1 else 0:=by simp [nwI]
 simp only [List.singleton_append];rw [zhg,z];have e3:hds d [(2,i,lo,hi)]=(pmI d (2,i,lo,hi)).map (·++[])++(List.replicate (nwI d (2,i,lo,hi)) [[]]).flatten:=rfl;rw [e3,zer,zgt,e1,e2,zea]
 by_cases h0:lo=0
 ·by_cases h1:0<hi
  ·simp only [if_pos h0,if_pos h1,List.append_nil];rw [zea];simp [zb4];omega
  ·simp only [if_pos h0,if_neg h1];simp [zb4]
 ·by_cases h1:0<hi
  ·simp only [if_neg h0,if_pos h1,List.append_nil];rw [zea];simp [zb4]
  ·simp only [if_neg h0,if_neg h1];simp [zb4]
theorem sum_rep (h:n.1=7) (F:List SItem→Nat):zb4 F (hds d [(1,i,0,0)])=zb4 F (hds d [(2,i,n.2.2.2.1,n.2.2.2.2.1)]):=by
 have e:=zjh hd hn;rw [if_neg (by omega),if_neg (by omega),if_neg (by omega),if_neg (by omega),if_neg (by omega),if_pos h] at e;have e1:pm d i=if 0<n.2.2.2.2.1 then (pm d n.2.1).map (·++[(2,i,max (n.2.2.2.1-1) 0,n.2.2.2.2.1-1)]) else []:=by
  have:pm d i=(PM d d.length i).1:=rfl;rw [this,e]
 have e2:nw d i=if n.2.2.2.1=0 then 1 else 0:=by
  have:nw d i=(PM d d.length i).2:=rfl;rw [this,e]
 have e3:pmI d (2,i,n.2.2.2.1,n.2.2.2.2.1)=pm d i:=by rw [e1];unfold pmI;simp [hn]
 have e4:nwI d (2,i,n.2.2.2.1,n.2.2.2.2.1)=nw d i:=by rw [e2];simp [nwI]
 have e5:hds d [(2,i,n.2.2.2.1,n.2.2.2.2.1)]=(pmI d (2,i,n.2.2.2.1,n.2.2.2.2.1)).map (·++[])++(List.replicate (nwI d (2,i,n.2.2.2.1,n.2.2.2.2.1)) [[]]).flatten:=rfl;rw [e5,e3,e4];rfl
theorem rch_seq (h:n.1=4) (hr:Rch d [(1,i,0,0)] w u):(∃t,Rch d [(1,n.2.1,0,0)] w t∧u=t++[(1,n.2.2.1,0,0)])∨Rch d [(1,n.2.2.1,0,0)] w u:=by
 obtain ⟨a,v,e,hv,hu⟩:=hr;have hu':u∈zcy d v ([(1,n.2.1,0,0)]++[(1,n.2.2.1,0,0)]):=zhr (fun t _ ht=>(mem_sum (sum_seq hd hn h) t).1 ht) hv hu;rcases zkr hd _ _ _ _ hu' with ⟨u',r',h1,h2,h3⟩ | ⟨x,b,r',h1,h2,_,h3,h4⟩
 ·rw [zew (zpi (by simp))] at h2;cases h2;exact .inl ⟨u',⟨a,v,e,hv,h1⟩,h3⟩
 ·rw [zew (zpi (by simp))] at h3;cases h3;exact .inr ⟨a++x,b,by rw [List.append_assoc,← h1,e],h2,h4⟩
theorem rch_or (h:n.1=5) (hr:Rch d [(1,i,0,0)] w u):Rch d [(1,n.2.1,0,0)] w u∨Rch d [(1,n.2.2.1,0,0)] w u:=by
 obtain ⟨a,v,e,hv,hu⟩:=hr;exact (ends_or (fun t _ ht=>(mem_sum2 (sum_or hd hn h) t).1 ht) hv hu).imp (fun k=>⟨a,v,e,hv,k⟩) fun k=>⟨a,v,e,hv,k⟩
theorem rch_star (h:n.1=6) (hr:Rch d [(1,i,0,0)] w u):∃t,Rch d [(1,n.2.1,0,0)] w t∧u=t++[(1,i,0,0)]:=by
 obtain ⟨a,v,e,hv,hu⟩:=hr;obtain ⟨k,hk⟩:∃k,v.length≤k:=⟨_,Nat.le_refl _⟩
 induction k generalizing a v with
 | zero=>exact absurd (List.length_eq_zero_iff.1 (by omega)) hv
 | succ k ih=>
  have hu':u∈zcy d v ([(1,n.2.1,0,0)]++[(1,i,0,0)]):=zhr (fun t ht h1=>((mem_sum2 (sum_star hd hn h) t).1 h1).resolve_left fun h2=>ht (by simpa [hds] using h2)) hv hu;rcases zkr hd _ _ _ _ hu' with ⟨u',r',h1,h2,h3⟩ | ⟨x,b,r',h1,h2,h5,h3,h4⟩
  ·rw [zew (zpi (by simp))] at h2;cases h2;exact ⟨u',⟨a,v,e,hv,h1⟩,h3⟩
  ·rw [zew (zpi (by simp))] at h3;cases h3;have hx:x≠[]:=fun ex=>no_nil hd (zjt hd hn (.inl h)) (h5 ex);have:=List.length_pos_iff.2 hx;have:=congrArg List.length h1;rw [List.length_append] at this;exact ih (a++x) b (by rw [List.append_assoc,← h1,e]) h2 h4 (by omega)
theorem ends_item (h:n.1=7):∀(k:Nat) (v:List Int) (t:Nat) (u:List SItem),v.length≤k→v≠[]→u∈zcy d v [zjw i n t]→∃(t':Nat) (x b:List Int) (u':List SItem),v=x++b∧b≠[]∧t'≤x.length∧(t:Int)+t' < n.2.2.2.2.1∧u'∈zcy d b [(1,n.2.1,0,0)]∧u=u'++[zjw i n (t+t'+1)]
 | 0,v,t,u,hk,hv,hu=>absurd (List.length_eq_zero_iff.1 (by omega)) hv
 | k+1,v,t,u,hk,hv,hu=>by
  have hs:=sum_item hd hn h (max (n.2.2.2.1-(t:Int)) 0) (n.2.2.2.2.1-(t:Int))
  by_cases hi:0<n.2.2.2.2.1-(t:Int)
  ·have hu':u∈zcy d v ([(1,n.2.1,0,0)]++[zjw i n (t+1)]):=by
    refine zhr (fun z hz h1=>?_) hv hu;rw [← zls] at h1 ⊢;have e1:hds d [zjw i n t]=hds d [(2,i,max (n.2.2.2.1-(t:Int)) 0,n.2.2.2.2.1-(t:Int))]:=rfl;rw [e1,hs,if_pos hi,itemT_next] at h1;have e0:(if ([]:List SItem)=z then 1 else 0)=0:=if_neg fun e=>hz e.symm;rw [e0] at h1;have e00:(if max (n.2.2.2.1-(t:Int)) 0=0 then 0 else 0)=0:=by split <;> rfl
    rw [e00,Nat.zero_add] at h1;exact h1
   rcases zkr hd _ _ _ _ hu' with ⟨u',r',h1,h2,h3⟩ | ⟨x,b,r',h1,h2,h5,h3,h4⟩
   ·rw [zew (zpi (by simp [zjw]))] at h2;cases h2;exact ⟨0,[],v,u',rfl,hv,Nat.le_refl _,by omega,h1,h3⟩
   ·rw [zew (zpi (by simp [zjw]))] at h3;cases h3;have hx:x≠[]:=fun ex=>no_nil hd (zjt hd hn (.inr h)) (h5 ex);have hx0:=List.length_pos_iff.2 hx;have hl:=congrArg List.length h1;rw [List.length_append] at hl;obtain ⟨t',y,c,u',j1,j2,j3,j4,j5,j6⟩:=ends_item h k b (t+1) u (by omega) h2 h4;refine ⟨t'+1,x++y,c,u',by rw [h1,j1,List.append_assoc],j2,by rw [List.length_append];omega,by omega,j5, ?_⟩;rw [j6,show t+1+t'+1=t+(t'+1)+1 by omega]
  ·exfalso;have:u∈zcy d v []:=by
    refine zhr (fun z hz h1=>?_) hv hu;rw [← zls] at h1;have e1:hds d [zjw i n t]=hds d [(2,i,max (n.2.2.2.1-(t:Int)) 0,n.2.2.2.2.1-(t:Int))]:=rfl;rw [e1,hs,if_neg hi] at h1;have e0:(if ([]:List SItem)=z then 1 else 0)=0:=if_neg fun e=>hz e.symm;rw [e0] at h1;have e00:(if max (n.2.2.2.1-(t:Int)) 0=0 then 0 else 0)=0:=by split <;> rfl
    rw [e00] at h1;exact absurd rfl h1
   cases v with
   | nil=>exact hv rfl
   | cons c v=>
    obtain ⟨x,h1,h2⟩:=List.mem_flatMap.1 this;obtain ⟨z,k1,k2,k3⟩:=zdm.1 h1;have:z=[]:=by simpa [hds] using k1
    subst this;simp [zx] at k2
theorem rch_rep (h:n.1=7) (hr:Rch d [(1,i,0,0)] w u):∃t:Nat,t<w.length∧(t:Int)<n.2.2.2.2.1∧∃u',Rch d [(1,n.2.1,0,0)] (w.drop t) u'∧u=u'++[zjw i n (t+1)]:=by
 obtain ⟨a,v,e,hv,hu⟩:=hr;have hb:=hd.rep _ n hn h;have hu':u∈zcy d v [zjw i n 0]:=by
  refine zhr (fun t _ ht=>?_) hv hu;have h1:=(mem_sum (sum_rep hd hn h) t).1 ht;have:zjw i n 0=(2,i,n.2.2.2.1,n.2.2.2.2.1):=by
   unfold zjw;simp only [Prod.mk.injEq,true_and];omega
  rw [this];exact h1
 obtain ⟨t,x,b,u',h1,h2,h3,h4,h5,h6⟩:=ends_item hd hn h v.length v 0 u (Nat.le_refl _) hv hu';have hb0:=List.length_pos_iff.2 h2;have e1:w=(a++x)++b:=by rw [List.append_assoc,← h1,e]
 have hl:w.length=(a++x).length+b.length:=by rw [e1,List.length_append]
 have hal:x.length≤(a++x).length:=by rw [List.length_append];omega
 refine ⟨t,by omega,by omega,u',⟨(a++x).drop t,b, ?_,h2,h5⟩,by rw [h6,Nat.zero_add]⟩;rw [e1];exact (List.drop_append_of_le_length (l₁:=a++x) (by omega)).symm
omit hn in
theorem ends_held {A c:Int} (hc:0≤c) (hw:w≠[]) (hu:u∈zcy d w [(1,A,0,0),(5,0,c,0)]):∃u',u'∈zcy d w [(1,A,0,0)]∧u=u'++[(5,0,c-w.length,0)]:=by
 have e:([(1,A,0,0),(5,0,c,0)]:List SItem)=[(1,A,0,0)]++[(5,0,c,0)]:=rfl
 rw [e] at hu
 rcases zkr hd _ _ _ _ hu with ⟨u',r',h1,h2,h3⟩ | ⟨x,b,r',h1,h2,h5,h3,h4⟩
 ·rw [zmi c hc] at h2
  split at h2
  ·cases h2
   exact ⟨u',h1,h3⟩
  ·cases h2
 ·rw [zmi c hc] at h3
  split at h3
  ·cases h3
   exact absurd h4 (ends_stop h2)
  ·cases h3
omit hd hn in
theorem zmw {a:List Int} {c:Int} {v:List Int} (e:a++c::v=w):w.drop (a.length+1)=v∧w.getD a.length 0=c∧w.length=a.length+1+v.length:=by
 subst e
 refine ⟨?_,by simp,by simp;omega⟩
 rw [show a.length+1=(a++[c]).length by simp,show a++c::v=(a++[c])++v by simp,List.drop_left]
theorem rch_frame (h:n.1=8) (hw:∀c∈w,0≤c) (hr:Rch d [(1,i,0,0)] w u):u=[(1,n.2.1,0,0),(5,0,w.getD (w.length-1) 0,0)]∨∃p:Nat,p<w.length-1∧∃u',Rch d [(1,n.2.1,0,0)] (w.drop (p+1)) u'∧u=u'++[(5,0,w.getD p 0-((w.length-(p+1):Nat):Int),0)]:=by
 obtain ⟨a,v,e,hv,hu⟩:=hr;cases v with
 | nil=>exact absurd rfl hv
 | cons c v=>
  obtain ⟨x,h1,h2⟩:=List.mem_flatMap.1 hu;obtain ⟨z,k1,k2,k3⟩:=zdm.1 h1;obtain ⟨e1,e2⟩:=zmf hd hn (.inr (.inl h));have e3:hds d [(1,i,0,0)]=[[(1,i,0,0)]]:=by rw [zlx,e1,e2];rfl
  rw [e3,List.mem_singleton] at k1;subst k1;have er:zx d [(1,i,0,0)] c=([(1,n.2.1,0,0),(5,0,c,0)],true):=by
   unfold zx;simp only [hn];rw [if_neg (by simp [zdo]),if_neg (by decide),if_neg (by decide),if_pos h];rfl
  rw [er] at k3;simp only at k3;subst k3;obtain ⟨f1,f2,f3⟩:=zmw e;have hc:0≤c:=hw c (by rw [← e];simp);cases v with
  | nil=>
   left;rw [zcy,List.mem_singleton] at h2;have:w.length-1=a.length:=by rw [f3];simp
   rw [h2,this,f2]
  | cons b v=>
   right;obtain ⟨u',j1,j2⟩:=ends_held hd hc (by simp) h2;refine ⟨a.length,by rw [f3];simp only [List.length_cons];omega,u',⟨[],b::v,by rw [f1];rfl,by simp,j1⟩, ?_⟩;rw [j2,f2]
   congr 5
   rw [f3];omega
theorem zqh (h:n.1=9) (hw:∀c∈w,0≤c) (hr:Rch d [(1,i,0,0)] w u):u=[(4,i,w.getD (w.length-1) 0,0)]∨u=[(1,n.2.1,0,0),(5,0,256*w.getD (w.length-2) 0+w.getD (w.length-1) 0,0)]∧2≤w.length ∨
  ∃p:Nat,p<w.length-2∧∃u',Rch d [(1,n.2.1,0,0)] (w.drop (p+2)) u'∧u=u'++[(5,0,256*w.getD p 0+w.getD (p+1) 0-((w.length-(p+2):Nat):Int),0)]:=by
 obtain ⟨a,v,e,hv,hu⟩:=hr;cases v with
 | nil=>exact absurd rfl hv
 | cons c v=>
  obtain ⟨x,h1,h2⟩:=List.mem_flatMap.1 hu;obtain ⟨z,k1,k2,k3⟩:=zdm.1 h1;obtain ⟨e1,e2⟩:=zmf hd hn (.inr (.inr h));have e3:hds d [(1,i,0,0)]=[[(1,i,0,0)]]:=by rw [zlx,e1,e2];rfl
  rw [e3,List.mem_singleton] at k1;subst k1;have er:zx d [(1,i,0,0)] c=([(4,i,c,0)],true):=by
   unfold zx;simp only [hn];rw [if_neg (by simp [zdo]),if_neg (by decide),if_neg (by decide),if_neg (by omega),if_pos h];rfl
  rw [er] at k3;simp only at k3;subst k3;obtain ⟨f1,f2,f3⟩:=zmw e;have hc:0≤c:=hw c (by rw [← e];simp);cases v with
  | nil=>
   left;rw [zcy,List.mem_singleton] at h2;have:w.length-1=a.length:=by rw [f3];simp
   rw [h2,this,f2]
  | cons b v=>
   right;have hb:0≤b:=hw b (by rw [← e];simp);obtain ⟨x,h1,h2⟩:=List.mem_flatMap.1 h2;obtain ⟨z,k1,k2,k3⟩:=zdm.1 h1;have e4:hds d [(4,i,c,0)]=[[(4,i,c,0)]]:=by
    have e1:pmI d (4,i,c,0)=[[(4,i,c,0)]]:=by simp [pmI]
    have e2:nwI d (4,i,c,0)=0:=by simp [nwI]
    have e3:hds d [(4,i,c,0)]=(pmI d (4,i,c,0)).map (·++[])++(List.replicate (nwI d (4,i,c,0)) [[]]).flatten:=rfl;rw [e3,e1,e2];rfl
   rw [e4,List.mem_singleton] at k1;subst k1;have er:zx d [(4,i,c,0)] b=([(1,n.2.1,0,0),(5,0,256*c+b,0)],true):=by
    unfold zx;simp only [hn];rw [if_neg (by simp [zdo]),if_neg (by decide),if_pos trivial];rfl
   rw [er] at k3;simp only at k3;subst k3;have e':(a++[c])++b::v=w:=by rw [← e];simp
   obtain ⟨g1,g2,g3⟩:=zmw e';have hal:(a++[c]).length=a.length+1:=by simp
   rw [hal] at g1 g2 g3;cases v with
   | nil=>
    left;rw [zcy,List.mem_singleton] at h2;have t1:w.length-1=a.length+1:=by rw [g3];simp
    have t2:w.length-2=a.length:=by rw [g3];simp
    refine ⟨by rw [h2,t1,t2,f2,g2],by rw [g3];omega⟩
   | cons q v=>
    right;obtain ⟨u',j1,j2⟩:=ends_held hd (by omega) (by simp) h2;refine ⟨a.length,by rw [g3];simp only [List.length_cons];omega,u',⟨[],q::v,by rw [g1];rfl,by simp,j1⟩, ?_⟩;rw [j2,f2,g2]
    congr 5
    rw [g3];omega
theorem rch_bytes (h:n.1=2) (hr:Rch d [(1,i,0,0)] w u):u=[]:=by
 obtain ⟨a,v,e,hv,hu⟩:=hr;cases v with
 | nil=>exact absurd rfl hv
 | cons c v=>
  obtain ⟨x,h1,h2⟩:=List.mem_flatMap.1 hu;obtain ⟨z,k1,k2,k3⟩:=zdm.1 h1;obtain ⟨e1,e2⟩:=zmf hd hn (.inl h);have e3:hds d [(1,i,0,0)]=[[(1,i,0,0)]]:=by rw [zlx,e1,e2];rfl
  rw [e3,List.mem_singleton] at k1;subst k1;have er:zx d [(1,i,0,0)] c=if n.2.2.2.2.2.1.has c.toNat=true then ([],true) else ([],false):=by
   unfold zx;simp only [hn];rw [if_neg (by simp [zdo]),if_neg (by decide),if_neg (by decide),if_neg (by omega),if_neg (by omega)];rfl
  have ex:x=[]:=by rw [← k3,er];split <;> rfl
  subst ex;cases v with
  | nil=>rwa [zcy,List.mem_singleton] at h2
  | cons b v=>
   obtain ⟨x,h1,h2⟩:=List.mem_flatMap.1 h2;obtain ⟨z,k1,k2,k3⟩:=zdm.1 h1;have:z=[]:=by simpa [hds] using k1
   subst this;simp [zx] at k2
theorem rch_empty (h:n.1=1):¬ Rch d [(1,i,0,0)] w u:=by
 rintro ⟨a,v,e,hv,hu⟩;cases v with
 | nil=>exact absurd rfl hv
 | cons c v=>
  obtain ⟨x,h1,h2⟩:=List.mem_flatMap.1 hu;obtain ⟨z,k1,k2,k3⟩:=zdm.1 h1;have e:=zjh hd hn;rw [if_pos h] at e;have e1:pm d i=[]:=by unfold pm;rw [e]
  rw [zlx,e1] at k1;have:z=[]:=by simp at k1;exact k1.2
  subst this;simp [zx] at k2
omit hd in
theorem ends_text:∀(v:List Int) (lo:Nat) (u:List SItem),u∈zcy d v [(3,i,(lo:Int),0)]→lo<n.2.2.2.2.2.2.length→lo+v.length≤n.2.2.2.2.2.2.length∧u=if lo+v.length<n.2.2.2.2.2.2.length then [(3,i,((lo+v.length:Nat):Int),0)] else []
 | [],lo,u,hu,hlo=>by
  rw [zcy,List.mem_singleton] at hu
  rw [List.length_nil,Nat.add_zero,if_pos hlo]
  exact ⟨by omega,hu⟩
 | c::v,lo,u,hu,hlo=>by
  obtain ⟨x,h1,h2⟩:=List.mem_flatMap.1 hu
  obtain ⟨z,k1,k2,k3⟩:=zdm.1 h1
  have e4:hds d [(3,i,(lo:Int),0)]=[[(3,i,(lo:Int),0)]]:=by
   have e1:pmI d (3,i,(lo:Int),0)=[[(3,i,(lo:Int),0)]]:=by simp [pmI]
   have e2:nwI d (3,i,(lo:Int),0)=0:=by simp [nwI]
   have e3:hds d [(3,i,(lo:Int),0)]=(pmI d (3,i,(lo:Int),0)).map (·++[])++(List.replicate (nwI d (3,i,(lo:Int),0)) [[]]).flatten:=rfl
   rw [e3,e1,e2];rfl
  rw [e4,List.mem_singleton] at k1
  subst k1
  have hr:zx d [(3,i,(lo:Int),0)] c=if zdv n.2.2.2.2.2.2 (lo:Int)=some c then (if (lo:Int)+1<(n.2.2.2.2.2.2.length:Int) then [(3,i,(lo:Int)+1,0)] else [],true) else ([],false):=by
   unfold zx
   simp only [hn]
   rw [if_neg (by simp [zdo]),if_pos trivial]
   split
   ·split <;> rfl
   ·rfl
  have hb:zdv n.2.2.2.2.2.2 (lo:Int)=some c:=by
   rcases Classical.em (zdv n.2.2.2.2.2.2 (lo:Int)=some c) with h | h
   ·exact h
   ·rw [hr,if_neg h] at k2;cases k2
  rw [hr,if_pos hb] at k3
  simp only at k3
  by_cases hl:lo+1<n.2.2.2.2.2.2.length
  ·rw [if_pos (by omega)] at k3
   have ex:x=[(3,i,((lo+1:Nat):Int),0)]:=by rw [← k3];congr 1
   rw [ex] at h2
   obtain ⟨j1,j2⟩:=ends_text v (lo+1) u h2 hl
   rw [List.length_cons,show lo+(v.length+1)=lo+1+v.length by omega]
   exact ⟨j1,j2⟩
  ·rw [if_neg (by omega)] at k3
   subst k3
   cases v with
   | nil=>
    rw [zcy,List.mem_singleton] at h2
    simp only [List.length_cons,List.length_nil]
    rw [if_neg (by omega)]
    exact ⟨by omega,h2⟩
   | cons b v=>
    exfalso
    obtain ⟨x,h1,h2⟩:=List.mem_flatMap.1 h2
    obtain ⟨z,k1,k2,k3⟩:=zdm.1 h1
    have:z=[]:=by simpa [hds] using k1
    subst this
    simp [zx] at k2
theorem rch_text (h:n.1=3) (hr:Rch d [(1,i,0,0)] w u):∃k:Nat,k<w.length∧k<n.2.2.2.2.2.2.length∧u=if k+1<n.2.2.2.2.2.2.length then [(3,i,((k+1:Nat):Int),0)] else []:=by
 obtain ⟨a,v,e,hv,hu⟩:=hr;have hlo:0<n.2.2.2.2.2.2.length:=List.length_pos_iff.2 (hd.ntx _ n hn h);have e0:=zjh hd hn;rw [if_neg (by omega),if_pos h] at e0;have e1:pm d i=[[(3,i,0,0)]]:=by
  have:pm d i=(PM d d.length i).1:=rfl;rw [this,e0]
 have e2:nw d i=0:=by
  have:nw d i=(PM d d.length i).2:=rfl;rw [this,e0]
 have hu':u∈zcy d v [(3,i,((0:Nat):Int),0)]:=by
  refine zhr (fun t _ ht=>?_) hv hu;rw [zlx,e1,e2] at ht;have e3:pmI d (3,i,((0:Nat):Int),0)=[[(3,i,0,0)]]:=by simp [pmI]
  have e4:nwI d (3,i,((0:Nat):Int),0)=0:=by simp [nwI]
  have e5:hds d [(3,i,((0:Nat):Int),0)]=(pmI d (3,i,((0:Nat):Int),0)).map (·++[])++(List.replicate (nwI d (3,i,((0:Nat):Int),0)) [[]]).flatten:=rfl;rw [e5,e3,e4];simpa using ht
 obtain ⟨h1,h2⟩:=ends_text hn v 0 u hu' hlo;have hv0:=List.length_pos_iff.2 hv;have hl:=congrArg List.length e;rw [List.length_append] at hl;refine ⟨v.length-1,by omega,by omega, ?_⟩;rw [h2,show 0+v.length=v.length-1+1 by omega]
end
theorem cov_pas {d:List SNode} (hd:ROk d) {f i:Int} (h:Tr d f i):∀w:List Int,(∀c∈w,0≤c)→Cov (pas (i-f+1).toNat w.length) (Rch d [(1,i,0,0)] w):=by
 induction h with
 | leaf he hk hx h0=>
  rename_i i e
  intro w hw;have em:(i-i+1).toNat=1:=by omega
  rw [em];rcases hk with k | k | k
  ·exact Cov.none (fun u=>rch_empty hd he k) _
  ·exact (Cov.one [] fun u hu=>rch_bytes hd he k hu).weak (zlf _ _) fun _ h=>h
  ·have:Cov (sumN (fun _=>1) w.length) (Rch d [(1,i,0,0)] w):=by
    refine (Cov.sum (p:=fun j u=>u=if j+1<e.2.2.2.2.2.2.length then [(3,i,((j+1:Nat):Int),0)] else []) w.length fun j hj=>Cov.one _ fun u hu=>hu).weak (Nat.le_refl _) fun u hu=>?_;obtain ⟨j,h1,_,h2⟩:=rch_text hd he k hu;exact ⟨j,h1,h2⟩
   refine this.weak ?_ fun _ h=>h;have e1:∀k,sumN (fun _=>1) k=k:=fun k=>by
    induction k with
    | zero=>rfl
    | succ k ih=>show sumN (fun _=>1) k+1=_;rw [ih]
   have e2:∀k,pas 1 k=k+1:=fun k=>by
    induction k with
    | zero=>rfl
    | succ k ih=>show 1+pas 1 k=_;rw [ih];omega
   rw [e1,e2];omega
 | one he hk ha hb hr h ih=>
  rename_i f i e
  intro w hw;have hle:=h.le;cases w with
  | nil=>exact Cov.none (fun u=>Rch.none) _
  | cons c0 w0=>
   generalize hwe:c0::w0=w at hw ⊢;have hl:1≤w.length:=by rw [← hwe];simp
   obtain ⟨m,hm⟩:∃m:Nat,(i-1-f+1).toNat=m:=⟨_,rfl⟩;have em:(i-f+1).toNat=m+1:=by omega
   rw [hm] at ih;rw [em];have hdr:∀p,∀c∈w.drop p,0≤c:=fun p c hc=>hw c (List.mem_of_mem_drop hc);rcases hk with k | k | k | k
   ·refine ((ih w hw).map (·++[(1,i,0,0)]) fun u hu=>?_).weak (pas_up _ _) fun _ h=>h;have:=rch_star hd he k hu;rw [ha] at this;exact this
   ·have:=Cov.sum (f:=fun t=>pas m (w.length-t)) (p:=fun t u=>∃u',Rch d [(1,i-1,0,0)] (w.drop t) u'∧u=u'++[zjw i e (t+1)]) w.length fun t ht=>by
     have h1:=ih (w.drop t) (hdr t);rw [List.length_drop] at h1;exact h1.map (·++[zjw i e (t+1)]) fun u hu=>hu
    refine this.weak ?_ fun u hu=>?_
    ·have:=zqm m w.length w.length (Nat.le_refl _);omega
    ·obtain ⟨t,h1,_,h2⟩:=rch_rep hd he k hu;rw [ha] at h2;exact ⟨t,h1,h2⟩
   ·have:=Cov.sum (f:=fun p=>pas m (w.length-1-p)) (p:=fun p u=>∃u',Rch d [(1,i-1,0,0)] (w.drop (p+1)) u'∧u=u'++[(5,0,w.getD p 0-((w.length-(p+1):Nat):Int),0)]) (w.length-1) fun p hp=>by
     have h1:=ih (w.drop (p+1)) (hdr _);rw [List.length_drop,show w.length-(p+1)=w.length-1-p by omega] at h1;exact h1.map (·++[(5,0,w.getD p 0-((w.length-(p+1):Nat):Int),0)]) fun u hu=>hu
    refine ((Cov.one [(1,i-1,0,0),(5,0,w.getD (w.length-1) 0,0)] (p:=fun u=>u=[(1,i-1,0,0),(5,0,w.getD (w.length-1) 0,0)]) fun u hu=>hu).or this fun u hu=>?_).weak ?_ fun _ h=>h
    ·have:=rch_frame hd he k hw hu;rw [ha] at this;exact this
    ·have h1:=zqm m (w.length-1) (w.length-1) (Nat.le_refl _);rw [Nat.sub_self,zi7] at h1;have h2:=pas_long (m+1) (Nat.sub_le w.length 1);omega
   ·have:=Cov.sum (f:=fun p=>pas m (w.length-2-p)) (p:=fun p u=>∃u',Rch d [(1,i-1,0,0)] (w.drop (p+2)) u'∧u=u'++[(5,0,256*w.getD p 0+w.getD (p+1) 0-((w.length-(p+2):Nat):Int),0)]) (w.length-2) fun p hp=>by
     have h1:=ih (w.drop (p+2)) (hdr _);rw [List.length_drop,show w.length-(p+2)=w.length-2-p by omega] at h1;exact h1.map (·++[(5,0,256*w.getD p 0+w.getD (p+1) 0-((w.length-(p+2):Nat):Int),0)]) fun u hu=>hu
    by_cases h2:2≤w.length
    ·have c1:=(Cov.one [(4,i,w.getD (w.length-1) 0,0)] (p:=fun u=>u=[(4,i,w.getD (w.length-1) 0,0)]) fun u hu=>hu);have c2:=(Cov.one [(1,i-1,0,0),(5,0,256*w.getD (w.length-2) 0+w.getD (w.length-1) 0,0)] (p:=fun u=>u=[(1,i-1,0,0),(5,0,256*w.getD (w.length-2) 0+w.getD (w.length-1) 0,0)]) fun u hu=>hu);refine (c1.or (c2.or this fun u hu=>hu) fun u hu=>?_).weak ?_ fun _ h=>h
     ·have:=zqh hd he k hw hu;rw [ha] at this;exact this.imp id fun h=>h.imp (fun h=>h.1) id
     ·have h1:=zqm m (w.length-2) (w.length-2) (Nat.le_refl _);rw [Nat.sub_self,zi7] at h1;have e1:pas (m+1) (w.length-1)=pas m (w.length-1)+pas (m+1) (w.length-2):=by
       rw [show w.length-1=(w.length-2)+1 by omega];rfl
      have e2:pas (m+1) w.length=pas m w.length+pas (m+1) (w.length-1):=by
       obtain ⟨q,hq⟩:∃q,w.length=q+1:=⟨w.length-1,by omega⟩;rw [hq];rfl
      have:=zlf m (w.length-1);have:=zlf m w.length;omega
    ·refine ((Cov.one [(4,i,w.getD (w.length-1) 0,0)]) fun u hu=>?_).weak (zlf _ _) fun _ h=>h;rcases zqh hd he k hw hu with h1 | ⟨_,h1⟩ | ⟨p,h1,_⟩
     ·exact h1
     ·exact absurd h1 h2
     ·omega
 | two he hk ha hb h1 h2 i1 i2=>
  rename_i f p i e
  intro w hw;have l1:=h1.le;have l2:=h2.le;cases w with
  | nil=>exact Cov.none (fun u=>Rch.none) _
  | cons c0 w0=>
   generalize hwe:c0::w0=w at hw ⊢;have hl:w.length=w0.length+1:=by rw [← hwe];simp
   have j1:=i1 w hw;have j2:=i2 w hw;have hs:pas (p-1-f+1).toNat w.length+pas (i-1-p+1).toNat w.length≤pas (i-f+1).toNat w.length:=by
    have:=pas_two (p-1-f+1).toNat (i-1-p+1).toNat w0.length;rw [← hl,show (p-1-f+1).toNat+(i-1-p+1).toNat+1=(i-f+1).toNat by omega] at this;exact this
   rcases hk with k | k
   ·refine ((j2.map (·++[(1,i-1,0,0)]) (r:=fun u=>∃t,Rch d [(1,p-1,0,0)] w t∧u=t++[(1,i-1,0,0)]) fun u hu=>hu).or j1 fun u hu=>?_).weak hs fun _ h=>h;have:=rch_seq hd he k hu;rw [ha,hb] at this;exact this
   ·refine (j2.or j1 fun u hu=>?_).weak hs fun _ h=>h;have:=rch_or hd he k hu;rw [ha,hb] at this;exact this
theorem after_cov {d:List SNode} (h:Rt d) {w:List Int} (hw:∀c∈w,0≤c):Cov (pas d.length w.length) (fun u=>u∈zcy d w [(1,(d.length:Int)-1,0,0)]):=by
 cases w with
 | nil=>
  refine (Cov.one [(1,(d.length:Int)-1,0,0)] fun u hu=>?_).weak (zlf _ _) fun _ h=>h
  rwa [zcy,List.mem_singleton] at hu
 | cons c w=>
  refine (cov_pas h.toROk h.tr (c::w) hw).weak ?_ fun u hu=>⟨[],c::w,rfl,by simp,hu⟩;have:((d.length:Int)-1-0+1).toNat=d.length:=by omega
  rw [this];exact Nat.le_refl _
end Go.Proofs.YtkbboemafklkkaaGreatDoor.V
namespace Go.Proofs.YtkbboemafklkkaaGreatDoor.V
open Go
set_option linter.unusedVariables false
theorem rch_len {d:List SNode} (hd:ROk d) {f i:Int} (h:Tr d f i):∀(w:List Int) (u:List SItem),(∀c∈w,0≤c)→Rch d [(1,i,0,0)] w u→u.length≤(i-f+1).toNat:=by
 induction h with
 | leaf he hk hx h0=>
  rename_i i e
  intro w u hw hu;rcases hk with k | k | k
  ·exact absurd hu (rch_empty hd he k)
  ·rw [rch_bytes hd he k hu];simp
  ·obtain ⟨j,_,_,h2⟩:=rch_text hd he k hu;rw [h2];split <;> simp
 | one he hk ha hb hr h ih=>
  rename_i f i e
  intro w u hw hu;have hle:=h.le;have hdr:∀p,∀c∈w.drop p,0≤c:=fun p c hc=>hw c (List.mem_of_mem_drop hc);rcases hk with k | k | k | k
  ·obtain ⟨t,h1,rfl⟩:=rch_star hd he k hu;rw [ha] at h1;have:=ih w t hw h1;simp;omega
  ·obtain ⟨t,_,_,u',h1,rfl⟩:=rch_rep hd he k hu;rw [ha] at h1;have:=ih _ u' (hdr t) h1;simp;omega
  ·rcases rch_frame hd he k hw hu with rfl | ⟨p,_,u',h1,rfl⟩
   ·simp;omega
   ·rw [ha] at h1;have:=ih _ u' (hdr _) h1;simp;omega
  ·rcases zqh hd he k hw hu with rfl | ⟨rfl,_⟩ | ⟨p,_,u',h1,rfl⟩
   ·simp;omega
   ·simp;omega
   ·rw [ha] at h1;have:=ih _ u' (hdr _) h1;simp;omega
 | two he hk ha hb h1 h2 i1 i2=>
  rename_i f p i e
  intro w u hw hu;have l1:=h1.le;have l2:=h2.le;rcases hk with k | k
  ·rcases rch_seq hd he k hu with ⟨t,h1,rfl⟩ | h1
   ·rw [ha] at h1;have:=i2 w t hw h1;simp;omega
   ·rw [hb] at h1;have:=i1 w u hw h1;omega
  ·rcases rch_or hd he k hu with h1 | h1
   ·rw [ha] at h1;have:=i2 w u hw h1;omega
   ·rw [hb] at h1;have:=i1 w u hw h1;omega
theorem after_sm {d:List SNode} (h:Rt d) (hl:d.length≤24) (ht:∀n∈d,n.2.2.2.2.2.2.length≤140737488351232) {w:List Int} (hw:∀c∈w,InR .u8 c) {u:List SItem} (hu:u∈zcy d w [(1,(d.length:Int)-1,0,0)]):Sm d u∧u.length≤24:=by
 have hpos:0<d.length:=List.length_pos_iff.2 h.ne;have hsome:∃n,at? d ((d.length:Int)-1)=some n:=by
  have e:(d.length:Int)-1=((d.length-1:Nat):Int):=by omega
  rw [e,zbn];exact ⟨_,List.getElem?_eq_getElem (show d.length-1<d.length by omega)⟩
 have hf:zd2 d [(1,(d.length:Int)-1,0,0)]=true:=zfm (zh4 hsome) rfl;have hform:=(ends_ok h.toROk w _ hw hf u hu).1;have hlen:u.length≤24:=by
  cases w with
  | nil=>
   rw [zcy,List.mem_singleton] at hu;subst hu;simp
  | cons c w=>
   have:=rch_len h.toROk h.tr (c::w) u (fun c' hc'=>(zex.1 (hw c' hc')).1) ⟨[],c::w,rfl,by simp,hu⟩;omega
 exact ⟨⟨h,hl,ht,hform,by omega⟩,hlen⟩
theorem on_step {d:List SNode} {s:List SItem} (h:Sm d s) {c:Int} (hc:InR .u8 c):∃o,zbm d s c o∧zet d s c o∧Can (fun t=>(zd1 d c s).count t) o:=by
 obtain ⟨B,R,_,b3,o1,o2,o3⟩:=on_both h hc;exact ⟨R,o1,o2,o3.congr fun t=>fB_step b3 c t⟩
section
variable {α : Type}
theorem zia {A B:List α} {x:α} {i:Int} (h:i=(A.length:Int)):at? (A++x::B) i=some x:=by
 subst h;rw [zbn];simp
theorem zhx {A B:List α} {x y:α} {i:Int} (h:i=(A.length:Int)):(A++x::B).set i.toNat y=A++y::B:=by
 subst h;rw [Int.toNat_natCast]
 induction A with
 | nil=>rfl
 | cons a A ih=>simp only [List.length_cons,List.cons_append,List.set_cons_succ,ih]
def SEq (key:α→Int) (l l':List α):Prop:=∀c,l.filter (fun x=>key x==c)=l'.filter (fun x=>key x==c)
theorem SEq.refl (key:α→Int) (l:List α):SEq key l l:=fun _=>rfl
theorem SEq.trans {key:α→Int} {a b c:List α} (h:SEq key a b) (k:SEq key b c):SEq key a c:=fun x=>(h x).trans (k x)
theorem SEq.symm {key:α→Int} {a b:List α} (h:SEq key a b):SEq key b a:=fun x=>(h x).symm
theorem SEq.app {key:α→Int} {a b c d:List α} (h:SEq key a b) (k:SEq key c d):SEq key (a++c) (b++d):=fun x=>by rw [List.filter_append,List.filter_append,h x,k x]
theorem SEq.length {key:α→Int} {a b:List α} (h:SEq key a b):a.length=b.length:=by
 have hp:a.Perm b:=by
  classical
  refine List.perm_iff_count.2 fun x=>?_;have h1:∀l:List α,l.count x=(l.filter (fun y=>key y==key x)).count x:=fun l=>by
   rw [List.count_filter];simp
  rw [h1 a,h1 b,h (key x)]
 exact hp.length_eq
theorem SEq.perm {key:α→Int} {a b:List α} (h:SEq key a b):a.Perm b:=by
 classical
 refine List.perm_iff_count.2 fun x=>?_;have h1:∀l:List α,l.count x=(l.filter (fun y=>key y==key x)).count x:=fun l=>by
  rw [List.count_filter];simp
 rw [h1 a,h1 b,h (key x)]
theorem zi3 {key:α→Int} {X Y:List α} (h:∀x∈X,∀y∈Y,key x≠key y):SEq key (X++Y) (Y++X):=fun c=>by
 rw [List.filter_append,List.filter_append]
 by_cases hx:X.filter (fun x=>key x==c)=[]
 ·rw [hx];simp
 ·have hy:Y.filter (fun x=>key x==c)=[]:=by
   rw [List.filter_eq_nil_iff];intro y hy hyc;obtain ⟨x,hxm⟩:=List.exists_mem_of_ne_nil _ hx;rw [List.mem_filter] at hxm;exact h x hxm.1 y hy (by rw [eq_of_beq hxm.2,eq_of_beq hyc])
  rw [hy];simp
def Srt (key:α→Int) (l:List α):Prop:=l.Pairwise fun x y=>key x≤key y
theorem Srt.app {key:α→Int} {a b:List α}:Srt key (a++b)↔Srt key a∧Srt key b∧∀x∈a,∀y∈b,key x≤key y:=List.pairwise_append
theorem Srt.cons {key:α→Int} {x:α} {b:List α}:Srt key (x::b)↔(∀y∈b,key x≤key y)∧Srt key b:=List.pairwise_cons
theorem srtc_uniq {key:α→Int}:∀{a b:List α},Srt key a→Srt key b→SEq key a b→a=b
 | [],b,_,_,h=>(List.eq_nil_of_length_eq_zero h.length.symm).symm
 | x::a,[],_,_,h=>absurd h.length (by simp)
 | x::a,y::b,ha,hb,h=>by
  obtain ⟨ha1,ha2⟩:=Srt.cons.1 ha;obtain ⟨hb1,hb2⟩:=Srt.cons.1 hb;have hp:=h.perm;have hxy:key x=key y:=by
   have h1:x∈y::b:=hp.mem_iff.1 (by simp);have h2:y∈x::a:=hp.mem_iff.2 (by simp);have e1:key y≤key x:=by
    rcases List.mem_cons.1 h1 with rfl | h1
    ·exact Int.le_refl _
    ·exact hb1 x h1
   have e2:key x≤key y:=by
    rcases List.mem_cons.1 h2 with rfl | h2
    ·exact Int.le_refl _
    ·exact ha1 y h2
   omega
  have h3:=h (key x);rw [List.filter_cons_of_pos (by simp),List.filter_cons_of_pos (by simp [hxy])] at h3;have e:=List.cons.inj h3;obtain ⟨rfl,_⟩:=e;refine congrArg _ (srtc_uniq ha2 hb2 fun c=>?_);have h4:=h c
  by_cases hc:key x=c
  ·rw [List.filter_cons_of_pos (by simp [hc]),List.filter_cons_of_pos (by simp [hc])] at h4;exact (List.cons.inj h4).2
  ·rw [List.filter_cons_of_neg (by simp [hc]),List.filter_cons_of_neg (by simp [hc])] at h4;exact h4
def srt (key:α→Int) (l:List α):List α:=l.mergeSort fun x y=>decide (key x≤key y)
theorem zif (key:α→Int) (l:List α):Srt key (srt key l):=by
 have:=List.pairwise_mergeSort (le:=fun x y=>decide (key x≤key y)) (fun a b c h1 h2=>by simp at *;omega) (fun a b=>by simp;omega) l;exact this.imp fun h=>by simpa using h
theorem zgj (key:α→Int) (l:List α):SEq key l (srt key l):=fun c=>by
 have hp:(srt key l).Perm l:=List.mergeSort_perm l _;have hsub:(l.filter fun x=>key x==c).Sublist (srt key l):=by
  refine List.sublist_mergeSort (le:=fun x y=>decide (key x≤key y)) (fun a b c h1 h2=>by simp at *;omega) (fun a b=>by simp;omega) ?_ List.filter_sublist;refine List.Pairwise.imp_of_mem (R:=fun _ _=>True) ?_ (List.pairwise_of_forall fun _ _=>trivial);intro a b ha hb _;have h1:=(List.mem_filter.1 ha).2;have h2:=(List.mem_filter.1 hb).2;simp at h1 h2;simp;omega
 have h2:=hsub.filter (fun x=>key x==c);rw [List.filter_filter] at h2;simp only [Bool.and_self] at h2;exact h2.eq_of_length (hp.filter _).length_eq.symm
theorem zh7 {key:α→Int} {l q:List α} (hq:Srt key q) (h:SEq key l q):q=srt key l:=srtc_uniq hq (zif key l) (h.symm.trans (zgj key l))
theorem zg3 (key:α→Int) (l:List α):(srt key l).length=l.length:=(zgj key l).length.symm
theorem zfp (l:List α) {n:Nat} (h:n≤l.length):∃A B,l=A++B∧A.length=n:=⟨l.take n,l.drop n,(List.take_append_drop n l).symm,by simp;omega⟩
theorem snoc_of {l:List α} (h:l≠[]):∃A x,l=A++[x]:=⟨l.dropLast,l.getLast h,(List.dropLast_concat_getLast h).symm⟩
end
theorem zf4 {i j:Int} (h0:0≤i+j) (h1:i+j<9223372036854775808):IntKind.wrap .i64 (zpb (IntKind.wrap .u64 (i+j)) 1)=(i+j) / 2:=by
 rw [zma,show (i+j) % 18446744073709551616=i+j by omega];have:zpb (i+j) 1=(i+j) / 2:=by
  unfold zpb;simp
 rw [this];simp [IntKind.wrap,IntKind.signed,IntKind.bits];omega
theorem bsearch {P:Nat→Int→Int→Prop} (pr:Nat→Bool) (lo hi:Nat) (hmono:∀c d,lo≤c→c≤d→d<hi→pr d=true→pr c=true)
  (hstep:∀k (i j:Nat),lo≤i→i<j→j≤hi→(pr ((i+j) / 2)=true→P k (((i+j) / 2+1:Nat):Int) (j:Int)→P (k+1) (i:Int) (j:Int))∧(pr ((i+j) / 2)=false→P k (i:Int) (((i+j) / 2:Nat):Int)→P (k+1) (i:Int) (j:Int)))
  (hexit:∀k (i:Nat),lo≤i→i≤hi→(∀c,lo≤c→c<i→pr c=true)→(∀c,i≤c→c<hi→pr c=false)→P (k+1) (i:Int) (i:Int)) (hle:lo≤hi):∃k,P k (lo:Int) (hi:Int):=by
 have key:∀(f i j:Nat),j-i≤f→lo≤i→i≤j→j≤hi→(∀c,lo≤c→c<i→pr c=true)→(∀c,j≤c→c<hi→pr c=false)→∃k,P k (i:Int) (j:Int):=by
  intro f
  induction f with
  | zero=>
   intro i j hf h1 h2 h3 h4 h5;have:i=j:=by omega
   subst this;exact ⟨1,hexit 0 i h1 h3 h4 h5⟩
  | succ f ih=>
   intro i j hf h1 h2 h3 h4 h5
   by_cases hij:i=j
   ·subst hij;exact ⟨1,hexit 0 i h1 h3 h4 h5⟩
   ·have hlt:i<j:=by omega
    cases hp:pr ((i+j) / 2)
    ·obtain ⟨k,hk⟩:=ih i ((i+j) / 2) (by omega) h1 (by omega) (by omega) h4 (fun c hc1 hc2=>by
      cases hpc:pr c
      ·rfl
      ·have:=hmono ((i+j) / 2) c (by omega) hc1 hc2 hpc;rw [this] at hp;cases hp)
     exact ⟨k+1,(hstep k i j h1 hlt h3).2 hp hk⟩
    ·obtain ⟨k,hk⟩:=ih ((i+j) / 2+1) j (by omega) (by omega) (by omega) h3 (fun c hc1 hc2=>hmono c ((i+j) / 2) hc1 (by omega) (by omega) hp) h5;exact ⟨k+1,(hstep k i j h1 hlt h3).1 hp hk⟩
 exact key (hi-lo) lo hi (Nat.le_refl _) (Nat.le_refl _) hle (Nat.le_refl _) (fun c h1 h2=>by omega) (fun c h1 h2=>by omega)
end Go.Proofs.YtkbboemafklkkaaGreatDoor.V
namespace Go.Proofs.YtkbboemafklkkaaGreatDoor.V
open Go
set_option linter.unusedVariables false
def lk0 (p:Cl):Int:=p.least.1
def zg1 (a p:Cl):List Cl:=[p &&& a,p &&& ~~~ a].filter fun q=>decide (0<q.count)
def zm0 (ps:List Cl) (a:Cl):List Cl:=srt lk0 (ps.flatMap (zg1 a))
def zgv (l:List Cl):List Cl:=l.foldl zm0 [~~~ (0#256)]
def zpa (l:List Cl):List Int:=(zgv l).map lk0
def zjg (l:List Cl) (c d:Nat):Bool:=l.all fun a=>a.has c==a.has d
def part (l:List Cl) (c:Nat):Cl:=Cl.of (zjg l c)
def zf9 (l:List Cl):List Nat:=(List.range 256).filter fun c=>(List.range c).all fun d=>!zjg l d c
def parts (l:List Cl):List Cl:=(zf9 l).map (part l)
theorem zns (l:List Cl) (c:Nat):zjg l c c=true:=by simp [zjg]
theorem zkn {l:List Cl} {c d:Nat} (h:zjg l c d=true):zjg l d c=true:=by
 unfold zjg at *;rw [List.all_eq_true] at *;intro a ha;have:=h a ha;rw [beq_iff_eq] at *;exact this.symm
theorem zja {l:List Cl} {c d e:Nat} (h:zjg l c d=true) (k:zjg l d e=true):zjg l c e=true:=by
 unfold zjg at *;rw [List.all_eq_true] at *;intro a ha;have h1:=h a ha;have h2:=k a ha;rw [beq_iff_eq] at *;exact h1.trans h2
theorem zed {l:List Cl} {c d:Nat} (h:d<256):(part l c).has d=zjg l c d:=Cl.of_has _ h
theorem zgm {l:List Cl} {c:Nat}:c∈zf9 l↔c<256∧∀d,d<c→zjg l d c=false:=by
 simp [zf9]
theorem part_eq {l:List Cl} {c d:Nat} (h:zjg l c d=true):part l c=part l d:=by
 apply Cl.ext;intro e he;rw [zed he,zed he];cases h1:zjg l d e
 ·cases h2:zjg l c e
  ·rfl
  ·rw [zja (zkn h) h2] at h1;cases h1
 ·exact zja h h1
theorem zqu {p:Cl} (h:0<p.count):∃n:Nat,n<256∧p.least=((n:Int),true)∧p.has n=true∧∀m,m<n→p.has m=false:=by
 cases hl:p.least.2
 ·have h0:=least_none hl;have:p.count=0:=by
   unfold Cl.count;rw [List.countP_eq_zero];intro m hm;rw [h0 m (by simpa using hm)];simp
  omega
 ·obtain ⟨n,hn⟩:∃n:Nat,p.least=((n:Int),true):=by
   unfold Cl.least at hl ⊢;split
   ·exact ⟨_,rfl⟩
   ·rename_i hn;rw [hn] at hl;simp at hl
  obtain ⟨h1,h2,h3⟩:=least_some hn;exact ⟨n,h1,hn,h2,h3⟩
theorem count_pos {p:Cl} {n:Nat} (hn:n<256) (h:p.has n=true):0<p.count:=by
 unfold Cl.count;rw [List.countP_pos_iff];exact ⟨n,by simpa using hn,h⟩
theorem head_of {l:List Cl} {c:Nat} (hc:c<256):∃h,h∈zf9 l∧h≤c∧zjg l h c=true:=by
 obtain ⟨h,⟨h1,h2⟩,h3⟩:=exists_least (p:=fun d=>d≤c∧zjg l d c=true) ⟨c,Nat.le_refl _,zns l c⟩;refine ⟨h,zgm.2 ⟨by omega,fun d hd=>?_⟩,h1,h2⟩;cases hl:zjg l d h
 ·rfl
 ·have:=h3 d ⟨by omega,zja hl h2⟩;omega
theorem least_part {l:List Cl} {h:Nat} (hh:h∈zf9 l):(part l h).least=((h:Int),true):=by
 obtain ⟨h1,h2⟩:=zgm.1 hh;refine least_of h1 (by rw [zed h1];exact zns l h) fun m hm=>?_;rw [zed (by omega)];cases hl:zjg l h m
 ·rfl
 ·have:=h2 m hm;rw [zkn hl] at this;cases this
theorem lk_part {l:List Cl} {h:Nat} (hh:h∈zf9 l):lk0 (part l h)=(h:Int):=by rw [lk0,least_part hh]
theorem zit (l:List Cl):(zf9 l).Pairwise (· < ·):=(List.pairwise_lt_range).filter _
theorem parts_lk (l:List Cl):(parts l).map lk0=(zf9 l).map (fun n:Nat=>(n:Int)):=by
 unfold parts;rw [List.map_map];exact List.map_congr_left fun h hh=>lk_part hh
theorem parts_srt (l:List Cl):Srt lk0 (parts l):=by
 have h1:(zf9 l).Pairwise fun a b=>lk0 (part l a)≤lk0 (part l b):=by
  refine (List.pairwise_iff_getElem.2 fun i j hi hj hij=>?_);rw [lk_part (List.getElem_mem hi),lk_part (List.getElem_mem hj)];have:=List.pairwise_iff_getElem.1 (zit l) i j hi hj hij;omega
 exact List.pairwise_map.2 h1
theorem seq_of_mem {α:Type} {key:α→Int} {X Y:List α} (hX:(X.map key).Nodup) (hY:(Y.map key).Nodup) (h:∀x,x∈X↔x∈Y):SEq key X Y:=fun c=>by
 have one:∀{Z:List α},(Z.map key).Nodup→∀x∈Z,key x=c→Z.filter (fun z=>key z==c)=[x]:=by
  intro Z
  induction Z with
  | nil=>intro _ x hx;cases hx
  | cons z Z ih=>
   intro hn x hx hk;rw [List.map_cons,List.nodup_cons] at hn;rcases List.mem_cons.1 hx with rfl | hx
   ·rw [List.filter_cons_of_pos (by simp [hk])]
    congr 1
    rw [List.filter_eq_nil_iff];intro y hy hyc;exact hn.1 (List.mem_map.2 ⟨y,hy,by rw [hk];simpa using hyc⟩)
   ·rw [List.filter_cons_of_neg,ih hn.2 x hx hk];intro hz;exact hn.1 (List.mem_map.2 ⟨x,hx,by rw [hk];simpa using (eq_of_beq hz).symm⟩)
 by_cases hex:∃x,x∈X∧key x=c
 ·obtain ⟨x,hx,hk⟩:=hex;rw [one hX x hx hk,one hY x ((h x).1 hx) hk]
 ·have e1:X.filter (fun z=>key z==c)=[]:=by
   rw [List.filter_eq_nil_iff];intro y hy hyc;exact hex ⟨y,hy,by simpa using hyc⟩
  have e2:Y.filter (fun z=>key z==c)=[]:=by
   rw [List.filter_eq_nil_iff];intro y hy hyc;exact hex ⟨y,(h y).2 hy,by simpa using hyc⟩
  rw [e1,e2]
def Disj (p q:Cl):Prop:=∀n,n<256→p.has n=true→q.has n=false
theorem lk_ne {p q:Cl} (hp:0<p.count) (hq:0<q.count) (h:Disj p q):lk0 p≠lk0 q:=by
 obtain ⟨n,n1,n2,n3,n4⟩:=zqu hp;obtain ⟨m,m1,m2,m3,m4⟩:=zqu hq;unfold lk0;rw [n2,m2];intro he;have:n=m:=by simp at he;omega
 subst this;rw [h n n1 n3] at m3;cases m3
theorem nodup_lk {X:List Cl} (hd:X.Pairwise Disj) (hc:∀x∈X,0<x.count):(X.map lk0).Nodup:=by
 refine List.pairwise_map.2 ?_;refine hd.imp_of_mem fun {a b} ha hb h=>lk_ne (hc a ha) (hc b hb) h
theorem zho {a p x:Cl}:x∈zg1 a p↔(x=p &&& a∨x=p &&& ~~~ a)∧0<x.count:=by
 simp [zg1]
theorem znh {a p x:Cl} (h:x∈zg1 a p) {n:Nat} (hx:x.has n=true):p.has n=true:=by
 rcases (zho.1 h).1 with rfl | rfl <;> rw [zjz] at hx <;> simp at hx <;> exact hx.1
theorem pieces_disj (a p:Cl):(zg1 a p).Pairwise Disj:=by
 unfold zg1;refine List.Pairwise.filter _ ?_;simp only [List.pairwise_cons,List.mem_singleton,forall_eq,List.not_mem_nil,false_implies,implies_true,List.Pairwise.nil,and_true];intro n hn h;rw [zjz] at h ⊢;rw [znw hn];simp at h ⊢;simp [h.2]
theorem zph (l:List Cl):(parts l).Pairwise Disj:=by
 unfold parts;refine List.pairwise_map.2 ?_;refine List.pairwise_iff_getElem.2 fun i j hi hj hij n hn h=>?_;have hlt:=List.pairwise_iff_getElem.1 (zit l) i j hi hj hij;obtain ⟨_,h2⟩:=zgm.1 (List.getElem_mem hj);rw [zed hn] at h ⊢;cases h3:zjg l (zf9 l)[j] n
 ·rfl
 ·have:=h2 _ hlt;rw [zja h (zkn h3)] at this;cases this
theorem parts_pos {l:List Cl} {p:Cl} (h:p∈parts l):0<p.count:=by
 obtain ⟨c,hc,rfl⟩:=List.mem_map.1 h;have h1:=(zgm.1 hc).1;exact count_pos h1 (by rw [zed h1];exact zns l c)
theorem flat_disj {ps:List Cl} (h:ps.Pairwise Disj) (a:Cl):(ps.flatMap (zg1 a)).Pairwise Disj:=by
 rw [List.pairwise_flatMap];refine ⟨fun p _=>pieces_disj a p,h.imp fun {p q} hpq x hx y hy n hn hxn=>?_⟩;cases hy':y.has n
 ·rfl
 ·have:=hpq n hn (znh hx hxn);rw [znh hy hy'] at this;cases this
theorem like_snoc (l:List Cl) (a:Cl) (c d:Nat):zjg (l++[a]) c d=(zjg l c d&&(a.has c==a.has d)):=by simp [zjg]
theorem mem_split (l:List Cl) (a x:Cl):x∈(parts l).flatMap (zg1 a)↔x∈parts (l++[a]):=by
 have key:∀h h':Nat,zjg l h h'=true→h' < 256→∀x:Cl,(a.has h'=true∧x=part l h &&& a∨a.has h'=false∧x=part l h &&& ~~~ a)→x=part (l++[a]) h':=by
  intro h h' hh h1 x hx;apply Cl.ext;intro d hd;rw [zed hd,like_snoc];have e:zjg l h' d=zjg l h d:=by
   have:=congrArg (fun p:Cl=>p.has d) (part_eq hh);simp only [zed hd] at this;exact this.symm
  rw [e];rcases hx with ⟨h2,rfl⟩ | ⟨h2,rfl⟩
  ·rw [zjz,zed hd,h2];cases a.has d <;> simp
  ·rw [zjz,znw hd,zed hd,h2];cases a.has d <;> simp
 constructor
 ·intro hx;obtain ⟨p,hp,hxp⟩:=List.mem_flatMap.1 hx;obtain ⟨h,hh,rfl⟩:=List.mem_map.1 hp;obtain ⟨hx1,hx2⟩:=zho.1 hxp;obtain ⟨n,n1,n2,n3,n4⟩:=zqu hx2;have hn:=znh hxp n3;rw [zed n1] at hn;have hxe:x=part (l++[a]) n:=key h n hn n1 x (by
   rcases hx1 with rfl | rfl
   ·rw [zjz] at n3;simp at n3;exact .inl ⟨n3.2,rfl⟩
   ·rw [zjz,znw n1] at n3;simp at n3;exact .inr ⟨n3.2,rfl⟩)
  refine List.mem_map.2 ⟨n,zgm.2 ⟨n1,fun d hd=>?_⟩,hxe.symm⟩;cases hl:zjg (l++[a]) d n
  ·rfl
  ·have:=n4 d hd;rw [hxe,zed (by omega),zkn hl] at this;cases this
 ·intro hx;obtain ⟨n,hn,rfl⟩:=List.mem_map.1 hx;have n1:=(zgm.1 hn).1;obtain ⟨h,hh,_,h3⟩:=head_of (l:=l) n1;have hpos:=parts_pos hx;cases ha:a.has n
  ·have e:=key h n h3 n1 _ (.inr ⟨ha,rfl⟩);exact List.mem_flatMap.2 ⟨_,List.mem_map.2 ⟨h,hh,rfl⟩,zho.2 ⟨.inr e.symm,hpos⟩⟩
  ·have e:=key h n h3 n1 _ (.inl ⟨ha,rfl⟩);exact List.mem_flatMap.2 ⟨_,List.mem_map.2 ⟨h,hh,rfl⟩,zho.2 ⟨.inl e.symm,hpos⟩⟩
theorem splitR_parts (l:List Cl) (a:Cl):zm0 (parts l) a=parts (l++[a]):=by
 unfold zm0;refine (zh7 (parts_srt _) (seq_of_mem ?_ ?_ (mem_split l a))).symm
 ·exact nodup_lk (flat_disj (zph l) a) fun x hx=>by
   obtain ⟨p,_,hxp⟩:=List.mem_flatMap.1 hx;exact (zho.1 hxp).2
 ·exact nodup_lk (zph _) fun x hx=>parts_pos hx
theorem parts_nil:parts []=[~~~ (0#256)]:=by
 have h:zf9 []=[0]:=by decide +kernel
 unfold parts;rw [h];simp only [List.map_cons,List.map_nil,List.cons.injEq,and_true];apply Cl.ext;intro c hc;rw [zed hc,znw hc,has_zero];rfl
theorem splitP_eq (l:List Cl):zgv l=parts l:=by
 have:∀(l pre:List Cl),l.foldl zm0 (parts pre)=parts (pre++l):=by
  intro l
  induction l with
  | nil=>intro pre;simp
  | cons a l ih=>intro pre;rw [List.foldl_cons,splitR_parts,ih];simp
 have:=this l [];rw [parts_nil] at this;simpa [zgv] using this
theorem heads_len (l:List Cl):(zf9 l).length≤256:=by
 have:=List.length_filter_le (fun c=>(List.range c).all fun d=>!zjg l d c) (List.range 256);simpa [zf9] using this
theorem zm2 (l:List Cl):zpa l=(zf9 l).map (fun n:Nat=>(n:Int)):=by rw [zpa,splitP_eq,parts_lk]
abbrev Rs (l:List (List SItem)):Prop:=l.Pairwise (fun a b=>zeq a b<0)
def insS (t:List SItem):List (List SItem)→List (List SItem)
 | []=>[t]
 | c::l=>if zeq t c<0 then t::c::l else if zeq t c=0 then c::l else c::insS t l
def zj8 (L:List (List SItem)):List (List SItem):=L.foldr insS []
theorem zq3 {t u:List SItem}:∀{l:List (List SItem)},u∈insS t l↔u=t∨u∈l
 | []=>by simp [insS]
 | c::l=>by
  unfold insS;split
  ·simp
  ·split
   ·rename_i h
    rw [zd8.1 h];simp
   ·rw [List.mem_cons,zq3,List.mem_cons];constructor
    ·rintro (h | h | h)
     ·exact .inr (.inl h)
     ·exact .inl h
     ·exact .inr (.inr h)
    ·rintro (h | h | h)
     ·exact .inr (.inl h)
     ·exact .inl h
     ·exact .inr (.inr h)
theorem insS_srt {t:List SItem}:∀{l:List (List SItem)},Rs l→Rs (insS t l)
 | [],_=>by simp [insS]
 | c::l,h=>by
  unfold insS;have h':=List.pairwise_cons.1 h;split
  ·rename_i h1
   exact List.pairwise_cons.2 ⟨fun x hx=>(List.mem_cons.1 hx).elim (fun e=>by rw [e];exact h1) fun hx=>zgc h1 (h'.1 x hx),h⟩
  ·split
   ·exact h
   ·rename_i h1 h2
    have h3:zeq c t<0:=by
     have:=zfy t c;omega
    refine List.pairwise_cons.2 ⟨fun x hx=>?_,insS_srt h'.2⟩;rcases zq3.1 hx with rfl | hx
    ·exact h3
    ·exact h'.1 x hx
theorem zd5 {u:List SItem}:∀{L:List (List SItem)},u∈zj8 L↔u∈L
 | []=>by simp [zj8]
 | t::L=>by
  show u∈insS t (zj8 L)↔_;rw [zq3,zd5,List.mem_cons]
theorem zfs:∀L:List (List SItem),Rs (zj8 L)
 | []=>List.Pairwise.nil
 | t::L=>insS_srt (zfs L)
theorem rs_nodup {l:List (List SItem)} (h:Rs l):l.Nodup:=h.imp fun {a b} h e=>by subst e;exact zg2 h
theorem rs_uniq {a b:List (List SItem)} (ha:Rs a) (hb:Rs b) (h:∀x,x∈a↔x∈b):a=b:=by
 have:=zj5 (B:=a.map fun t=>((t,0):SBranch)) (C:=b.map fun t=>((t,0):SBranch)) (List.pairwise_map.2 ha) (List.pairwise_map.2 hb) fun x=>by
  simp only [List.mem_map];constructor
  ·rintro ⟨t,ht,rfl⟩;exact ⟨t,(h t).1 ht,rfl⟩
  ·rintro ⟨t,ht,rfl⟩;exact ⟨t,(h t).2 ht,rfl⟩
 have h2:=congrArg (List.map (·.1)) this;simpa [List.map_map,Function.comp_def] using h2
theorem zm8 {A K:List (List SItem)} (h:∀x∈A,x∈K):(zj8 A).length≤K.length:=zju (rs_nodup (zfs A)) fun t ht=>h t (zd5.1 ht)
theorem can_set {f:List SItem→Nat} {B:List SBranch} (h:Can f B) {A:List (List SItem)} (e:∀t,f t≠0↔t∈A):B.map (·.1)=zj8 A:=by
 refine rs_uniq ?_ (zfs A) fun t=>by rw [h.keys,e,zd5]
 exact List.pairwise_map.2 h.srt
def onS (d:List SNode) (c:Int) (l:List (List SItem)):List (List SItem):=zj8 (l.flatMap (zd1 d c))
def zhu (d:List SNode) (l:List (List SItem)):Bool:=l.any fun s=>decide ((hds d s).count []≠0)
abbrev stS (d:List SNode):List SItem:=[(1,(d.length:Int)-1,0,0)]
def zfg (d:List SNode) (w:List Int):List (List SItem):=w.foldl (fun l c=>onS d c l) [stS d]
theorem zmp (d:List SNode):zfg d []=[stS d]:=rfl
theorem zf0 (d:List SNode) (w:List Int) (c:Int):zfg d (w++[c])=onS d c (zfg d w):=by unfold zfg;rw [List.foldl_append];rfl
theorem znj {d:List SNode} {c:Int} {l:List (List SItem)} {t:List SItem}:t∈onS d c l↔∃s∈l,t∈zd1 d c s:=by unfold onS;rw [zd5,List.mem_flatMap]
theorem zpv {p:List Int→Prop} (h0:p []) (hs:∀w c,p w→p (w++[c])) (w:List Int):p w:=by
 have:∀n (w:List Int),w.length=n→p w:=by
  intro n
  induction n with
  | zero=>intro w hw;rw [List.length_eq_zero_iff.1 hw];exact h0
  | succ n ih=>
   intro w hw;have hne:w≠[]:=fun e=>by subst e;simp at hw
   rw [← List.dropLast_concat_getLast hne];exact hs _ _ (ih _ (by simp [hw]))
 exact this _ w rfl
theorem zky {d:List SNode} {t:List SItem} (w:List Int):t∈zfg d w↔t∈zcy d w (stS d):=by
 revert t
 refine zpv (p:=fun w=>∀{t:List SItem},t∈zfg d w↔t∈zcy d w (stS d)) ?_ ?_ w
 ·intro t;rw [zmp,zcy]
 ·intro w c ih t;rw [zf0,znj,zpo,List.mem_flatMap];constructor
  ·rintro ⟨s,h1,h2⟩;exact ⟨s,ih.1 h1,h2⟩
  ·rintro ⟨s,h1,h2⟩;exact ⟨s,ih.2 h1,h2⟩
theorem aftS_srt (d:List SNode) (w:List Int):Rs (zfg d w):=by
 refine zpv (p:=fun w=>Rs (zfg d w)) ?_ (fun w c _=>?_) w
 ·rw [zmp];simp
 ·rw [zf0];exact zfs _
theorem aftS_set (d:List SNode) (w:List Int):zfg d w=zj8 (zcy d w (stS d)):=rs_uniq (aftS_srt d w) (zfs _) fun t=>by rw [zky,zd5]
theorem endS_iff {d:List SNode} {l:List (List SItem)}:zhu d l=true↔∃s∈l,(hds d s).count []≠0:=by simp [zhu]
theorem sumF_ne (F:List SItem→Nat):∀L:List (List SItem),zb4 F L≠0↔∃t∈L,F t≠0
 | []=>by simp [zb4]
 | t::L=>by
  have e:zb4 F (t::L)=F t+zb4 F L:=by simp [zb4]
  have ih:=sumF_ne F L;rw [e];constructor
  ·intro h
   by_cases h0:F t=0
   ·obtain ⟨u,h1,h2⟩:=ih.1 (by omega);exact ⟨u,by simp [h1],h2⟩
   ·exact ⟨t,by simp,h0⟩
  ·rintro ⟨u,h1,h2⟩;rcases List.mem_cons.1 h1 with rfl | h1
   ·omega
   ·have:=ih.2 ⟨u,h1,h2⟩;omega
theorem endS_word (d:List SNode) (w:List Int):zhu d (zfg d w)=true↔zb1 d ((d.length:Int)-1) w≠0:=by
 unfold zb1;rw [wyn_ends,sumF_ne,endS_iff];constructor
 ·rintro ⟨s,h1,h2⟩;exact ⟨s,(zky w).1 h1,h2⟩
 ·rintro ⟨s,h1,h2⟩;exact ⟨s,(zky w).2 h1,h2⟩
theorem zlo {d:List SNode} (h:Rt d) (hl:d.length≤24) (ht:Txt d) {w:List Int} (hw:∀c∈w,InR .u8 c) {u:List SItem} (hu:u∈zfg d w):Sm d u∧u.length≤24:=after_sm h hl ht hw ((zky w).1 hu)
theorem zri {d:List SNode} (h:Rt d) {w:List Int} (hw:∀c∈w,InR .u8 c):(zfg d w).length≤pas d.length w.length:=by
 obtain ⟨K,k1,k2⟩:=after_cov h fun c hc=>(zex.1 (hw c hc)).1;rw [aftS_set];exact Nat.le_trans (zm8 k2) k1
def canB (d:List SNode) (s:List SItem):List SBranch:=(zj8 (hds d s)).map fun t=>(t,sat ((hds d s).count t))
theorem canB_can (d:List SNode) (s:List SItem):Can (fun t=>(hds d s).count t) (canB d s):=by
 refine ⟨List.pairwise_map.2 (zfs _),fun t m=>?_⟩;unfold canB;simp only [List.mem_map,Prod.mk.injEq];constructor
 ·rintro ⟨u,h1,rfl,h2⟩;have:=List.count_pos_iff.2 (zd5.1 h1);exact ⟨by omega,h2.symm⟩
 ·rintro ⟨h1,h2⟩;exact ⟨t,zd5.2 (List.count_pos_iff.1 (by omega)),rfl,h2.symm⟩
def clsA (d:List SNode) (s:List SItem):List Cl:=zk4 d (canB d s)
def zmm (d:List SNode) (l:List (List SItem)):List Cl:=l.flatMap (clsA d)
theorem clsA_in {d:List SNode} {s:List SItem} (h:Sm d s):zbf d s (clsA d s)∧zbc d s (clsA d s)∧(clsA d s).length≤256*10001:=by
 obtain ⟨B,b1,b2,b3⟩:=classes_both h;have e:=b1.uniq (canB_can d s);subst e;have:=zks d (canB d s);have:=(h.hok b1).few;exact ⟨b2,b3,by unfold clsA;omega⟩
theorem clsA_mem {d:List SNode} {s t:List SItem} (h:t∈hds d s):∀x∈clsF d t,x∈clsA d s:=fun x hx=>by
 unfold clsA zk4;exact List.mem_flatMap.2 ⟨(t,sat ((hds d s).count t)),List.mem_map.2 ⟨t,zd5.2 h,rfl⟩,hx⟩
theorem step_like {d:List SNode} {s:List SItem} (h:Sm d s) {a b:Int} (ha:InR .u8 a) (hb:InR .u8 b) (hx:∀x∈clsA d s,x.has a.toNat=x.has b.toNat):zd1 d a s=zd1 d b s:=by
 have hd:=h.rt.toROk;unfold zd1;have key:∀t∈hds d s,zx d t a=zx d t b:=fun t ht=>by
  obtain ⟨L,⟨k,hk⟩,hp⟩:=hds_lv hd s h.form;obtain ⟨h3,h4⟩:=lv_vs hd (n0:=s.length) k s L hk (Vs.start h.form (Nat.le_refl _)) t (hp.mem_iff.2 ht);exact read_same h3.form h4 ha hb fun x hxx=>hx x (clsA_mem ht x hxx)
 have:∀L:List (List SItem),(∀t∈L,zx d t a=zx d t b)→L.filterMap (fun t=>if (zx d t a).2=true then some (zx d t a).1 else none)=L.filterMap (fun t=>if (zx d t b).2=true then some (zx d t b).1 else none):=by
  intro L
  induction L with
  | nil=>intro _;rfl
  | cons t L ih=>
   intro hL;rw [List.filterMap_cons,List.filterMap_cons,hL t (by simp),ih fun u hu=>hL u (by simp [hu])]
 exact this _ key
theorem onS_like {d:List SNode} {l:List (List SItem)} (h:∀s∈l,Sm d s) {a b:Int} (ha:InR .u8 a) (hb:InR .u8 b) (hx:∀x∈zmm d l,x.has a.toNat=x.has b.toNat):onS d a l=onS d b l:=by
 unfold onS
 congr 1
 have:∀s∈l,zd1 d a s=zd1 d b s:=fun s hs=>step_like (h s hs) ha hb fun x hxx=>hx x (List.mem_flatMap.2 ⟨s,hs,hxx⟩);clear hx
 induction l with
 | nil=>rfl
 | cons s l ih=>rw [List.flatMap_cons,List.flatMap_cons,this s (by simp),ih (fun u hu=>h u (by simp [hu])) fun u hu=>this u (by simp [hu])]
def zf3 (l:List Cl):List Cl:=l.foldl (fun o a=>if a∈o then o else o++[a]) []
theorem zi8 (l:List Cl) (a:Cl):zf3 (l++[a])=if a∈zf3 l then zf3 l else zf3 l++[a]:=by unfold zf3;rw [List.foldl_append];rfl
theorem cl_ind {p:List Cl→Prop} (h0:p []) (hs:∀w c,p w→p (w++[c])) (w:List Cl):p w:=by
 have:∀n (w:List Cl),w.length=n→p w:=by
  intro n
  induction n with
  | zero=>intro w hw;rw [List.length_eq_zero_iff.1 hw];exact h0
  | succ n ih=>
   intro w hw;have hne:w≠[]:=fun e=>by subst e;simp at hw
   rw [← List.dropLast_concat_getLast hne];exact hs _ _ (ih _ (by simp [hw]))
 exact this _ w rfl
theorem zhk {x:Cl} (l:List Cl):x∈zf3 l↔x∈l:=by
 refine cl_ind (p:=fun l=>x∈zf3 l↔x∈l) (by simp [zf3]) (fun l a ih=>?_) l;rw [zi8]
 by_cases h:a∈zf3 l
 ·rw [if_pos h,List.mem_append,ih,List.mem_singleton];constructor
  ·exact .inl
  ·rintro (h1 | rfl)
   ·exact h1
   ·exact ih.1 h
 ·rw [if_neg h,List.mem_append,List.mem_append,ih]
theorem zni (l:List Cl):(zf3 l).Nodup:=by
 refine cl_ind (p:=fun l=>(zf3 l).Nodup) (by simp [zf3]) (fun l a ih=>?_) l;rw [zi8];split
 ·exact ih
 ·rename_i h
  rw [List.nodup_append];exact ⟨ih,by simp,fun x hx y hy e=>by rw [List.mem_singleton.1 hy] at e;subst e;exact h hx⟩
theorem like_mem {l m:List Cl} (h:∀x,x∈l↔x∈m) (c e:Nat):zjg l c e=zjg m c e:=by
 unfold zjg;rw [Bool.eq_iff_iff,List.all_eq_true,List.all_eq_true];exact ⟨fun k x hx=>k x ((h x).2 hx),fun k x hx=>k x ((h x).1 hx)⟩
theorem splitH_mem {l m:List Cl} (h:∀x,x∈l↔x∈m):zpa l=zpa m:=by
 rw [zm2,zm2];have:zf9 l=zf9 m:=by
  unfold zf9;refine List.filter_congr fun c _=>?_
  congr 1
  funext d;rw [like_mem h]
 rw [this]
def bytC (l:List Cl):List Int:=zpa (zf3 l)
def bytS (d:List SNode) (l:List (List SItem)):List Int:=bytC (zmm d l)
theorem zn9 (l:List Cl):bytC l=(zf9 l).map fun n:Nat=>(n:Int):=by
 unfold bytC;rw [splitH_mem (m:=l) fun x=>zhk l,zm2]
theorem bytC_len (l:List Cl):(bytC l).length≤256:=by rw [zn9,List.length_map];exact heads_len l
theorem bytC_srt (l:List Cl):(bytC l).Pairwise (· < ·):=by
 rw [zn9,List.pairwise_map];exact (zit l).imp fun h=>by omega
theorem bytC_u8 {l:List Cl} {b:Int} (h:b∈bytC l):InR .u8 b:=by
 rw [zn9] at h;obtain ⟨n,h1,rfl⟩:=List.mem_map.1 h;have:=(zgm.1 h1).1;exact zex.2 ⟨by omega,by omega⟩
theorem bytC_of (l:List Cl) {c:Int} (hc:InR .u8 c):∃b∈bytC l,b≤c∧∀x∈l,x.has b.toNat=x.has c.toNat:=by
 have hc':=zex.1 hc;obtain ⟨h,h1,h2,h3⟩:=head_of (l:=l) (c:=c.toNat) (by omega);refine ⟨(h:Int),by rw [zn9];exact List.mem_map.2 ⟨h,h1,rfl⟩,by omega,fun x hx=>?_⟩;unfold zjg at h3;rw [List.all_eq_true] at h3;have:=h3 x hx;simpa using this
theorem onS_byte {d:List SNode} {l:List (List SItem)} (h:∀s∈l,Sm d s) {c:Int} (hc:InR .u8 c):∃b∈bytS d l,b≤c∧onS d b l=onS d c l:=by
 obtain ⟨b,h1,h2,h3⟩:=bytC_of (zmm d l) hc;exact ⟨b,h1,h2,onS_like h (bytC_u8 h1) hc h3⟩
def szN (d:List SNode):Nat→Int→Nat
 | 0,_=>0
 | k+1,i=>match at? d i with
  | none=>0
  | some n=>if n.1=2 then 1 else if n.1=3 then n.2.2.2.2.2.2.length else if n.1=4∨n.1=5 then szN d k n.2.1+szN d k n.2.2.1 else if n.1=6 then szN d k n.2.1 else if n.1=7 then n.2.2.2.2.1.toNat*szN d k n.2.1 else 0
theorem at_mem {d:List SNode} {i:Int} {e:SNode} (he:at? d i=some e):e∈d:=by
 unfold at? at he;split at he
 ·exact List.mem_of_getElem? he
 ·cases he
theorem canB_len {d:List SNode} (h:Rt d) (s:List SItem):(canB d s).length≤s.length*(d.length+1)+1:=by
 unfold canB;rw [List.length_map];exact Nat.le_trans (zm8 fun t ht=>hds_CS d s t ht) (CS_few h s)
theorem clsA_len {d:List SNode} (h:Rt d) (s:List SItem):(clsA d s).length≤256*(s.length*(d.length+1)+1):=by
 have h1:=zks d (canB d s);have h2:=canB_len h s;unfold clsA;omega
theorem clsL_len {d:List SNode} (h:Rt d) {m:Nat}:∀l:List (List SItem),(∀s∈l,s.length≤m)→(zmm d l).length≤256*(m*(d.length+1)+1)*l.length
 | [],_=>by simp [zmm]
 | s::l,hm=>by
  have h1:=clsA_len h s;have h2:=clsL_len h l fun u hu=>hm u (by simp [hu]);have h3:s.length*(d.length+1)≤m*(d.length+1):=Nat.mul_le_mul_right _ (hm s (by simp));have e:zmm d (s::l)=clsA d s++zmm d l:=by simp [zmm]
  rw [e,List.length_append,List.length_cons,Nat.mul_add];omega
theorem clsF_of (d:List SNode) (t:List SItem) (hb:∀n∈d,True):∀x∈clsF d t,x∈sing++d.map fun n=>n.2.2.2.2.2.1:=by
 intro x hx;cases t with
 | nil=>cases hx
 | cons y t=>
  simp only [clsF] at hx;cases hn:at? d y.2.1 with
  | none=>rw [hn] at hx;cases hx
  | some n=>
   rw [hn] at hx;simp only at hx;have hm:n∈d:=by
    unfold at? at hn;split at hn
    ·exact List.mem_of_getElem? hn
    ·cases hn
   split at hx
   ·rw [List.mem_singleton] at hx;refine List.mem_append.2 (.inl ?_);have hr:0≤(zdv n.2.2.2.2.2.2 y.2.2.1).getD 0∧(zdv n.2.2.2.2.2.2 y.2.2.1).getD 0≤255:=by
     cases hq:zdv n.2.2.2.2.2.2 y.2.2.1 with
     | none=>simp
     | some c=>exact byte_u8 hq
    rw [hx];refine List.mem_map.2 ⟨((zdv n.2.2.2.2.2.2 y.2.2.1).getD 0).toNat,by simp;omega, ?_⟩;have e:((((zdv n.2.2.2.2.2.2 y.2.2.1).getD 0).toNat:Nat):Int) % 256=(zdv n.2.2.2.2.2.2 y.2.2.1).getD 0:=by omega
    rw [e]
   ·split at hx
    ·rw [List.mem_singleton] at hx;exact List.mem_append.2 (.inr (List.mem_map.2 ⟨n,hm,hx.symm⟩))
    ·exact List.mem_append.2 (.inl hx)
theorem once_few (d:List SNode) (l:List (List SItem)):(zf3 (zmm d l)).length≤256+d.length:=by
 have h1:=zju (U:=sing++d.map fun n=>n.2.2.2.2.2.1) (zni (zmm d l)) fun x hx=>by
  obtain ⟨s,_,h2⟩:=List.mem_flatMap.1 ((zhk _).1 hx);unfold clsA zk4 at h2;obtain ⟨b,_,h3⟩:=List.mem_flatMap.1 h2;exact clsF_of d b.1 (fun _ _=>trivial) x h3
 rw [List.length_append,List.length_map,zhv] at h1;exact h1
theorem zhc {a:Cl}:zby a a.least:=by
 refine zhe (P:=fun k (_:Unit) v=>zby.l1 a a.least _ k v) 256 (fun i _=>∀m,m<i→a.has m=false) ?_ ?_ () (by intro m hm;omega)
 ·intro i s hi hs;cases hc:a.has i
  ·refine .inr ⟨(),fun m hm=>?_,fun k h=>⟨fun _=>⟨a.has i,zh6 hi,fun h2=>by simp [hc] at h2,fun _=>⟨zh (by omega) (by omega),h⟩⟩,fun h=>absurd (by omega) (df h)⟩⟩
   by_cases e:m=i
   ·subst e;exact hc
   ·exact hs m (by omega)
  ·refine .inl fun k=>⟨fun _=>⟨a.has i,zh6 hi,fun _=>?_,fun h2=>by simp [hc] at h2⟩,fun h=>absurd (by omega) (df h)⟩;rw [show ((i:Int) % 256)=i by omega];exact least_of hi hc hs
 ·intro s hs k;exact ⟨fun h=>absurd (dt h) (by omega),fun _=>by first | exact zh1 hs | (show zby.j1 _ _;exact zh1 hs)⟩
theorem zoz {a:Cl}:zb3 a (a.count:Int):=by
 refine zhe (P:=fun k (s:Int) v=>zb3.l1 a _ k s v) 256 (fun i s=>s=(((List.range i).countP a.has:Nat):Int)) ?_ ?_ _ (by simp)
 ·rintro i s hi rfl;have hle:=List.countP_le_length (l:=List.range i) (p:=a.has);simp only [List.length_range] at hle;refine .inr ⟨_,rfl,fun k h=>⟨fun _=>⟨a.has i,zh6 hi,fun hc=>?_,fun hc=>?_⟩,fun h=>absurd (by omega) (df h)⟩⟩
  ·rw [List.range_succ,List.countP_append,List.countP_singleton,hc] at h;exact ⟨zh (by omega) (by omega),zh (by omega) (by omega),by simpa using h⟩
  ·rw [List.range_succ,List.countP_append,List.countP_singleton,hc] at h;exact ⟨zh (by omega) (by omega),by simpa using h⟩
 ·rintro s rfl k;exact ⟨fun h=>absurd (dt h) (by omega),fun _=>rfl⟩
theorem zku {a b:Cl}:zci a b (a &&& b):=by
 refine words_up (P:=fun k s v=>zci.l1 b _ k s v) (a:=a) (r:=a &&& b) (fun i w=>w &&& b.word i) (fun i hi=>?_) (fun k i s v hi hw hv h=>?_) (fun k=>?_)
 ·refine zid hi (Nat.and_lt_two_pow _ (b.word_lt i)) fun j hj=>?_;rw [zjz,Nat.testBit_and,Cl.word_bit,Cl.word_bit];simp [hj]
 ·refine ⟨fun _=>⟨⟨by omega,by omega⟩,⟨by omega,by omega⟩,⟨by omega,by omega⟩,zh (by omega) (by omega), ?_⟩,fun h=>absurd (by omega) (df h)⟩;rw [show andI (Cl.w s (i:Int)) (Cl.w b (i:Int))=v by rw [hv];unfold andI;rw [w_nat,w_nat,Int.toNat_natCast,hw]];exact h
 ·exact ⟨fun h=>absurd (dt h) (by omega),fun _=>rfl⟩
theorem zlz {a:Cl}:zcz a (~~~ a):=by
 refine words_up (P:=fun k s v=>zcz.l1 _ k s v) (a:=a) (r := ~~~ a) (fun i w=>18446744073709551615 ^^^ w) (fun i hi=>?_) (fun k i s v hi hw hv h=>?_) (fun k=>?_)
 ·refine zid hi (Nat.xor_lt_two_pow (by omega) (a.word_lt i)) fun j hj=>?_;rw [znw (by omega),Nat.testBit_xor,Cl.word_bit,show 18446744073709551615=2 ^ 64-1 by rfl,Nat.testBit_two_pow_sub_one];simp [hj]
 ·refine ⟨fun _=>⟨⟨by omega,by omega⟩,⟨by omega,by omega⟩,zh (by omega) (by omega), ?_⟩,fun h=>absurd (by omega) (df h)⟩;rw [show xorI 18446744073709551615 (Cl.w s (i:Int))=v by rw [hv];unfold xorI;rw [w_nat,Int.toNat_natCast,hw];rfl];exact h
 ·exact ⟨fun h=>absurd (dt h) (by omega),fun _=>rfl⟩
theorem dt0 {p:Prop} [Decidable p] (h:decide p=true):p:=of_decide_eq_true h
theorem df0 {p:Prop} [Decidable p] (h:decide p=false):¬ p:=of_decide_eq_false h
def zrm (key:Cl→Int) (cmp:Cl × Cl × Int→Prop):Prop:=∀x y,cmp (x,y,key x-key y)
theorem ins_l2 {key:Cl→Int} {cmp:Cl × Cl × Int→Prop} (hc:zrm key cmp) {A B:List Cl} {x:Cl} {X:List Cl→Prop}:
  ∀(m:Nat) (P G:List Cl),P.length=m→Srt key (P++G)→(∀g∈G,key x<key g)→(A++P++x::(G++B)).length<4611686018427387904 →
   (∀Q,Srt key Q→SEq key (P++x::G) Q→X (A++Q++B)) →
   ∃k,zd.l2 (A.length:Int) cmp X k (A++P++x::(G++B)) ((A.length+P.length:Nat):Int):=by
 intro m
 induction m with
 | zero=>
  intro P G hm hs hg hlen hX;have hP:=List.eq_nil_of_length_eq_zero hm;subst hP;refine ⟨1,x,fun h=>absurd (dt0 h) (by simp),fun h=>absurd (dt0 h) (by simp),x,fun h=>absurd (dt0 h) (by simp),0,fun h=>absurd (dt0 h) (by simp),fun h=>?_,fun _=>?_⟩
  ·simp at h
  ·have:=hX (x::G) (Srt.cons.2 ⟨fun y hy=>Int.le_of_lt (hg y hy),by simpa using hs⟩) (SEq.refl _ _);simpa using this
 | succ m ih=>
  intro P G hm hs hg hlen hX;obtain ⟨P,y,rfl⟩:=snoc_of (l:=P) (by rintro rfl;simp at hm);have hmP:P.length=m:=by simpa using hm
  have hl2:A.length+P.length+1<4611686018427387904:=by simp at hlen;omega
  have e0:A++(P++[y])++x::(G++B)=(A++P)++y::x::(G++B):=by simp
  have e1:A++(P++[y])++x::(G++B)=(A++P++[y])++x::(G++B):=by simp
  have hj:((A.length+(P++[y]).length:Nat):Int)=((A.length+P.length:Nat):Int)+1:=by simp <;> omega
  have at1:at? (A++(P++[y])++x::(G++B)) ((A.length+(P++[y]).length:Nat):Int)=some x:=by rw [e1];exact zia (by simp <;> omega)
  have at2:at? (A++(P++[y])++x::(G++B)) (((A.length+(P++[y]).length:Nat):Int)-1)=some y:=by rw [e0];exact zia (by simp <;> omega)
  by_cases hlt:key x<key y
  ·-- a round more
   obtain ⟨k,hk⟩:=ih P (y::G) hmP (by simpa using hs) (fun g hgm=>by
     rcases List.mem_cons.1 hgm with rfl | h
     ·exact hlt
     ·exact hg g h) (by simp at hlen ⊢ <;> omega) (fun Q hQ hE=>hX Q hQ (SEq.trans (by
      have:SEq key ([y]++[x]) ([x]++[y]):=zi3 (by simp <;> omega);have h2:=(SEq.refl key P).app (this.app (SEq.refl key G));simpa using h2) hE))
   refine ⟨k+1,x,fun _=>at1,fun _=>zh (by omega) (by omega),y,fun _=>at2,key x-key y,fun _=>hc x y,fun _=>?_,fun h=>?_⟩
   ·refine ⟨zh (by omega) (by omega),zh (by omega) (by omega),y,at2,x,at1,x,at1,y, ?_,zh (by omega) (by omega), ?_⟩
    ·rw [e1,zhx (by simp <;> omega)];rw [show (A++P++[y]++y::(G++B))=(A++P)++y::y::(G++B) by simp];exact zia (by simp <;> omega)
    ·have:((A++(P++[y])++x::(G++B)).set ((A.length+(P++[y]).length:Nat):Int).toNat y).set (((A.length+(P++[y]).length:Nat):Int)-1).toNat x=A++P++x::(y::G++B):=by
      rw [e1,zhx (by simp <;> omega)];rw [show (A++P++[y]++y::(G++B))=(A++P)++y::y::(G++B) by simp];rw [zhx (by simp <;> omega)];simp
     rw [this,show (((A.length+(P++[y]).length:Nat):Int)-1)=((A.length+P.length:Nat):Int) by omega];exact hk
   ·exfalso;simp at h;omega
  ·refine ⟨1,x,fun _=>at1,fun _=>zh (by omega) (by omega),y,fun _=>at2,key x-key y,fun _=>hc x y,fun h=>?_,fun _=>?_⟩
   ·exfalso;simp at h;omega
   ·have:=hX (P++[y]++x::G) (Srt.app.2 ⟨(Srt.app.1 hs).1,Srt.cons.2 ⟨fun g hgm=>Int.le_of_lt (hg g hgm),(Srt.app.1 hs).2.1⟩,fun p hp q hq=>?_⟩) (SEq.refl _ _)
    ·simpa using this
    ·have hpy:key p≤key y:=by
      rcases List.mem_append.1 hp with h | h
      ·exact (Srt.app.1 (Srt.app.1 hs).1).2.2 p h y (by simp)
      ·simp at h;subst h;exact Int.le_refl _
     rcases List.mem_cons.1 hq with rfl | h
     ·omega
     ·have:=(Srt.app.1 hs).2.2 p hp q h;exact this
theorem ins_in {key:Cl→Int} {cmp:Cl × Cl × Int→Prop} (hc:zrm key cmp) {A S B:List Cl} {a b:Int} (ha:a=(A.length:Int)) (hb:b=((A.length+S.length:Nat):Int)) (hlen:(A++S++B).length<4611686018427387904):
  zd (A++S++B) a b cmp (A++srt key S++B):=by
 have hlA:A.length+S.length<4611686018427387904:=by simp at hlen;omega
 subst ha;subst hb;have key2:∀(m:Nat) (P R:List Cl),R.length=m→Srt key P→SEq key S (P++R)→∀{X:List Cl→Prop},X (A++srt key S++B) →
   ∃k,zd.l1 (A.length:Int) ((A.length+S.length:Nat):Int) cmp X k (A++(P++R)++B) ((A.length+P.length:Nat):Int):=by
  intro m
  induction m with
  | zero=>
   intro P R hR hP hS X hX;have:=List.eq_nil_of_length_eq_zero hR;subst this;have hl:=hS.length;simp at hl;have e:=zh7 hP (by simpa using hS);exact ⟨1,fun h=>absurd (dt0 h) (by omega),fun _=>by rw [List.append_nil,e];exact hX⟩
  | succ m ih=>
   intro P R hR hP hS X hX;cases R with
   | nil=>simp at hR
   | cons x R=>
    have hl:=hS.length;simp at hl;simp at hR;have hS2:SEq key S (srt key (P++[x])++R):=hS.trans (by
     have:=(zgj key (P++[x])).app (SEq.refl key R);simpa using this)
    obtain ⟨k,hk⟩:=ih (srt key (P++[x])) R hR (zif _ _) hS2 hX;refine ⟨k+1,fun _=>?_,fun h=>absurd (by omega) (df0 h)⟩;have:=ins_l2 hc (A:=A) (B:=R++B) (x:=x) (X:=zd.j2 (zd.l1 (A.length:Int) ((A.length+S.length:Nat):Int) cmp X k) ((A.length+P.length:Nat):Int)) P.length P [] rfl (by simpa using hP) (by simp) (by simp at hlen ⊢ <;> omega) (fun Q hQ hE=>by
     have hQe:=zh7 hQ hE;refine ⟨zh (by omega) (by omega), ?_⟩;rw [hQe];have e1:((A.length+(srt key (P++[x])).length:Nat):Int)=((A.length+P.length:Nat):Int)+1:=by rw [zg3];simp;omega
     rw [e1] at hk;simpa using hk)
    simpa using this
 refine ⟨zh (by omega) (by omega), ?_⟩;cases S with
 | nil=>
  refine ⟨1,fun h=>absurd (dt0 h) (by simp <;> omega),fun _=>?_⟩;show A++srt key []++B=A++[]++B;rw [List.eq_nil_of_length_eq_zero (zg3 key [])]
 | cons x S=>
  have:=key2 S.length [x] S rfl (by simp [Srt]) (SEq.refl _ _) (X:=zd.j1 (A++srt key (x::S)++B)) rfl;simpa using this
theorem swap_l1 {A M B:List Cl} {a b n:Int} {X:List Cl→Prop}:∀(X2 Y2 X1 Y1:List Cl),X2.length=Y2.length→X1.length=Y1.length→a=(A.length:Int)→b=((A.length+X1.length+X2.length+M.length:Nat):Int)→n=((X1.length+X2.length:Nat):Int) →
  (A++Y1++X2++M++X1++Y2++B).length<4611686018427387904→X (A++(Y1++Y2)++M++(X1++X2)++B) →
  ∃k,zi.l1 a b n X k (A++Y1++X2++M++X1++Y2++B) (X1.length:Int)
 | [],[],X1,Y1,_,h1,ha,hb,hn,hl,hX=>⟨1,fun h=>absurd (dt0 h) (by rw [hn];simp),fun _=>by simpa using hX⟩
 | x::X2,y::Y2,X1,Y1,h0,h1,ha,hb,hn,hl,hX=>by
  simp at h0;have hl':A.length+Y1.length+X2.length+M.length+X1.length+Y2.length+B.length+2<4611686018427387904:=by simp at hl;omega
  obtain ⟨k,hk⟩:=swap_l1 (A:=A) (M:=M) (B:=B) (a:=a) (b:=b) (n:=n) (X:=X) X2 Y2 (X1++[x]) (Y1++[y]) h0 (by simp <;> omega) ha (by rw [hb];simp <;> omega) (by rw [hn];simp <;> omega) (by simp at hl ⊢ <;> omega) (by simpa using hX);have e1:A++Y1++x::X2++M++X1++y::Y2++B=(A++Y1)++x::(X2++M++X1++y::Y2++B):=by simp
  have e2:A++Y1++x::X2++M++X1++y::Y2++B=(A++Y1++x::X2++M++X1)++y::(Y2++B):=by simp
  have pa:a+(X1.length:Int)=((A++Y1).length:Int):=by rw [ha];simp <;> omega
  have pb:b+(X1.length:Int)=((A++Y1++x::X2++M++X1).length:Int):=by rw [hb];simp <;> omega
  have hb0:b+(X1.length:Int)<4611686018427387904∧0≤b+(X1.length:Int):=by rw [pb];simp <;> omega
  have ha0:a+(X1.length:Int)<4611686018427387904∧0≤a+(X1.length:Int):=by rw [pa];simp <;> omega
  have aty:at? (A++Y1++x::X2++M++X1++y::Y2++B) (b+(X1.length:Int))=some y:=by rw [e2];exact zia pb
  have atx:at? (A++Y1++x::X2++M++X1++y::Y2++B) (a+(X1.length:Int))=some x:=by rw [e1];exact zia pa
  have s1:(A++Y1++x::X2++M++X1++y::Y2++B).set (a+(X1.length:Int)).toNat y=A++Y1++y::X2++M++X1++y::Y2++B:=by rw [e1,zhx pa];simp
  have e3:A++Y1++y::X2++M++X1++y::Y2++B=(A++Y1++y::X2++M++X1)++y::(Y2++B):=by simp
  have pb':b+(X1.length:Int)=((A++Y1++y::X2++M++X1).length:Int):=by rw [pb];simp
  refine ⟨k+1,fun _=>⟨zh (by omega) (by omega),zh (by omega) (by omega),zh (by omega) (by omega),y,aty,zh (by omega) (by omega),x,atx,x,atx,y, ?_,zh (by omega) (by omega), ?_⟩,fun h=>absurd (by rw [hn];simp <;> omega) (df0 h)⟩
  ·rw [s1,e3];exact zia pb'
  ·rw [s1,e3,zhx pb'];simpa using hk
 | [],_::_,_,_,h,_,_,_,_,_,_=>by simp at h
 | _::_,[],_,_,h,_,_,_,_,_,_=>by simp at h
theorem swap_in {A X M Y B:List Cl} {a b n:Int} {cmp:Cl × Cl × Int→Prop} (ha:a=(A.length:Int)) (hb:b=((A.length+X.length+M.length:Nat):Int)) (hn:n=(X.length:Int)) (hxy:X.length=Y.length) (hl:(A++X++M++Y++B).length<4611686018427387904):
  zi (A++X++M++Y++B) a b n cmp (A++Y++M++X++B):=by
 have:=swap_l1 (A:=A) (M:=M) (B:=B) (a:=a) (b:=b) (n:=n) (X:=zi.j1 (A++Y++M++X++B)) X Y [] [] hxy rfl ha (by rw [hb];simp) (by rw [hn];simp) (by simpa using hl) rfl;unfold zi;simpa using this
theorem rot_in {A X Y B:List Cl} {a m b:Int} {cmp:Cl × Cl × Int→Prop} (ha:a=(A.length:Int)) (hm:m=((A.length+X.length:Nat):Int)) (hb:b=((A.length+X.length+Y.length:Nat):Int)) (hX:X≠[]) (hY:Y≠[]) (hl:(A++X++Y++B).length<4611686018427387904):
  zm (A++X++Y++B) a m b cmp (A++Y++X++B):=by
 have hl':A.length+X.length+Y.length+B.length<4611686018427387904:=by simp at hl;omega
 refine ⟨zh (by omega) (by omega),zh (by omega) (by omega), ?_⟩;have key:∀(f:Nat) (L X' Y' R:List Cl),X'.length+Y'.length≤f→X'≠[]→Y'≠[]→A.length+L.length+X'.length=A.length+X.length→L++Y'++X'++R=Y++X →
   ∃k,zm.l1 m cmp (zm.j1 m cmp (A++Y++X++B)) k (A++L++X'++Y'++R++B) (X'.length:Int) (Y'.length:Int):=by
  intro f
  induction f with
  | zero=>intro L X' Y' R hf hx;exact absurd (List.eq_nil_of_length_eq_zero (by omega)) hx
  | succ f ih=>
   intro L X' Y' R hf hx hy hmid heq;have hx':0<X'.length:=List.length_pos_iff.2 hx;have hy':0<Y'.length:=List.length_pos_iff.2 hy;have hle:=congrArg List.length heq;simp at hle
   by_cases hlt:Y'.length<X'.length
   ·obtain ⟨X1,X2,rfl,hX1⟩:=zfp X' (Nat.le_of_lt hlt);have hX2:X2≠[]:=by rintro rfl;simp at hlt;omega
    have hX2':0<X2.length:=List.length_pos_iff.2 hX2;simp at hle hmid hf hlt;obtain ⟨k,hk⟩:=ih (L++Y') X2 X1 R (by omega) hX2 (by rintro rfl;simp at hX1;omega) (by first | omega | (simp;omega)) (by simpa using heq);refine ⟨k+1,fun _=>⟨fun _=>⟨zh (by first | omega | (simp;omega)) (by first | omega | (simp;omega)),A++L++Y'++X2++X1++(R++B), ?_,zh (by first | omega | (simp;omega)) (by first | omega | (simp;omega)), ?_⟩,fun h=>absurd (by simp;omega) (df0 h)⟩,fun h=>by simp at h;omega⟩
    ·have:=swap_in (cmp:=cmp) (A:=A++L) (X:=X1) (M:=X2) (Y:=Y') (B:=R++B) (a:=m-((X1++X2).length:Int)) (b:=m) (n:=(Y'.length:Int)) (by rw [hm];simp;omega) (by rw [hm];simp;omega) (by omega) (by omega) (by simp;omega);simpa using this
    ·have e:(((X1++X2).length:Nat):Int)-(Y'.length:Int)=(X2.length:Int):=by simp;omega
     rw [e,← hX1];simpa using hk
   ·by_cases heq2:X'.length=Y'.length
    ·refine ⟨1,fun h=>?_,fun _=>⟨zh (by first | omega | (simp;omega)) (by first | omega | (simp;omega)),A++L++Y'++X'++R++B, ?_, ?_⟩⟩
     ·simp at h;omega
     ·have:=swap_in (cmp:=cmp) (A:=A++L) (X:=X') (M:=[]) (Y:=Y') (B:=R++B) (a:=m-(X'.length:Int)) (b:=m) (n:=(X'.length:Int)) (by rw [hm];simp;omega) (by rw [hm];simp;omega) rfl heq2 (by simp;omega);simpa using this
     ·have:A++(Y++X)++B=A++(L++Y'++X'++R)++B:=by rw [heq]
      simpa using this
    ·have hlt2:X'.length<Y'.length:=by omega
     obtain ⟨Y1,Y2,rfl,hY1⟩:=zfp Y' (show Y'.length-X'.length≤Y'.length by omega);have hY2:Y2.length=X'.length:=by simp at hY1 hlt2;omega
     have hY1':Y1≠[]:=by rintro rfl;simp at hY1 hlt2;omega
     simp at hle hmid hf hlt2;obtain ⟨k,hk⟩:=ih L Y2 Y1 (X'++R) (by omega) (by rintro rfl;simp at hY2;omega) hY1' (by omega) (by simpa using heq);refine ⟨k+1,fun _=>⟨fun h=>absurd (dt0 h) (by simp;omega),fun _=>⟨zh (by omega) (by omega),zh (by first | omega | (simp;omega)) (by first | omega | (simp;omega)),zh (by first | omega | (simp;omega)) (by first | omega | (simp;omega)),A++L++Y2++Y1++X'++(R++B), ?_,zh (by first | omega | (simp;omega)) (by first | omega | (simp;omega)), ?_⟩⟩,fun h=>by simp at h;omega⟩
     ·have:=swap_in (cmp:=cmp) (A:=A++L) (X:=X') (M:=Y1) (Y:=Y2) (B:=R++B) (a:=m-(X'.length:Int)) (b:=m+((Y1++Y2).length:Int)-(X'.length:Int)) (n:=(X'.length:Int)) (by rw [hm];simp;omega) (by rw [hm];simp;omega) rfl (by omega) (by simp;omega);simpa using this
     ·have e:(((Y1++Y2).length:Nat):Int)-(X'.length:Int)=(Y1.length:Int):=by simp;omega
      rw [e,← hY2];simpa using hk
 have:=key (X.length+Y.length) [] X Y [] (Nat.le_refl _) hX hY (by simp) (by simp);have e1:m-a=(X.length:Int):=by omega
 have e2:b-m=(Y.length:Int):=by omega
 rw [e1,e2];simpa using this
theorem at_app1 {A S B:List Cl} {c:Nat} (h1:A.length≤c) (h2:c<A.length+S.length):at? (A++S++B) (c:Int)=some (S[c-A.length]'(by omega)):=by
 rw [zbn,List.append_assoc,List.getElem?_append_right h1,List.getElem?_append_left (by omega),List.getElem?_eq_getElem (by omega)]
theorem zo9 {key:Cl→Int} {S:List Cl} (h:Srt key S) {i j:Nat} (hij:i≤j) (hj:j<S.length):key (S[i]'(by omega))≤key S[j]:=by
 rcases Nat.lt_or_ge i j with hlt | hge
 ·exact List.pairwise_iff_getElem.1 h i j (by omega) hj hlt
 ·have:i=j:=by omega
  subst this;exact Int.le_refl _
theorem sm_l1 {A B:List Cl} {x:Cl} {i:Int} {X:List Cl→Prop}:∀(Y2 Y1:List Cl),i=((A.length+Y1.length+Y2.length:Nat):Int)+1→(A++Y1++x::Y2++B).length<4611686018427387904→X (A++(Y1++Y2)++x::B) →
  ∃k,za.l1 i X k (A++Y1++x::Y2++B) ((A.length+Y1.length:Nat):Int)
 | [],Y1,hi,hl,hX=>by
  have hl':A.length+Y1.length<4611686018427387904:=by simp at hl;omega
  exact ⟨1,zh (by simp at hi;omega) (by simp at hi;omega),fun h=>absurd (dt0 h) (by simp at hi;omega),fun _=>by simpa using hX⟩
 | y::Y2,Y1,hi,hl,hX=>by
  have hl':A.length+Y1.length+Y2.length+1<4611686018427387904:=by simp at hl;omega
  have hi':=hi;simp at hi';obtain ⟨k,hk⟩:=sm_l1 (A:=A) (B:=B) (x:=x) (i:=i) (X:=X) Y2 (Y1++[y]) (by rw [hi];simp;omega) (by simp at hl ⊢;omega) (by simpa using hX);have e1:A++Y1++x::(y::Y2)++B=(A++Y1)++x::(y::Y2++B):=by simp
  have e2:A++Y1++x::(y::Y2)++B=(A++Y1++[x])++y::(Y2++B):=by simp
  have p1:((A.length+Y1.length:Nat):Int)=((A++Y1).length:Int):=by simp
  have p2:((A.length+Y1.length:Nat):Int)+1=((A++Y1++[x]).length:Int):=by simp;omega
  have a1:at? (A++Y1++x::(y::Y2)++B) ((A.length+Y1.length:Nat):Int)=some x:=by rw [e1];exact zia p1
  have a2:at? (A++Y1++x::(y::Y2)++B) (((A.length+Y1.length:Nat):Int)+1)=some y:=by rw [e2];exact zia p2
  have s1:(A++Y1++x::(y::Y2)++B).set ((A.length+Y1.length:Nat):Int).toNat y=(A++Y1++[y])++y::(Y2++B):=by rw [e1,zhx p1];simp
  have p2':((A.length+Y1.length:Nat):Int)+1=((A++Y1++[y]).length:Int):=by simp;omega
  refine ⟨k+1,zh (by omega) (by omega),fun _=>⟨zh (by omega) (by omega),zh (by omega) (by omega),y,a2,x,a1,x,a1,y, ?_,zh (by omega) (by omega), ?_⟩,fun h=>absurd (by omega) (df0 h)⟩
  ·rw [s1];exact zia p2'
  ·rw [s1,zhx p2'];have p3:((A.length+(Y1++[y]).length:Nat):Int)=((A.length+Y1.length:Nat):Int)+1:=by simp;omega
   rw [p3] at hk;simpa using hk
theorem sm_l3 {A B:List Cl} {x:Cl} {i:Int} {X:List Cl→Prop}:∀(m:Nat) (Y1 Y2:List Cl),Y1.length=m→i=(A.length:Int)→(A++Y1++x::Y2++B).length<4611686018427387904→X (A++x::(Y1++Y2)++B) →
  ∃k,za.l3 i X k (A++Y1++x::Y2++B) ((A.length+Y1.length:Nat):Int):=by
 intro m
 induction m with
 | zero=>
  intro Y1 Y2 hm hi hl hX;have:=List.eq_nil_of_length_eq_zero hm;subst this;exact ⟨1,fun h=>absurd (dt0 h) (by rw [hi];simp),fun _=>by simpa using hX⟩
 | succ m ih=>
  intro Y1 Y2 hm hi hl hX;obtain ⟨Y1,y,rfl⟩:=snoc_of (l:=Y1) (by rintro rfl;simp at hm);have hl':A.length+Y1.length+Y2.length+1<4611686018427387904:=by simp at hl;omega
  obtain ⟨k,hk⟩:=ih Y1 (y::Y2) (by simpa using hm) hi (by simp at hl ⊢;omega) (by simpa using hX);have e1:A++(Y1++[y])++x::Y2++B=(A++Y1)++y::(x::Y2++B):=by simp
  have e2:A++(Y1++[y])++x::Y2++B=(A++Y1++[y])++x::(Y2++B):=by simp
  have p2:((A.length+(Y1++[y]).length:Nat):Int)=((A++Y1++[y]).length:Int):=by simp
  have p1:((A.length+(Y1++[y]).length:Nat):Int)-1=((A++Y1).length:Int):=by simp;omega
  have a2:at? (A++(Y1++[y])++x::Y2++B) ((A.length+(Y1++[y]).length:Nat):Int)=some x:=by rw [e2];exact zia p2
  have a1:at? (A++(Y1++[y])++x::Y2++B) (((A.length+(Y1++[y]).length:Nat):Int)-1)=some y:=by rw [e1];exact zia p1
  have s1:(A++(Y1++[y])++x::Y2++B).set ((A.length+(Y1++[y]).length:Nat):Int).toNat y=(A++Y1)++y::(y::Y2++B):=by rw [e2,zhx p2];simp
  refine ⟨k+1,fun _=>⟨zh (by simp;omega) (by simp;omega),zh (by simp;omega) (by simp;omega),y,a1,x,a2,x,a2,y, ?_,zh (by simp;omega) (by simp;omega), ?_⟩,fun h=>absurd (by rw [hi];simp;omega) (df0 h)⟩
  ·rw [s1];exact zia p1
  ·rw [s1,zhx p1,p1,show (((A++Y1).length:Nat):Int)=((A.length+Y1.length:Nat):Int) by simp];simpa using hk
theorem at_gd {A S B:List Cl} {c:Nat} (h1:A.length≤c) (h2:c<A.length+S.length):at? (A++S++B) (c:Int)=some (S.getD (c-A.length) 0#256):=by
 rw [at_app1 h1 h2,List.getD,List.getElem?_eq_getElem (by omega)];rfl
theorem gd_le {key:Cl→Int} {S:List Cl} (h:Srt key S) {i j:Nat} (hij:i≤j) (hj:j<S.length):key (S.getD i 0#256)≤key (S.getD j 0#256):=by
 have:=zo9 h hij hj;rw [List.getD,List.getD,List.getElem?_eq_getElem (by omega),List.getElem?_eq_getElem hj];exact this
theorem getD_l {X Y:List Cl} {q:Nat} (h:q<X.length):(X++Y).getD q 0#256=X[q]:=by
 rw [List.getD,List.getElem?_append_left h,List.getElem?_eq_getElem h];rfl
theorem getD_r {X Y:List Cl} {q:Nat} (h:q<Y.length):(X++Y).getD (X.length+q) 0#256=Y[q]:=by
 rw [List.getD,List.getElem?_append_right (by omega),Nat.add_sub_cancel_left,List.getElem?_eq_getElem h];rfl
theorem sym_j7 {key:Cl→Int} {cmp:Cl × Cl × Int→Prop} {f:Nat} {A S1 S2 T1 T2 B:List Cl}
  (ih:∀(A S T B:List Cl),S.length+T.length≤f→S≠[]→T≠[]→Srt key S→Srt key T→(A++S++T++B).length<4611686018427387904 →
   za.n f (A++S++T++B) (A.length:Int) ((A.length+S.length:Nat):Int) ((A.length+S.length+T.length:Nat):Int) cmp (A++srt key (S++T)++B))
  (hS:Srt key (S1++S2)) (hT:Srt key (T1++T2)) (hlen:(A++(S1++S2)++(T1++T2)++B).length<4611686018427387904) (h1:∀t∈T1,∀s∈S2,key t<key s) (h2:∀s∈S1,∀t∈T2,key s≤key t)
  {st mid m b:Int} (hst:st=((A.length+S1.length:Nat):Int)) (hmid:mid=((A.length+S1.length+T1.length:Nat):Int)) (hm:m=((A.length+S1.length+S2.length:Nat):Int)) (hb:b=((A.length+S1.length+S2.length+T1.length+T2.length:Nat):Int))
  (hf1:S1.length+T1.length≤f) (hf2:S2.length+T2.length≤f):
  za.j7 (za.n f) (A++(S1++S2)++(T1++T2)++B) (A.length:Int) m b cmp (A++srt key ((S1++S2)++(T1++T2))++B) mid st:=by
 have hl:A.length+S1.length+S2.length+T1.length+T2.length+B.length<4611686018427387904:=by simp at hlen;omega
 obtain ⟨hS1,hS2,hSS⟩:=Srt.app.1 hS;obtain ⟨hT1,hT2,hTT⟩:=Srt.app.1 hT;have hres:srt key ((S1++S2)++(T1++T2))=srt key (S1++T1)++srt key (S2++T2):=by
  refine (zh7 (Srt.app.2 ⟨zif _ _,zif _ _,fun x hx y hy=>?_⟩) ?_).symm
  ·have hx':=(zgj key (S1++T1)).perm.mem_iff.2 hx;have hy':=(zgj key (S2++T2)).perm.mem_iff.2 hy;rcases List.mem_append.1 hx' with hx1 | hx1 <;> rcases List.mem_append.1 hy' with hy1 | hy1
   ·exact hSS x hx1 y hy1
   ·exact h2 x hx1 y hy1
   ·exact Int.le_of_lt (h1 x hx1 y hy1)
   ·exact hTT x hx1 y hy1
  ·have e1:SEq key (S2++T1) (T1++S2):=zi3 fun x hx y hy=>by have:=h1 y hy x hx;omega
   have e2:=(SEq.refl key S1).app (e1.app (SEq.refl key T2));have e3:=(zgj key (S1++T1)).app (zgj key (S2++T2));exact SEq.trans (by simpa using e2) (by simpa using e3)
 rw [hres];have hj5:za.j5 (za.n f) m b cmp (A++(srt key (S1++T1)++srt key (S2++T2))++B) mid st (A++srt key (S1++T1)++S2++T2++B):=by
  refine ⟨_,rfl,fun h=>?_,fun h=>?_⟩
  ·simp only [Bool.and_eq_true,decide_eq_true_eq] at h;have hS2n:S2≠[]:=by rintro rfl;simp at hm;omega
   have hT2n:T2≠[]:=by rintro rfl;simp at hb;omega
   have:=ih (A++srt key (S1++T1)) S2 T2 B hf2 hS2n hT2n hS2 hT2 (by simp [zg3];omega);refine ⟨_, ?_,rfl⟩;have e1:(((A++srt key (S1++T1)).length:Nat):Int)=mid:=by rw [hmid];simp [zg3];omega
   have e2:(((A++srt key (S1++T1)).length+S2.length:Nat):Int)=mid+m-st:=by rw [hmid,hm,hst];simp [zg3];omega
   have e3:(((A++srt key (S1++T1)).length+S2.length+T2.length:Nat):Int)=b:=by rw [hb];simp [zg3];omega
   rw [e1,e2,e3] at this;simpa using this
  ·have:S2=[]∨T2=[]:=by
    simp only [Bool.and_eq_false_iff,decide_eq_false_iff_not] at h;rcases h with h | h
    ·left;exact List.eq_nil_of_length_eq_zero (by omega)
    ·right;exact List.eq_nil_of_length_eq_zero (by omega)
   have e:srt key (S2++T2)=S2++T2:=by
    rcases this with rfl | rfl
    ·exact (zh7 (by simpa using hT2) (SEq.refl _ _)).symm
    ·exact (zh7 (by simpa using hS2) (SEq.refl _ _)).symm
   rw [e];simp
 have hj6:za.j6 (za.n f) (A.length:Int) m b cmp (A++(srt key (S1++T1)++srt key (S2++T2))++B) mid st (A++S1++T1++S2++T2++B):=by
  refine ⟨_,rfl,fun h=>?_,fun h=>?_⟩
  ·simp only [Bool.and_eq_true,decide_eq_true_eq] at h;have hS1n:S1≠[]:=by rintro rfl;simp at hst;omega
   have hT1n:T1≠[]:=by rintro rfl;simp at hmid;omega
   have:=ih A S1 T1 (S2++T2++B) hf1 hS1n hT1n hS1 hT1 (by simp;omega);refine ⟨A++srt key (S1++T1)++S2++T2++B, ?_,hj5⟩;rw [← hst,← hmid] at this;simpa using this
  ·have:S1=[]∨T1=[]:=by
    simp only [Bool.and_eq_false_iff,decide_eq_false_iff_not] at h;rcases h with h | h
    ·left;exact List.eq_nil_of_length_eq_zero (by omega)
    ·right;exact List.eq_nil_of_length_eq_zero (by omega)
   have e:srt key (S1++T1)=S1++T1:=by
    rcases this with rfl | rfl
    ·exact (zh7 (by simpa using hT1) (SEq.refl _ _)).symm
    ·exact (zh7 (by simpa using hS1) (SEq.refl _ _)).symm
   rw [e] at hj5 ⊢;simpa using hj5
 refine ⟨zh (by omega) (by omega),_,rfl,fun h=>?_,fun h=>?_⟩
 ·simp only [Bool.and_eq_true,decide_eq_true_eq] at h;have hS2n:S2≠[]:=by rintro rfl;simp at hm;omega
  have hT1n:T1≠[]:=by rintro rfl;simp at hmid;omega
  have:=rot_in (cmp:=cmp) (A:=A++S1) (X:=S2) (Y:=T1) (B:=T2++B) (a:=st) (m:=m) (b:=mid+m-st) (by rw [hst];simp) (by rw [hm];simp) (by rw [hmid,hm,hst];simp;omega) hS2n hT1n (by simp;omega);refine ⟨A++S1++T1++S2++T2++B, ?_,hj6⟩;simpa using this
 ·have:S2=[]∨T1=[]:=by
   simp only [Bool.and_eq_false_iff,decide_eq_false_iff_not] at h;rcases h with h | h
   ·left;exact List.eq_nil_of_length_eq_zero (by omega)
   ·right;exact List.eq_nil_of_length_eq_zero (by omega)
  have e:A++(S1++S2)++(T1++T2)++B=A++S1++T1++S2++T2++B:=by
   rcases this with rfl | rfl <;> simp
  rw [e];exact hj6
theorem sym_n {key:Cl→Int} {cmp:Cl × Cl × Int→Prop} (hc:zrm key cmp):∀(f:Nat) (A S T B:List Cl),S.length+T.length≤f→S≠[]→T≠[]→Srt key S→Srt key T→(A++S++T++B).length<4611686018427387904 →
  za.n f (A++S++T++B) (A.length:Int) ((A.length+S.length:Nat):Int) ((A.length+S.length+T.length:Nat):Int) cmp (A++srt key (S++T)++B):=by
 intro f
 induction f with
 | zero=>intro A S T B hf hS;exact absurd (List.eq_nil_of_length_eq_zero (by omega)) hS
 | succ f ih=>
  intro A S T B hf hSn hTn hS hT hlen;have hl:A.length+S.length+T.length+B.length<4611686018427387904:=by simp at hlen;omega
  have hs0:0<S.length:=List.length_pos_iff.2 hSn;have ht0:0<T.length:=List.length_pos_iff.2 hTn;have atS:∀c:Nat,A.length≤c→c<A.length+S.length→at? (A++S++T++B) (c:Int)=some (S.getD (c-A.length) 0#256):=fun c h1 h2=>by
   rw [show A++S++T++B=A++S++(T++B) by simp];exact at_gd h1 h2
  have atT:∀c:Nat,A.length+S.length≤c→c<A.length+S.length+T.length→at? (A++S++T++B) (c:Int)=some (T.getD (c-(A.length+S.length)) 0#256):=fun c h1 h2=>by
   have:=at_gd (A:=A++S) (S:=T) (B:=B) (c:=c) (by simp;omega) (by simp;omega);simpa using this
  refine ⟨zh (by omega) (by omega),fun h1=>?_,fun h1=>⟨zh (by omega) (by omega),fun h2=>?_,fun h2=>⟨zh (by omega) (by omega), ?_⟩⟩⟩
  ·-- one thing ahead
   have hs1:S.length=1:=by simp at h1;omega
   obtain ⟨x,rfl⟩:=List.length_eq_one_iff.1 hs1;refine bsearch (P:=fun k i j=>za.l2 (A++[x]++T++B) (A.length:Int) cmp _ k i j) (fun c=>decide (key (T.getD (c-(A.length+1)) 0#256)<key x)) (A.length+1) (A.length+1+T.length) (fun c d h1 h2 h3 h4=>?_) (fun k i j h1 h2 h3=>?_) (fun k i h1 h2 h3 h4=>?_) (by omega)
   ·have:=gd_le hT (i:=c-(A.length+1)) (j:=d-(A.length+1)) (by omega) (by omega);simp only [decide_eq_true_eq] at h4 ⊢;omega
   ·have hat:=atT ((i+j) / 2) (by simp;omega) (by simp;omega);have hax:=atS A.length (Nat.le_refl _) (by simp);have hh:∀(p:Prop),(((decide ((i:Int)<(j:Int)))=true→InR .i64 ((i:Int)+j)∧∃i42:Int,i42=(IntKind.wrap .i64 (zpb (IntKind.wrap .u64 ((i:Int)+j)) 1))∧∃e45:Cl,at? (A++[x]++T++B) i42=some e45∧∃e47:Cl,at? (A++[x]++T++B) (A.length:Int)=some e47∧∃r49:Int,cmp (e45,e47,r49)∧p)→True):=fun _ _=>trivial;constructor
    ·intro hp hk;refine ⟨fun _=>⟨zh (by omega) (by omega),_,rfl,T.getD ((i+j) / 2-(A.length+1)) 0#256, ?_,x,by simpa using hax,_,hc _ _,fun _=>⟨?_, ?_⟩,fun h=>?_⟩,fun h=>absurd (by omega) (df0 h)⟩
     ·rw [zf4 (by omega) (by omega),show ((i:Int)+j) / 2=(((i+j) / 2:Nat):Int) by omega];simpa using hat
     ·rw [zf4 (by omega) (by omega)];exact zh (by omega) (by omega)
     ·rw [zf4 (by omega) (by omega),show ((i:Int)+j) / 2+1=(((i+j) / 2+1:Nat):Int) by omega];exact hk
     ·exfalso;simp at h hp;omega
    ·intro hp hk;refine ⟨fun _=>⟨zh (by omega) (by omega),_,rfl,T.getD ((i+j) / 2-(A.length+1)) 0#256, ?_,x,by simpa using hax,_,hc _ _,fun h=>?_,fun _=>?_⟩,fun h=>absurd (by omega) (df0 h)⟩
     ·rw [zf4 (by omega) (by omega),show ((i:Int)+j) / 2=(((i+j) / 2:Nat):Int) by omega];simpa using hat
     ·exfalso;simp at h hp;omega
     ·rw [zf4 (by omega) (by omega),show ((i:Int)+j) / 2=(((i+j) / 2:Nat):Int) by omega];exact hk
   ·refine ⟨fun h=>absurd (dt0 h) (by omega),fun _=>?_⟩;obtain ⟨T1,T2,rfl,hT1⟩:=zfp T (show i-(A.length+1)≤T.length by omega);have hlt:∀y∈T1,key y<key x:=fun y hy=>by
     obtain ⟨q,hq,rfl⟩:=List.mem_iff_getElem.1 hy;have:=h3 (A.length+1+q) (by omega) (by omega);rw [show A.length+1+q-(A.length+1)=q by omega,getD_l hq] at this;exact of_decide_eq_true this
    have hge:∀y∈T2,key x≤key y:=fun y hy=>by
     obtain ⟨q,hq,rfl⟩:=List.mem_iff_getElem.1 hy;have:=h4 (A.length+1+T1.length+q) (by omega) (by simp;omega);rw [show A.length+1+T1.length+q-(A.length+1)=T1.length+q by omega,getD_r hq] at this;have:=of_decide_eq_false this;omega
    have hres:srt key ([x]++(T1++T2))=T1++x::T2:=by
     refine (zh7 (Srt.app.2 ⟨(Srt.app.1 hT).1,Srt.cons.2 ⟨hge,(Srt.app.1 hT).2.1⟩,fun p hp q hq=>?_⟩) ?_).symm
     ·rcases List.mem_cons.1 hq with rfl | hq
      ·exact Int.le_of_lt (hlt p hp)
      ·exact (Srt.app.1 hT).2.2 p hp q hq
     ·have e1:SEq key ([x]++T1) (T1++[x]):=zi3 fun a ha b hb=>by simp at ha;subst ha;have:=hlt b hb;omega
      simpa using e1.app (SEq.refl key T2)
    rw [hres];have:=sm_l1 (A:=A) (B:=T2++B) (x:=x) (i:=(i:Int)) (X:=za.j1 (A++(T1++x::T2)++B)) T1 [] (by simp;omega) (by simp at hl ⊢;omega) (by simp [za.j1]);show ∃k15,za.l1 (i:Int) _ k15 _ _;simpa using this
  ·-- one thing behind
   have ht1:T.length=1:=by simp at h2;omega
   obtain ⟨y,rfl⟩:=List.length_eq_one_iff.1 ht1;refine bsearch (P:=fun k i j=>za.l4 (A++S++[y]++B) ((A.length+S.length:Nat):Int) cmp _ k i j) (fun c=>!decide (key y<key (S.getD (c-A.length) 0#256))) A.length (A.length+S.length) (fun c d h1 h2 h3 h4=>?_) (fun k i j h1 h2 h3=>?_) (fun k i h1 h2 h3 h4=>?_) (by omega)
   ·have:=gd_le hS (i:=c-A.length) (j:=d-A.length) (by omega) (by omega);simp only [Bool.not_eq_true',decide_eq_false_iff_not] at h4 ⊢;omega
   ·have hat:=atS ((i+j) / 2) (by omega) (by omega);have hay:=atT (A.length+S.length) (Nat.le_refl _) (by simp);constructor
    ·intro hp hk;refine ⟨fun _=>⟨zh (by omega) (by omega),_,rfl,y,by simpa using hay,S.getD ((i+j) / 2-A.length) 0#256, ?_,_,hc _ _,fun _=>⟨?_, ?_⟩,fun h=>?_⟩,fun h=>absurd (by omega) (df0 h)⟩
     ·rw [zf4 (by omega) (by omega),show ((i:Int)+j) / 2=(((i+j) / 2:Nat):Int) by omega];exact hat
     ·rw [zf4 (by omega) (by omega)];exact zh (by omega) (by omega)
     ·rw [zf4 (by omega) (by omega),show ((i:Int)+j) / 2+1=(((i+j) / 2+1:Nat):Int) by omega];exact hk
     ·exfalso;simp only [Bool.not_eq_true',Bool.not_eq_false',decide_eq_true_eq,decide_eq_false_iff_not] at h hp;omega
    ·intro hp hk;refine ⟨fun _=>⟨zh (by omega) (by omega),_,rfl,y,by simpa using hay,S.getD ((i+j) / 2-A.length) 0#256, ?_,_,hc _ _,fun h=>?_,fun _=>?_⟩,fun h=>absurd (by omega) (df0 h)⟩
     ·rw [zf4 (by omega) (by omega),show ((i:Int)+j) / 2=(((i+j) / 2:Nat):Int) by omega];exact hat
     ·exfalso;simp only [Bool.not_eq_true',Bool.not_eq_false',decide_eq_true_eq,decide_eq_false_iff_not] at h hp;omega
     ·rw [zf4 (by omega) (by omega),show ((i:Int)+j) / 2=(((i+j) / 2:Nat):Int) by omega];exact hk
   ·refine ⟨fun h=>absurd (dt0 h) (by omega),fun _=>?_⟩;obtain ⟨S1,S2,rfl,hS1⟩:=zfp S (show i-A.length≤S.length by omega);have hle:∀x∈S1,key x≤key y:=fun x hx=>by
     obtain ⟨q,hq,rfl⟩:=List.mem_iff_getElem.1 hx;have:=h3 (A.length+q) (by omega) (by omega);rw [show A.length+q-A.length=q by omega,getD_l hq] at this;simp only [Bool.not_eq_true',decide_eq_false_iff_not] at this;omega
    have hgt:∀x∈S2,key y<key x:=fun x hx=>by
     obtain ⟨q,hq,rfl⟩:=List.mem_iff_getElem.1 hx;have:=h4 (A.length+S1.length+q) (by omega) (by simp;omega);rw [show A.length+S1.length+q-A.length=S1.length+q by omega,getD_r hq] at this;simpa using this
    have hres:srt key ((S1++S2)++[y])=S1++y::S2:=by
     refine (zh7 (Srt.app.2 ⟨(Srt.app.1 hS).1,Srt.cons.2 ⟨fun q hq=>Int.le_of_lt (hgt q hq),(Srt.app.1 hS).2.1⟩,fun p hp q hq=>?_⟩) ?_).symm
     ·rcases List.mem_cons.1 hq with rfl | hq
      ·exact hle p hp
      ·exact (Srt.app.1 hS).2.2 p hp q hq
     ·have e1:SEq key (S2++[y]) ([y]++S2):=zi3 fun a ha b hb=>by simp at hb;subst hb;have:=hgt a ha;omega
      simpa using (SEq.refl key S1).app e1
    rw [hres];have:=sm_l3 (A:=A++S1) (B:=B) (x:=y) (i:=(i:Int)) (X:=za.j3 (A++(S1++y::S2)++B)) S2.length S2 [] rfl (by simp;omega) (by simp at hl ⊢;omega) (by simp [za.j3]);show ∃k66,za.l3 (i:Int) _ k66 _ _;have e:(((A++S1).length+S2.length:Nat):Int)=((A.length+(S1++S2).length:Nat):Int):=by simp;omega
    rw [e] at this;simpa using this
  ·-- both longer
   have hs2:2≤S.length:=by simp at h1;omega
   have ht2:2≤T.length:=by simp at h2;omega
   obtain ⟨mid,hmid⟩:∃mid:Nat,mid=(A.length+(A.length+S.length+T.length)) / 2:=⟨_,rfl⟩;have hmidI:IntKind.wrap .i64 (zpb (IntKind.wrap .u64 ((A.length:Int)+((A.length+S.length+T.length:Nat):Int))) 1)=(mid:Int):=by
    rw [zf4 (by omega) (by omega)];omega
   refine ⟨_,rfl, ?_⟩;rw [hmidI];have main:∀(lo hi:Nat),(lo=A.length∨lo+(A.length+S.length+T.length)=mid+(A.length+S.length))→A.length≤lo→mid+(A.length+S.length)≤lo+(A.length+S.length+T.length)→(hi=mid∨hi=A.length+S.length)→hi≤mid→hi≤A.length+S.length→lo≤hi →
     za.j8 (za.n f) (A++S++T++B) (A.length:Int) ((A.length+S.length:Nat):Int) ((A.length+S.length+T.length:Nat):Int) cmp (A++srt key (S++T)++B) (mid:Int) (lo:Int) (hi:Int):=by
    intro lo hi hlo hla hlb hhi hhm hhs hle;refine ⟨zh (by omega) (by omega), ?_⟩;refine bsearch (P:=fun k i j=>za.l5 (A++S++T++B) ((A.length+S.length:Nat):Int) cmp (mid:Int) _ k i j) (fun c=>!decide (key (T.getD (mid-1-c) 0#256)<key (S.getD (c-A.length) 0#256))) lo hi (fun c d h1 h2 h3 h4=>?_) (fun k i j h1 h2 h3=>?_) (fun k st h1 h2 h3 h4=>?_) hle
    ·have e1:=gd_le hS (i:=c-A.length) (j:=d-A.length) (by omega) (by omega);have e2:=gd_le hT (i:=mid-1-d) (j:=mid-1-c) (by omega) (by omega);simp only [Bool.not_eq_true',decide_eq_false_iff_not] at h4 ⊢;omega
    ·have hat:=atS ((i+j) / 2) (by omega) (by omega);have hay:=atT (mid+(A.length+S.length)-1-(i+j) / 2) (by omega) (by omega);rw [show mid+(A.length+S.length)-1-(i+j) / 2-(A.length+S.length)=mid-1-(i+j) / 2 by omega] at hay;have hpc:(mid:Int)+((A.length+S.length:Nat):Int)-1-(((i+j) / 2:Nat):Int)=((mid+(A.length+S.length)-1-(i+j) / 2:Nat):Int):=by omega
     have hh:IntKind.wrap .i64 (zpb (IntKind.wrap .u64 ((i:Int)+(j:Int))) 1)=(((i+j) / 2:Nat):Int):=by rw [zf4 (by omega) (by omega)];omega
     constructor
     ·intro hp hk;refine ⟨fun _=>⟨zh (by omega) (by omega),_,rfl, ?_⟩,fun h=>absurd (by omega) (df0 h)⟩;rw [hh,hpc];refine ⟨zh (by omega) (by omega),_,hay,_,hat,_,hc _ _,fun _=>⟨zh (by omega) (by omega),by simpa using hk⟩,fun h=>?_⟩;exfalso;simp only [Bool.not_eq_true',Bool.not_eq_false',decide_eq_true_eq,decide_eq_false_iff_not] at h hp;omega
     ·intro hp hk;refine ⟨fun _=>⟨zh (by omega) (by omega),_,rfl, ?_⟩,fun h=>absurd (by omega) (df0 h)⟩;rw [hh,hpc];refine ⟨zh (by omega) (by omega),_,hay,_,hat,_,hc _ _,fun h=>?_,fun _=>hk⟩;exfalso;simp only [Bool.not_eq_true',Bool.not_eq_false',decide_eq_true_eq,decide_eq_false_iff_not] at h hp;omega
    ·refine ⟨fun h=>absurd (dt0 h) (by omega),fun _=>?_⟩;obtain ⟨S1,S2,rfl,hS1⟩:=zfp S (show st-A.length≤S.length by omega);obtain ⟨T1,T2,rfl,hT1⟩:=zfp T (show mid-st≤T.length by omega);simp only [List.length_append] at hmid hs2 ht2 hlo hla hlb hhi hhm hhs hf hl hS1 hT1 ⊢;refine sym_j7 (key:=key) ih hS hT hlen (fun t ht s hs=>?_) (fun s hs t ht=>?_) (by omega) (by omega) (by omega) (by omega) (by omega) (by omega)
     ·-- what stands ahead of the middle behind is less
      have hs2:0<S2.length:=List.length_pos_iff.2 (List.ne_nil_of_mem hs);have ht1:0<T1.length:=List.length_pos_iff.2 (List.ne_nil_of_mem ht);obtain ⟨q,hq,rfl⟩:=List.mem_iff_getElem.1 ht;obtain ⟨r,hr,rfl⟩:=List.mem_iff_getElem.1 hs;have hp:=h4 st (Nat.le_refl _) (by omega);rw [show mid-1-st=T1.length-1 by omega,show st-A.length=S1.length+0 by omega,getD_l (by omega),getD_r hs2] at hp;have e1:=zo9 (Srt.app.1 hT).1 (i:=q) (j:=T1.length-1) (by omega) (by omega);have e2:=zo9 (Srt.app.1 hS).2.1 (i:=0) (j:=r) (by omega) hr;simp only [Bool.not_eq_false',decide_eq_true_eq] at hp;omega
     ·have hs1:0<S1.length:=List.length_pos_iff.2 (List.ne_nil_of_mem hs);have ht2:0<T2.length:=List.length_pos_iff.2 (List.ne_nil_of_mem ht);obtain ⟨q,hq,rfl⟩:=List.mem_iff_getElem.1 ht;obtain ⟨r,hr,rfl⟩:=List.mem_iff_getElem.1 hs;have hp:=h3 (st-1) (by omega) (by omega);rw [show mid-1-(st-1)=T1.length+0 by omega,show st-1-A.length=S1.length-1 by omega,getD_r ht2,getD_l (X:=S1) (q:=S1.length-1) (by omega)] at hp;have e1:=zo9 (Srt.app.1 hT).2.1 (i:=0) (j:=q) (by omega) hq;have e2:=zo9 (Srt.app.1 hS).1 (i:=r) (j:=S1.length-1) (by omega) (by omega);simp only [Bool.not_eq_true',decide_eq_false_iff_not] at hp;omega
   refine ⟨zh (by omega) (by omega),fun h=>⟨zh (by omega) (by omega), ?_⟩,fun h=>?_⟩
   ·have hlt:mid<A.length+S.length:=by have:=dt0 h;omega
    have:=main (mid+(A.length+S.length)-(A.length+S.length+T.length)) mid (by omega) (by omega) (by omega) (.inl rfl) (Nat.le_refl _) (by omega) (by omega);rw [show ((mid+(A.length+S.length)-(A.length+S.length+T.length):Nat):Int)=(mid:Int)+((A.length+S.length:Nat):Int)-((A.length+S.length+T.length:Nat):Int) by omega] at this;exact this
   ·have hge:¬ mid<A.length+S.length:=by have:=df0 h;omega
    exact main A.length (A.length+S.length) (.inl rfl) (Nat.le_refl _) (by omega) (.inr rfl) (by omega) (Nat.le_refl _) (by omega)
def BS (key:Cl→Int) (n:Nat) (l:List Cl):Prop:=∀(i j:Nat) (hj:j<l.length) (hi:i≤j),i / n=j / n→key (l[i]'(by omega))≤key l[j]
theorem BS.of_srt {key:Cl→Int} {n:Nat} {l:List Cl} (h:Srt key l):BS key n l:=fun i j hj hi _=>zo9 h hi hj
theorem BS.srt {key:Cl→Int} {n:Nat} {l:List Cl} (h:BS key n l) (hl:l.length≤n):Srt key l:=by
 refine List.pairwise_iff_getElem.2 fun i j hi hj hij=>h i j hj (Nat.le_of_lt hij) ?_;rw [Nat.div_eq_of_lt (by omega),Nat.div_eq_of_lt (by omega)]
theorem BS.app {key:Cl→Int} {n q:Nat} {P Q:List Cl} (hn:0<n) (hP:P.length=q*n) (h1:BS key n P) (h2:BS key n Q):BS key n (P++Q):=fun i j hj hi he=>by
 by_cases hjp:j<P.length
 ·rw [List.getElem_append_left (by omega),List.getElem_append_left hjp];exact h1 i j hjp hi he
 ·have hq:q≤j / n:=by rw [Nat.le_div_iff_mul_le hn];omega
  have hip:P.length≤i:=by
   rcases Nat.lt_or_ge i P.length with h | h
   ·have:i / n<q:=by rw [Nat.div_lt_iff_lt_mul hn];omega
    omega
   ·exact h
  rw [List.getElem_append_right hip,List.getElem_append_right (by omega)];refine h2 (i-P.length) (j-P.length) (by simp at hj;omega) (by omega) ?_;have e1:i=(i-P.length)+q*n:=by omega
  have e2:j=(j-P.length)+q*n:=by omega
  rw [e1,e2,Nat.add_mul_div_right _ _ hn,Nat.add_mul_div_right _ _ hn] at he;omega
theorem BS.left {key:Cl→Int} {n:Nat} {P Q:List Cl} (h:BS key n (P++Q)):BS key n P:=fun i j hj hi he=>by
 have:=h i j (by simp;omega) hi he
 rwa [List.getElem_append_left (by omega),List.getElem_append_left hj] at this
theorem BS.right {key:Cl→Int} {n q:Nat} {P Q:List Cl} (hn:0<n) (hP:P.length=q*n) (h:BS key n (P++Q)):BS key n Q:=fun i j hj hi he=>by
 have:=h (P.length+i) (P.length+j) (by simp;omega) (by omega) (by rw [hP,Nat.add_comm,Nat.add_comm (q*n) j,Nat.add_mul_div_right _ _ hn,Nat.add_mul_div_right _ _ hn,he]);rw [List.getElem_append_right (by omega),List.getElem_append_right (by omega)] at this;simpa using this
theorem sym_in {key:Cl→Int} {cmp:Cl × Cl × Int→Prop} (hc:zrm key cmp) {A S T B:List Cl} {a m b:Int} (ha:a=(A.length:Int)) (hm:m=((A.length+S.length:Nat):Int)) (hb:b=((A.length+S.length+T.length:Nat):Int)) (hS:S≠[]) (hT:T≠[]) (h1:Srt key S) (h2:Srt key T)
  (hl:(A++S++T++B).length<4611686018427387904):za (A++S++T++B) a m b cmp (A++srt key (S++T)++B):=by
 subst ha;subst hm;subst hb;exact ⟨_,sym_n hc _ A S T B (Nat.le_refl _) hS hT h1 h2 hl⟩
section
variable {key : Cl → Int} {cmp : Cl × Cl × Int → Prop} {xs : List Cl} {r : List Cl}
theorem st_l2 (hc:zrm key cmp) (hn:xs.length<1152921504606846976) {bs:Nat} (hbs:0<bs) (hbn:bs<xs.length) {L1:List Cl→Int→Prop} (hL:∀Q,BS key (2*bs) Q→SEq key xs Q→L1 Q ((bs:Int)*2)):
  ∀(f:Nat) (P R:List Cl) (q:Nat),R.length≤f→P.length=q*(2*bs)→BS key (2*bs) P→BS key bs R→SEq key xs (P++R) →
   ∃k,zb.l2 (xs.length:Int) cmp (bs:Int) (zb.j2 L1 (xs.length:Int) cmp (bs:Int)) k (P++R) (P.length:Int) ((P.length:Int)+2*(bs:Int)):=by
 intro f
 induction f with
 | zero=>
  intro P R q hf hP h1 h2 h3;have:=List.eq_nil_of_length_eq_zero (show R.length=0 by omega);subst this;have hl:=h3.length;simp at hl;refine ⟨1,fun h=>absurd (dt0 h) (by omega),fun _=>⟨zh (by omega) (by omega),fun h=>absurd (dt0 h) (by omega),fun _=>⟨zh (by omega) (by omega), ?_⟩⟩⟩;rw [List.append_nil] at h3 ⊢;exact hL P h1 h3
 | succ f ih=>
  intro P R q hf hP h1 h2 h3;have hl:=h3.length;simp at hl
  by_cases hle:P.length+2*bs≤xs.length
  ·obtain ⟨S,R1,rfl,hS⟩:=zfp R (show bs≤R.length by omega);simp at hl;obtain ⟨T,R2,rfl,hT⟩:=zfp R1 (show bs≤R1.length by omega);simp at hl hf;have hSs:=h2.left.srt (by omega);have h2':=BS.right hbs (q:=1) (by omega) h2;have hTs:=h2'.left.srt (by omega);have h2'':=BS.right hbs (q:=1) (by omega) h2';have hP2:(P++srt key (S++T)).length=(q+1)*(2*bs):=by simp [zg3,hP,Nat.add_mul];omega
   obtain ⟨k,hk⟩:=ih (P++srt key (S++T)) R2 (q+1) (by omega) hP2 (BS.app (by omega) hP h1 (BS.of_srt (zif _ _))) h2'' (h3.trans (by
    have:=(SEq.refl key P).app ((zgj key (S++T)).app (SEq.refl key R2));simpa using this))
   refine ⟨k+1,fun _=>⟨zh (by omega) (by omega),P++srt key (S++T)++R2, ?_,zh (by omega) (by omega),zh (by omega) (by omega), ?_⟩,fun h=>absurd (by omega) (df0 h)⟩
   ·have:=sym_in hc (A:=P) (S:=S) (T:=T) (B:=R2) (a:=(P.length:Int)) (m:=(P.length:Int)+(bs:Int)) (b:=(P.length:Int)+2*(bs:Int)) rfl (by omega) (by omega) (by rintro rfl;simp at hS;omega) (by rintro rfl;simp at hT;omega) hSs hTs (by simp;omega);simpa using this
   ·have e:(((P++srt key (S++T)).length:Nat):Int)=(P.length:Int)+2*(bs:Int):=by simp [zg3];omega
    rw [e] at hk;exact hk
  ·by_cases hm:P.length+bs<xs.length
   ·obtain ⟨S,T,rfl,hS⟩:=zfp R (show bs≤R.length by omega);simp at hl;have hSs:=h2.left.srt (by omega);have hTs:=(BS.right hbs (q:=1) (by omega) h2).srt (by omega);refine ⟨1,fun h=>absurd (dt0 h) (by omega),fun _=>⟨zh (by omega) (by omega),fun _=>⟨P++srt key (S++T)++[], ?_,zh (by omega) (by omega), ?_⟩,fun h=>absurd (by omega) (df0 h)⟩⟩
    ·have:=sym_in hc (A:=P) (S:=S) (T:=T) (B:=[]) (a:=(P.length:Int)) (m:=(P.length:Int)+(bs:Int)) (b:=(xs.length:Int)) rfl (by omega) (by omega) (by rintro rfl;simp at hS;omega) (by rintro rfl;simp at hl;omega) hSs hTs (by simp;omega);simpa using this
    ·rw [List.append_nil];exact hL _ (BS.app (by omega) hP h1 (BS.of_srt (zif _ _))) (h3.trans (by
      have:=(SEq.refl key P).app (zgj key (S++T));simpa using this))
   ·refine ⟨1,fun h=>absurd (dt0 h) (by omega),fun _=>⟨zh (by omega) (by omega),fun h=>absurd (dt0 h) (by omega),fun _=>⟨zh (by omega) (by omega), ?_⟩⟩⟩;exact hL _ (BS.app (by omega) hP h1 (BS.of_srt (h2.srt (by omega)))) h3
theorem st_l1 (hc:zrm key cmp) (hn:xs.length<1152921504606846976):∀(f:Nat) (bs:Nat) (Q:List Cl),xs.length-bs≤f→0<bs→BS key bs Q→SEq key xs Q →
  zb.l1 (xs.length:Int) cmp (zb.j1 (srt key xs)) (f+1) Q (bs:Int):=by
 intro f
 induction f with
 | zero=>
  intro bs Q hf hbs h1 h2;have hl:=h2.length;exact ⟨fun h=>absurd (dt0 h) (by omega),fun _=>(zh7 (h1.srt (by omega)) h2).symm⟩
 | succ f ih=>
  intro bs Q hf hbs h1 h2;have hl:=h2.length
  by_cases hlt:bs<xs.length
  ·refine ⟨fun _=>⟨zh (by omega) (by omega), ?_⟩,fun h=>absurd (by omega) (df0 h)⟩;have:=st_l2 hc hn hbs hlt (L1:=zb.l1 (xs.length:Int) cmp (zb.j1 (srt key xs)) (f+1)) (fun Q' hb hs=>by
    have:=ih (2*bs) Q' (by omega) (by omega) hb hs
    rwa [show (((2*bs:Nat)):Int)=(bs:Int)*2 by omega] at this) Q.length [] Q 0 (Nat.le_refl _) (by simp) (fun i j hj=>by simp at hj) h1 (by simpa using h2)
   simpa using this
  ·exact ⟨fun h=>absurd (dt0 h) (by omega),fun _=>(zh7 (h1.srt (by omega)) h2).symm⟩
theorem st_l3 (hc:zrm key cmp) (hn:xs.length<1152921504606846976):∀(f:Nat) (P R:List Cl) (q:Nat),R.length≤f→P.length=q*20→BS key 20 P→SEq key xs (P++R) →
  ∃k,zb.l3 (xs.length:Int) cmp (zb.j3 (xs.length:Int) cmp (srt key xs)) k (P++R) (P.length:Int) ((P.length:Int)+20):=by
 intro f;have fin:∀(P R:List Cl) (q:Nat),P.length=q*20→BS key 20 P→SEq key xs (P++R)→R.length≤20→zb.j3 (xs.length:Int) cmp (srt key xs) (P++R) (P.length:Int):=by
  intro P R q hP h1 h3 hR;have hl:=h3.length;simp at hl;have:=ins_in hc (A:=P) (S:=R) (B:=[]) (a:=(P.length:Int)) (b:=(xs.length:Int)) rfl (by omega) (by simp;omega);refine ⟨P++srt key R,by simpa using this,_,st_l1 hc hn xs.length 20 _ (by omega) (by omega) (BS.app (by omega) hP h1 (BS.of_srt (zif _ _))) (h3.trans ((SEq.refl key P).app (zgj key R)))⟩
 induction f with
 | zero=>
  intro P R q hf hP h1 h3;have hl:=h3.length;simp at hl;exact ⟨1,fun h=>absurd (dt0 h) (by omega),fun _=>fin P R q hP h1 h3 (by omega)⟩
 | succ f ih=>
  intro P R q hf hP h1 h3;have hl:=h3.length;simp at hl
  by_cases hle:P.length+20≤xs.length
  ·obtain ⟨S,R1,rfl,hS⟩:=zfp R (show 20≤R.length by omega);simp at hl hf;have hP2:(P++srt key S).length=(q+1)*20:=by simp [zg3,hP,Nat.add_mul];omega
   obtain ⟨k,hk⟩:=ih (P++srt key S) R1 (q+1) (by omega) hP2 (BS.app (by omega) hP h1 (BS.of_srt (zif _ _))) (h3.trans (by
    have:=(SEq.refl key P).app ((zgj key S).app (SEq.refl key R1));simpa using this))
   refine ⟨k+1,fun _=>⟨P++srt key S++R1, ?_,zh (by omega) (by omega), ?_⟩,fun h=>absurd (by omega) (df0 h)⟩
   ·have:=ins_in hc (A:=P) (S:=S) (B:=R1) (a:=(P.length:Int)) (b:=(P.length:Int)+20) rfl (by omega) (by simp;omega);simpa using this
   ·have e:(((P++srt key S).length:Nat):Int)=(P.length:Int)+20:=by simp [zg3];omega
    rw [e] at hk;exact hk
  ·exact ⟨1,fun h=>absurd (dt0 h) (by omega),fun _=>fin P R q hP h1 h3 (by omega)⟩
theorem stable_in (hc:zrm key cmp) (hn:xs.length<1152921504606846976):zbh xs cmp (srt key xs):=by
 have:=st_l3 hc hn xs.length [] xs 0 (Nat.le_refl _) (by simp) (fun i j hj=>by simp at hj) (SEq.refl _ _);refine ⟨_, ?_,rfl⟩;unfold zb;simpa using this
end
end Go.Proofs.YtkbboemafklkkaaGreatDoor.V
namespace Go.Proofs.YtkbboemafklkkaaGreatDoor.V
open Go
set_option linter.unusedVariables false
theorem lk0_le (p:Cl):0≤lk0 p∧lk0 p≤255:=by
 unfold lk0
 by_cases h:0<p.count
 ·obtain ⟨n,h1,h2,_,_⟩:=zqu h;rw [h2];simp;omega
 ·have:p.least=(0,false):=zh1 fun m hm=>by
   cases hb:p.has m
   ·rfl
   ·exact absurd (count_pos hm hb) h
  rw [this];simp
theorem split_cmp:zrm lk0 (fun q_=>zem q_.1 q_.2.1 (fun q_=>zdy q_.1 q_.2) q_.2.2):=fun x y=>by
 have h1:=lk0_le x;have h2:=lk0_le y;exact ⟨lk0 x,⟨_,zhc,rfl⟩,lk0 y,⟨_,zhc,rfl⟩,zh (by omega) (by omega),rfl⟩
theorem flat_len2 (a:Cl) (l:List Cl):(l.flatMap (zg1 a)).length≤2*l.length:=by
 induction l with
 | nil=>simp
 | cons p l ih=>
  rw [List.flatMap_cons,List.length_append];have:(zg1 a p).length≤2:=by
   have:=List.length_filter_le (fun q:Cl=>decide (0<q.count)) [p &&& a,p &&& ~~~ a];simpa [zg1] using this
  rw [List.length_cons];omega
theorem zmz {ps:List Cl} {a:Cl} (hl:ps.length≤1073741823):zy ps a (zm0 ps a):=by
 refine zhe (P:=fun k (s:List Cl) v=>zy.l1 ps a _ k s v) ps.length (fun i s=>s=(ps.take i).flatMap (zg1 a)) ?_ ?_ _ (by simp)
 ·rintro i s hi rfl;refine .inr ⟨_,rfl,fun k h=>⟨fun _=>⟨ps[i],by rw [zbn];simp [hi],_,zku,_,zlz,_,zku, ?_⟩,fun h=>absurd (by omega) (df h)⟩⟩;have hb:=flat_len2 a (ps.take i);simp only [List.length_take] at hb;refine zhe (P:=fun k (s:List Cl) v=>zy.l2 _ _ _ k s v) 2 (fun j s=>s=(ps.take i).flatMap (zg1 a)++([ps[i] &&& a,ps[i] &&& ~~~ a].take j).filter fun q=>decide (0<q.count)) ?_ ?_ _ (by simp)
  ·rintro j s hj rfl;have hlen:(([ps[i] &&& a,ps[i] &&& ~~~ a].take j).filter fun q=>decide (0<q.count)).length≤1:=by
    have:=List.length_filter_le (fun q:Cl=>decide (0<q.count)) ([ps[i] &&& a,ps[i] &&& ~~~ a].take j);simp at this;omega
   refine .inr ⟨_,rfl,fun k h=>⟨fun _=>⟨[ps[i] &&& a,ps[i] &&& ~~~ a][j],by rw [zbn];simp [hj],_,zoz,fun hc=>?_,fun hc=>?_⟩,fun h=>absurd (by simp;omega) (df h)⟩⟩
   ·have hc:=dt hc;rw [List.take_succ_eq_append_getElem (by simpa using hj),List.filter_append,List.filter_cons_of_pos (by simp;omega),List.filter_nil,← List.append_assoc] at h;exact ⟨by simp only [List.length_append,List.length_cons,List.length_nil];omega,zh (by omega) (by omega),h⟩
   ·have hc:=df hc;rw [List.take_succ_eq_append_getElem (by simpa using hj),List.filter_append,List.filter_cons_of_neg (by simp;omega),List.filter_nil,List.append_nil] at h;exact ⟨zh (by omega) (by omega),h⟩
  ·rintro s rfl k2;refine ⟨fun h=>absurd (dt h) (by simp),fun _=>⟨zh (by omega) (by omega), ?_⟩⟩;rw [List.take_succ_eq_append_getElem hi,List.flatMap_append] at h;simpa [zg1] using h
 ·rintro s rfl k;refine ⟨fun h=>absurd (dt h) (by omega),fun _=>⟨_,stable_in split_cmp ?_, ?_⟩⟩
  ·have:=flat_len2 a (ps.take ps.length);simp only [List.length_take,Nat.min_self] at this;omega
  ·simp [zm0]
theorem zm1 (l:List Cl) (i:Nat):(zgv (l.take i)).length≤256:=by
 rw [splitP_eq];have:=heads_len (l.take i);simpa [parts] using this
theorem zon {l:List Cl} (hl:l.length≤1073741823):zb6 l (zgv l):=by
 refine ⟨_,zlz, ?_⟩;refine zhe (P:=fun k (s:List Cl) v=>zb6.l1 l _ k s v) l.length (fun i s=>s=zgv (l.take i)) ?_ ?_ _ (by simp [zgv])
 ·rintro i s hi rfl;have:=zm1 l i;refine .inr ⟨_,rfl,fun k h=>⟨fun _=>⟨l[i],by rw [zbn];simp [hi],_,zmz (by omega),zh (by omega) (by omega), ?_⟩,fun h=>absurd (by omega) (df h)⟩⟩;have e:zgv (l.take i++[l[i]])=zm0 (zgv (l.take i)) l[i]:=by unfold zgv;rw [List.foldl_append];rfl
  rw [List.take_succ_eq_append_getElem hi,e] at h;exact h
 ·rintro s rfl k;exact ⟨fun h=>absurd (dt h) (by omega),fun _=>by rw [List.take_length];rfl⟩
theorem zop {l:List Cl} (hl:l.length≤1073741823):zb7 l (zpa l):=by
 refine ⟨_,zon hl, ?_⟩;have hlen:=zm1 l l.length;rw [List.take_length] at hlen;refine zhe (P:=fun k (s:List Int) v=>zb7.l1 (zgv l) _ k s v) (zgv l).length (fun i s=>s=((zgv l).take i).map lk0) ?_ ?_ _ (by simp)
 ·rintro i s hi rfl;refine .inr ⟨_,rfl,fun k h=>⟨fun _=>⟨(zgv l)[i],by rw [zbn];simp [hi],_,zhc,by simp;omega,zh (by omega) (by omega), ?_⟩,fun h=>absurd (by omega) (df h)⟩⟩;rw [List.take_succ_eq_append_getElem hi,List.map_append] at h;exact h
 ·rintro s rfl k;exact ⟨fun h=>absurd (dt h) (by omega),fun _=>by rw [List.take_length];rfl⟩
theorem zeo {a b:List Int} (ha:a.length<9223372036854775807):zbr a b (decide (a=b)):=by
 refine ⟨fun h=>?_,fun h=>?_⟩
 ·simp at h;exact decide_eq_false fun e=>by subst e;omega
 ·have hl:a.length=b.length:=by simp at h;omega
  refine zhe (P:=fun k (_:Unit) v=>zbr.l1 a b (decide (a=b)) _ k v) a.length (fun i _=>∀j (hj:j<i) (h1:j<a.length),a[j]=b[j]'(by omega)) ?_ ?_ () (by intro j hj;omega)
  ·intro i s hi hs;have hat:at? a (i:Int)=some a[i]:=by rw [zbn];simp [hi]
   have hbt:at? b (i:Int)=some (b[i]'(by omega)):=by rw [zbn];simp [show i<b.length by omega]
   by_cases he:a[i]=b[i]'(by omega)
   ·refine .inr ⟨(),fun j hj h1=>?_,fun k h=>⟨fun _=>⟨_,hat,_,hbt,fun h=>by simp [he] at h,fun _=>⟨zh (by omega) (by omega),h⟩⟩,fun h=>absurd (by omega) (df h)⟩⟩
    by_cases hji:j=i
    ·subst hji;exact he
    ·exact hs j (by omega) h1
   ·exact .inl fun k=>⟨fun _=>⟨_,hat,_,hbt,fun _=>decide_eq_false fun e=>he (by subst e;rfl),fun h=>by simp at h;exact absurd h he⟩,fun h=>absurd (by omega) (df h)⟩
  ·intro s hs k;refine ⟨fun h=>absurd (dt h) (by omega),fun _=>?_⟩;show decide (a=b)=true;exact decide_eq_true (List.ext_getElem hl fun j h1 h2=>hs j h1 h1)
theorem zjp {α:Type} {xs:List α} {i:Nat} (h:i<xs.length):at? xs (i:Int)=some xs[i]:=by rw [zbn];exact List.getElem?_eq_getElem h
theorem zpj {α:Type} [DecidableEq α]:∀{a b:List α},a.Nodup→b.Nodup→(∀x,x∈a↔x∈b)→a.Perm b
 | [],b,_,_,h=>by
  cases b with
  | nil=>exact .refl _
  | cons y b=>exact absurd ((h y).2 (by simp)) (by simp)
 | x::a,b,ha,hb,h=>by
  rw [List.nodup_cons] at ha;have hx:=(h x).1 (by simp);refine (List.Perm.cons x (zpj ha.2 (hb.erase x) fun y=>?_)).trans (List.perm_cons_erase hx).symm;rw [hb.mem_erase_iff];constructor
  ·intro hy;exact ⟨fun e=>ha.1 (by rw [← e];exact hy),(h y).1 (by simp [hy])⟩
  ·rintro ⟨h1,h2⟩;exact (List.mem_cons.1 ((h y).2 h2)).resolve_left h1
theorem item_StartS {d:List SNode} (h:d≠[]) (hl:d.length≤1000):zjc d (stS d):=by
 have:=List.length_pos_iff.2 h;exact ⟨zh (by omega) (by omega),rfl⟩
theorem zj7 {d:List SNode} (h:d≠[]) (hl:d.length≤1000):zhh d [stS d]:=⟨_,item_StartS h hl,rfl⟩
def mS (L:List (List SItem)):List (Str × List SItem):=L.foldl (fun m t=>zfu m (keyS t) t) []
theorem mS_snoc (L:List (List SItem)) (t:List SItem):mS (L++[t])=zfu (mS L) (keyS t) t:=by unfold mS;rw [List.foldl_append];rfl
theorem mS_inv (L:List (List SItem)):((mS L).map (·.2)).Nodup∧∀p,p∈mS L↔p.2∈L∧p.1=keyS p.2:=by
 have:∀n (L:List (List SItem)),L.length=n→((mS L).map (·.2)).Nodup∧∀p,p∈mS L↔p.2∈L∧p.1=keyS p.2:=by
  intro n
  induction n with
  | zero=>intro L hL;rw [List.length_eq_zero_iff.1 hL];exact ⟨List.nodup_nil,by simp [mS]⟩
  | succ n ih=>
   intro L hL;have hne:L≠[]:=fun e=>by subst e;simp at hL
   rw [← List.dropLast_concat_getLast hne];obtain ⟨i1,i2⟩:=ih L.dropLast (by simp [hL]);generalize L.dropLast=A at *;generalize L.getLast hne=t at *;rw [mS_snoc];unfold zfu;cases hh:zhm (mS A) (keyS t)
   ·simp only [cond_false];have hno:t ∉ A:=fun h=>by
     have h1:=(i2 (keyS t,t)).2 ⟨h,rfl⟩;have:zhm (mS A) (keyS t)=true:=by
      unfold zhm;rw [List.any_eq_true];exact ⟨_,h1,by simp⟩
     rw [hh] at this;cases this
    refine ⟨?_,fun p=>?_⟩
    ·rw [List.map_append,List.nodup_append];refine ⟨i1,by simp,fun a ha b hb e=>?_⟩;simp at hb;subst hb;subst e;obtain ⟨p,hp,rfl⟩:=List.mem_map.1 ha;exact hno ((i2 p).1 hp).1
    ·rw [List.mem_append,i2,List.mem_singleton,List.mem_append,List.mem_singleton];constructor
     ·rintro (⟨h1,h2⟩ | rfl)
      ·exact ⟨.inl h1,h2⟩
      ·exact ⟨.inr rfl,rfl⟩
     ·rintro ⟨h1 | h1,h2⟩
      ·exact .inl ⟨h1,h2⟩
      ·exact .inr (Prod.ext (by rw [h2,h1]) h1)
   ·have hh':=hh;unfold zhm at hh';rw [List.any_eq_true] at hh';obtain ⟨q,hq1,hq2⟩:=hh';have hqk:q.1=keyS t:=by simpa using hq2
    have hq3:=(i2 q).1 hq1;have hqt:q.2=t:=zf8.1 (by rw [← hq3.2,hqk]);have hta:t∈A:=by rw [← hqt];exact hq3.1
    simp only [cond_true];have hmap:∀f:Str × List SItem→Str × List SItem,(∀p∈mS A,f p=p)→(mS A).map f=mS A:=fun f hf=>by
     conv=>rhs;rw [← List.map_id (mS A)]
     exact List.map_congr_left hf
    rw [hmap _ fun p hp=>?_]
    rotate_left
    ·by_cases hpk:p.1=keyS t
     ·have hp3:=(i2 p).1 hp;have:p.2=t:=zf8.1 (by rw [← hp3.2,hpk]);have e:p=(keyS t,t):=Prod.ext hpk this;rw [e];simp
     ·exact (congrArg (fun b=>bif b then (keyS t,t) else p) (decide_eq_false hpk)).trans rfl
    refine ⟨i1,fun p=>?_⟩;rw [i2,List.mem_append,List.mem_singleton];constructor
    ·rintro ⟨h1,h2⟩;exact ⟨.inl h1,h2⟩
    ·rintro ⟨h1 | h1,h2⟩
     ·exact ⟨h1,h2⟩
     ·exact ⟨by rw [h1];exact hta,h2⟩
 exact this _ L rfl
structure Room (d:List SNode) (c:Int) (l:List (List SItem)):Prop where
 sm:∀s∈l,Sm d s
 len:l.length≤2000000000
 cov:∃K:List (List SItem),K.length≤2000000000∧∀s∈l,∀t∈zd1 d c s,t∈K
theorem zo8 {d:List SNode} {s:List SItem} (h:Sm d s) {c:Int} (hc:InR .u8 c) {t:List SItem} (ht:t∈zd1 d c s):t.length≤1000:=by
 have:=(step_ok h.rt.toROk h.form hc t ht).2;have:=h.slen;have:=h.len;omega
theorem zpd {d:List SNode} {l:List (List SItem)} {c:Int} (hr:Room d c l) (hc:InR .u8 c):zb8 d l c (onS d c l):=by
 have hll:=hr.len;obtain ⟨K,k1,k2⟩:=hr.cov;refine uptoK (P:=fun k m v=>zb8.l1 d l c _ k m v) l.length (fun i m=>m=mS ((l.take i).flatMap fun s=>zj8 (zd1 d c s))) ?_ ?_ _ (by simp [mS])
 ·rintro i m k hi rfl hk;have hsm:=hr.sm _ (List.getElem_mem hi);obtain ⟨o,o1,_,o3⟩:=on_step hsm hc;have ho:o.map (·.1)=zj8 (zd1 d c l[i]):=can_set o3 fun t=>by rw [← List.count_pos_iff];omega
  have hol:o.length≤2000000000:=by
   have:=zm8 (A:=zd1 d c l[i]) (K:=K) fun t ht=>k2 _ (List.getElem_mem hi) t ht;rw [← ho,List.length_map] at this;omega
  refine ⟨fun _=>⟨_,zjp hi,o,o1, ?_⟩,fun h=>absurd (by omega) (df h)⟩;refine uptoK (P:=fun k m v=>zb8.l2 o _ k m v) o.length (fun j m=>m=mS (((l.take i).flatMap fun s=>zj8 (zd1 d c s))++(o.map (·.1)).take j)) ?_ ?_ _ (by simp)
  ·rintro j m k' hj rfl hk';have hmem:o[j].1∈zd1 d c l[i]:=zd5.1 (by rw [← ho];exact List.mem_map.2 ⟨_,List.getElem_mem hj,rfl⟩);have hlen:=zo8 hsm hc hmem;refine ⟨fun _=>⟨_,zjp hj,_,znu hlen,zh (by omega) (by omega),hk' _ ?_⟩,fun h=>absurd (by omega) (df h)⟩;rw [List.take_succ_eq_append_getElem (by simpa using hj),← List.append_assoc,mS_snoc];simp
  ·rintro m rfl k';refine ⟨fun h=>absurd (dt h) (by omega),fun _=>⟨zh (by omega) (by omega),hk _ ?_⟩⟩;rw [List.take_of_length_le (l:=o.map (·.1)) (by simp),List.take_succ_eq_append_getElem hi,List.flatMap_append,ho];simp
 ·rintro m rfl k;refine ⟨fun h=>absurd (dt h) (by omega),fun _=>?_⟩;rw [List.take_length];obtain ⟨i1,i2⟩:=mS_inv (l.flatMap fun s=>zj8 (zd1 d c s));have hmm:∀t,t∈(mS (l.flatMap fun s=>zj8 (zd1 d c s))).map (·.2)↔t∈onS d c l:=fun t=>by
   rw [znj,List.mem_map];constructor
   ·rintro ⟨p,hp,rfl⟩;obtain ⟨s,h1,h2⟩:=List.mem_flatMap.1 ((i2 p).1 hp).1;exact ⟨s,h1,zd5.1 h2⟩
   ·rintro ⟨s,h1,h2⟩;exact ⟨(keyS t,t),(i2 _).2 ⟨List.mem_flatMap.2 ⟨s,h1,zd5.2 h2⟩,rfl⟩,rfl⟩
  refine ⟨fun b hb=>?_, ?_,zpj (rs_nodup (zfs _)) i1 fun t=>(hmm t).symm,zfs _⟩
  ·obtain ⟨s,h1,h2⟩:=znj.1 ((hmm b).1 hb);exact zo8 (hr.sm s h1) hc h2
  ·have:=zju (U:=K) i1 fun t ht=>by
    obtain ⟨s,h1,h2⟩:=znj.1 ((hmm t).1 ht);exact k2 s h1 t h2
   omega
theorem idxS_in {s:List (List SItem)} {f:List SItem × Bool→Prop} {g:List SItem→Bool} (hf:∀x∈s,f (x,g x)) (hl:s.length≤140737488351232):zbk s f (s.any g):=by
 have key:∃i:Int,zk s f i∧(decide (0≤i))=s.any g:=by
  cases hc:s.any g
  ·refine ⟨-1, ?_,by decide⟩;rw [List.any_eq_false] at hc;refine zhe (P:=fun k (_:Unit) v=>zk.l1 s f (-1) _ k v) s.length (fun _ _=>True) ?_ ?_ () trivial
   ·intro j _ hj _;exact .inr ⟨(),trivial,fun k hk=>⟨fun _=>⟨_,zjp hj,_,hf _ (List.getElem_mem hj),fun h=>absurd h (hc _ (List.getElem_mem hj)),fun _=>⟨zh (by omega) (by omega),hk⟩⟩,fun h=>absurd (by omega) (df h)⟩⟩
   ·intro _ _ k;exact ⟨fun h=>absurd (dt h) (by omega),fun _=>rfl⟩
  ·rw [List.any_eq_true] at hc;obtain ⟨x,hx,hgx⟩:=hc;have hex:∃i,∃(h:i<s.length),g s[i]=true:=by
    obtain ⟨i,hi,rfl⟩:=List.mem_iff_getElem.1 hx;exact ⟨i,hi,hgx⟩
   obtain ⟨i,⟨hi,hi2⟩,hmin⟩:=exists_least hex;refine ⟨(i:Int), ?_,by simp⟩;refine zhe (P:=fun k (_:Unit) v=>zk.l1 s f (i:Int) _ k v) (i+1) (fun j _=>j≤i) ?_ ?_ () (by omega)
   ·intro j _ hj hle;have hat:=zjp (show j<s.length by omega);have hfj:=hf _ (List.getElem_mem (show j<s.length by omega))
    by_cases hji:j=i
    ·subst hji;rw [hi2] at hfj;exact .inl fun k=>⟨fun _=>⟨_,hat,true,hfj,fun _=>rfl,(fun h=>by cases h)⟩,fun h=>absurd (by omega) (df h)⟩
    ·have hno:g (s[j]'(by omega))=false:=by
      cases hg:g (s[j]'(by omega))
      ·rfl
      ·have:=hmin j ⟨by omega,hg⟩;omega
     rw [hno] at hfj;exact .inr ⟨(),by omega,fun k hk=>⟨fun _=>⟨_,hat,false,hfj,(fun h=>by cases h),fun _=>⟨zh (by omega) (by omega),hk⟩⟩,fun h=>absurd (by omega) (df h)⟩⟩
   ·intro _ h k;omega
 obtain ⟨i,h1,h2⟩:=key;exact ⟨i,h1,h2.symm⟩
theorem sat_pos (n:Nat):decide (0<sat n)=decide (n≠0):=by
 by_cases h:n=0
 ·subst h;simp [sat]
 ·rw [decide_eq_true (by unfold sat;omega),decide_eq_true h]
theorem zii {d:List SNode} {l:List (List SItem)} (hl:∀s∈l,Sm d s) (hn:l.length≤2000000000):zgi d l (zhu d l):=by
 refine ⟨_,idxS_in (g:=fun s=>decide ((hds d s).count []≠0)) (fun s hs=>⟨_,(ends_both (hl s hs)).1, ?_⟩) (by omega),rfl⟩;exact (sat_pos _).symm
theorem zm7 {d:List SNode} {l:List (List SItem)} (hl:∀s∈l,Sm d s) (hn:l.length≤2000000000) (hc:(zmm d l).length*32≤140737488355328):zbw d l (zmm d l):=by
 refine zhe (P:=fun k out v=>zbw.l1 d l _ k out v) l.length (fun i out=>out=zmm d (l.take i)) ?_ ?_ _ (by simp [zmm])
 ·rintro i out hi rfl;have e:zmm d (l.take (i+1))=zmm d (l.take i)++clsA d l[i]:=by
   unfold zmm;rw [List.take_succ_eq_append_getElem hi,List.flatMap_append];simp
  refine .inr ⟨_,rfl,fun k hk=>⟨fun _=>⟨_,zjp hi,_,(clsA_in (hl _ (List.getElem_mem hi))).1, ?_,zh (by omega) (by omega),by rw [← e];exact hk⟩,fun h=>absurd (by omega) (df h)⟩⟩;have h2:zmm d l=zmm d (l.take (i+1))++zmm d (l.drop (i+1)):=by unfold zmm;rw [← List.flatMap_append,List.take_append_drop]
  have h3:=congrArg List.length h2;rw [e,List.length_append,List.length_append] at h3;omega
 ·rintro out rfl k;refine ⟨fun h=>absurd (dt h) (by omega),fun _=>?_⟩;show zmm d l=_;rw [List.take_length]
theorem sets_Once_in {l:List Cl} (hn:l.length≤140737488351232) (ho:(zf3 l).length≤2147483647):zcw l (zf3 l):=by
 have hpre:∀i,(zf3 (l.take i)).length≤(zf3 l).length:=fun i=>by
  refine zju (zni _) fun x hx=>(zhk l).2 (List.mem_of_mem_take ((zhk _).1 hx))
 refine zhe (P:=fun k (s:List (Cl × Bool) × List Cl) v=>zcw.l1 l _ k s.1 s.2 v) l.length (fun i s=>s.2=zf3 (l.take i)∧∀x,zd6 s.1 x false=decide (x∈l.take i)) ?_ ?_ ([],[]) ⟨by simp [zf3],fun x=>by simp [zd6]⟩
 ·rintro i ⟨met,out⟩ hi ⟨h1,h2⟩;simp only at h1 h2;subst h1;have htk:l.take (i+1)=l.take i++[l[i]]:=List.take_succ_eq_append_getElem hi;have hnext:∀x,zd6 (zfu met l[i] true) x false=decide (x∈l.take (i+1)):=fun x=>by
   rw [znp,h2,htk]
   by_cases hx:l[i]=x
   ·rw [if_pos hx];exact (decide_eq_true (List.mem_append.2 (.inr (by rw [← hx];exact List.mem_singleton.2 rfl)))).symm
   ·rw [if_neg hx];exact decide_eq_decide.2 ⟨fun h=>List.mem_append.2 (.inl h),fun h=>(List.mem_append.1 h).resolve_right fun e=>hx (List.mem_singleton.1 e).symm⟩
  have hp1:=hpre (i+1)
  by_cases hm:l[i]∈l.take i
  ·refine .inr ⟨(zfu met l[i] true,zf3 (l.take i)),⟨?_,hnext⟩,fun k hk=>⟨fun _=>⟨_,zjp hi,fun h=>?_,fun _=>⟨zh (by omega) (by omega),hk⟩⟩,fun h=>absurd (by omega) (df h)⟩⟩
   ·rw [htk,zi8,if_pos ((zhk _).2 hm)]
   ·rw [h2,decide_eq_true hm] at h;cases h
  ·have e:zf3 (l.take (i+1))=zf3 (l.take i)++[l[i]]:=by rw [htk,zi8,if_neg fun h=>hm ((zhk _).1 h)]
   refine .inr ⟨(zfu met l[i] true,zf3 (l.take i)++[l[i]]),⟨e.symm,hnext⟩,fun k hk=>⟨fun _=>⟨_,zjp hi,fun _=>⟨?_,zh (by omega) (by omega),hk⟩,fun h=>?_⟩,fun h=>absurd (by omega) (df h)⟩⟩
   ·rw [e] at hp1;simp only [List.length_append,List.length_cons,List.length_nil] at hp1 ⊢;omega
   ·rw [h2,decide_eq_false hm] at h;cases h
 ·rintro ⟨met,out⟩ ⟨h1,h2⟩ k;simp only at h1;subst h1;refine ⟨fun h=>absurd (dt h) (by omega),fun _=>?_⟩;show zf3 l=_;rw [List.take_length]
theorem room_after {d:List SNode} (h:Rt d) (hl:d.length≤24) (ht:Txt d) {w:List Int} (hw:∀c∈w,InR .u8 c) {c:Int} (hc:InR .u8 c) (hp:pas d.length (w.length+1)≤2000000000):Room d c (zfg d w):=by
 refine ⟨fun s hs=>(zlo h hl ht hw hs).1, ?_, ?_⟩
 ·have:=zri h hw;have:=pas_more d.length w.length;omega
 ·have hw2:∀b∈w++[c],InR .u8 b:=fun b hb=>(List.mem_append.1 hb).elim (hw b) fun e=>by rw [List.mem_singleton.1 e];exact hc
  obtain ⟨K,k1,k2⟩:=after_cov h fun b hb=>(zex.1 (hw2 b hb)).1;rw [List.length_append,List.length_singleton] at k1;refine ⟨K,by omega,fun s hs t hts=>k2 t ?_⟩;show t∈zcy d (w++[c]) (stS d);rw [← zky,zf0,znj];exact ⟨s,hs,hts⟩
theorem pas_le2 {m k m' k':Nat} (h1:m≤m') (h2:k≤k') {n:Nat} (h:pas m' k'≤n):pas m k≤n:=Nat.le_trans (Nat.le_trans (pas_mono h1 k) (pas_long m' h2)) h
theorem itoa_no47 (n:Int):∀c∈Lib.itoa n,c≠47:=by
 intro c hc he;subst he;unfold Lib.itoa at hc;split at hc
 ·rcases List.mem_cons.1 hc with h | h
  ·exact absurd h (by decide)
  ·have:=(zpp _ _ h).1;exact absurd this (by decide)
 ·have:=(zpp _ _ hc).1;exact absurd this (by decide)
theorem keyN_no47 (l:List Int):∀c∈zjv l,c≠47:=by
 induction l with
 | nil=>intro c hc;simp [zjv] at hc
 | cons z l ih=>
  intro c hc;rw [zhp,List.mem_append,List.mem_cons] at hc;rcases hc with h | rfl | h
  ·exact itoa_no47 z c h
  ·decide
  ·exact ih c h
theorem cut47 {a b:List UInt8} (ha:∀c∈a,c≠47) (hb:∀c∈b,c≠47) {u v:List UInt8} (h:a++47::u=b++47::v):a=b∧u=v:=by
 induction a generalizing b with
 | nil=>
  cases b with
  | nil=>exact ⟨rfl,(List.cons.inj h).2⟩
  | cons y b=>exact absurd (List.cons.inj h).1.symm (hb y (by simp))
 | cons x a ih=>
  cases b with
  | nil=>exact absurd (List.cons.inj h).1 (ha x (by simp))
  | cons y b=>
   obtain ⟨h1,h2⟩:=List.cons.inj h;obtain ⟨h3,h4⟩:=ih (fun c hc=>ha c (by simp [hc])) (fun c hc=>hb c (by simp [hc])) h2;exact ⟨by rw [h1,h3],h4⟩
theorem zir (s:List SItem) (l:List (List SItem)):zk2 (s::l)=keyS s++47::zk2 l:=by simp [zk2]
theorem keyL_inj {l m:List (List SItem)} (h:zk2 l=zk2 m):l=m:=by
 induction l generalizing m with
 | nil=>
  cases m with
  | nil=>rfl
  | cons y m=>rw [zir] at h;simp [zk2] at h
 | cons z l ih=>
  cases m with
  | nil=>rw [zir] at h;simp [zk2] at h
  | cons y m=>
   rw [zir,zir] at h;obtain ⟨h1,h2⟩:=cut47 (keyN_no47 _) (keyN_no47 _) h;rw [zf8.1 h1,ih h2]
theorem sets_Key_in {l:List (List SItem)} (h1:l.length≤1000000000) (h2:∀s∈l,s.length≤1000):zme l (zk2 l):=⟨h1,h2,rfl⟩
theorem Sm.short {d:List SNode} {s:List SItem} (h:Sm d s):s.length≤1000:=by have:=h.slen;omega
theorem ends_ways (d:List SNode) (w:List Int):zhu d (zfg d w)=decide (0<sat (zb1 d ((d.length:Int)-1) w)):=by
 rw [sat_pos,Bool.eq_iff_iff,endS_word,decide_eq_true_iff]
structure Sch (T:Type) where
 start:T
 ways:T→List (Int × T)
 hit:T→Bool
abbrev Qb (T:Type):=T × Int × Int × List Int
section
variable {T : Type} [DecidableEq T]
def hasQ (acc:List (Qb T)) (x:T):Bool:=acc.any fun q=>decide (q.1=x)
def stB (i:Nat) (w:List Int) (acc:List (Qb T)) (e:Int × T):List (Qb T):=if hasQ acc e.2=true then acc else acc++[(e.2,(i:Int),e.1,w++[e.1])]
def rdB (S:Sch T) (i:Nat) (q:Qb T) (acc:List (Qb T)):List (Qb T):=(S.ways q.1).foldl (stB i q.2.2.2) acc
def zdj (S:Sch T):Nat→List (Qb T)
 | 0=>[(S.start, -1,0,[])]
 | i+1=>match (zdj S i)[i]? with
  | some q=>rdB S i q (zdj S i)
  | none=>zdj S i
theorem hasQ_iff {acc:List (Qb T)} {x:T}:hasQ acc x=true↔∃q∈acc,q.1=x:=by simp [hasQ]
theorem hasQ_app {acc:List (Qb T)} {q:Qb T} {x:T}:hasQ (acc++[q]) x=(hasQ acc x||decide (q.1=x)):=by simp [hasQ]
theorem zef {α:Type} {a b:List α} (h:a <+: b) {j:Nat} {q:α} (hq:a[j]?=some q):b[j]?=some q:=by
 obtain ⟨r,rfl⟩:=h;rw [List.getElem?_append_left (List.getElem?_eq_some_iff.1 hq).1];exact hq
theorem stB_pre (i:Nat) (w:List Int) (acc:List (Qb T)) (e:Int × T):acc <+: stB i w acc e:=by
 unfold stB;split
 ·exact List.prefix_refl _
 ·exact List.prefix_append _ _
theorem zny (i:Nat) (w:List Int) (es:List (Int × T)):∀acc:List (Qb T),acc <+: es.foldl (stB i w) acc:=by
 induction es with
 | nil=>intro acc;exact List.prefix_refl _
 | cons e es ih=>intro acc;exact (stB_pre i w acc e).trans (ih _)
theorem zhs {S:Sch T} {i:Nat} {q:Qb T} (h:(zdj S i)[i]?=some q):zdj S (i+1)=rdB S i q (zdj S i):=by
 show (match (zdj S i)[i]? with | some q=>rdB S i q (zdj S i) | none=>zdj S i)=_;rw [h]
theorem zk0 {S:Sch T} {i:Nat} (h:(zdj S i)[i]?=none):zdj S (i+1)=zdj S i:=by
 show (match (zdj S i)[i]? with | some q=>rdB S i q (zdj S i) | none=>zdj S i)=_;rw [h]
theorem zgq (S:Sch T) (i:Nat):zdj S i <+: zdj S (i+1):=by
 cases h:(zdj S i)[i]? with
 | none=>rw [zk0 h];exact List.prefix_refl _
 | some q=>rw [zhs h];exact zny _ _ _ _
theorem zmq (S:Sch T) {i j:Nat} (h:i≤j):zdj S i <+: zdj S j:=by
 obtain ⟨d,rfl⟩:∃d,j=i+d:=⟨j-i,by omega⟩;clear h
 induction d with
 | zero=>exact List.prefix_refl _
 | succ d ih=>exact ih.trans (zgq S (i+d))
theorem accB_stop {S:Sch T} {i:Nat} (h:(zdj S i)[i]?=none):∀d,zdj S (i+d)=zdj S i
 | 0=>rfl
 | d+1=>by
  have ih:=accB_stop h d;have:(zdj S (i+d))[i+d]?=none:=by
   rw [ih];rw [List.getElem?_eq_none_iff] at h ⊢;omega
  rw [← Nat.add_assoc,zk0 this,ih]
structure GoodB (S:Sch T) (acc:List (Qb T)):Prop where
 nd:(acc.map (·.1)).Nodup
 par:∀j q,acc[j]?=some q→(j=0∧q=(S.start, -1,0,[]))∨∃p q',q.2.1=((p:Nat):Int)∧p<j∧acc[p]?=some q'∧q.2.2.2=q'.2.2.2++[q.2.2.1]∧(q.2.2.1,q.1)∈S.ways q'.1
theorem stB_good {S:Sch T} {i:Nat} {q0:Qb T} {acc:List (Qb T)} {e:Int × T} (h:GoodB S acc) (hi:acc[i]?=some q0) (he:e∈S.ways q0.1):GoodB S (stB i q0.2.2.2 acc e):=by
 unfold stB;split
 ·exact h
 ·rename_i hno
  have hni:e.2 ∉ acc.map (·.1):=fun hm=>by
   obtain ⟨q,hq,he⟩:=List.mem_map.1 hm;exact hno (hasQ_iff.2 ⟨q,hq,he⟩)
  have hil:i<acc.length:=(List.getElem?_eq_some_iff.1 hi).1;refine ⟨?_, ?_⟩
  ·rw [List.map_append,List.nodup_append];exact ⟨h.nd,by simp,fun a ha b hb e=>by simp at hb;subst hb;subst e;exact hni ha⟩
  ·intro j q hj
   by_cases hjl:j<acc.length
   ·rw [List.getElem?_append_left hjl] at hj;rcases h.par j q hj with h1 | ⟨p,q',h1,h2,h3,h4⟩
    ·exact .inl h1
    ·exact .inr ⟨p,q',h1,h2,zef (List.prefix_append _ _) h3,h4⟩
   ·have hjl':=(List.getElem?_eq_some_iff.1 hj).1;simp at hjl';have:j=acc.length:=by omega
    subst this;rw [List.getElem?_append_right (Nat.le_refl _)] at hj;simp at hj;subst hj;exact .inr ⟨i,q0,rfl,hil,zef (List.prefix_append _ _) hi,rfl,he⟩
theorem foldB_good {S:Sch T} {i:Nat} {q0:Qb T} {es:List (Int × T)} (hes:∀e∈es,e∈S.ways q0.1):∀acc:List (Qb T),GoodB S acc→acc[i]?=some q0→GoodB S (es.foldl (stB i q0.2.2.2) acc):=by
 induction es with
 | nil=>intro acc h _;exact h
 | cons e es ih=>
  intro acc h hi;exact ih (fun e he=>hes e (by simp [he])) _ (stB_good h hi (hes e (by simp))) (zef (stB_pre _ _ _ _) hi)
theorem ziy (S:Sch T):∀i,GoodB S (zdj S i)
 | 0=>⟨by simp [zdj],fun j q hj=>by
   cases j with
   | zero=>simp [zdj] at hj;subst hj;exact .inl ⟨rfl,rfl⟩
   | succ j=>simp [zdj] at hj⟩
 | i+1=>by
  have ih:=ziy S i;cases hi:(zdj S i)[i]? with
  | none=>rw [zk0 hi];exact ih
  | some q=>rw [zhs hi];exact foldB_good (fun e he=>he) _ ih hi
omit [DecidableEq T] in
theorem GoodB.wlen {S:Sch T} {acc:List (Qb T)} (h:GoodB S acc):∀(j:Nat) (q:Qb T),acc[j]?=some q→q.2.2.2.length≤j:=by
 intro j
 induction j using Nat.strongRecOn with
 | ind j ih=>
  intro q hq
  rcases h.par j q hq with ⟨_,rfl⟩ | ⟨p,q',_,h2,h3,h4,_⟩
  ·simp
  ·have:=ih p h2 q' h3
   rw [h4];simp;omega
theorem stB_len (i:Nat) (w:List Int) (acc:List (Qb T)) (e:Int × T):(stB i w acc e).length≤acc.length+1:=by
 unfold stB;split <;> simp
theorem znz (i:Nat) (w:List Int):∀(es:List (Int × T)) (acc:List (Qb T)),(es.foldl (stB i w) acc).length≤acc.length+es.length
 | [],acc=>Nat.le_refl _
 | e::es,acc=>by
  have h1:=znz i w es (stB i w acc e);have h2:=stB_len i w acc e;rw [List.foldl_cons,List.length_cons];omega
def verdB (S:Sch T) (b:Int):Nat→Nat→Int × List Int × Int × Option T
 | 0,i=>(1,[],((zdj S i).length:Int),none)
 | f+1,i=>match (zdj S i)[i]? with
  | none=>(1,[],((zdj S i).length:Int),none)
  | some q=>if b≤(i:Int) then (3,[],max b 0,none) else if S.hit q.1=true then (2,q.2.2.2,(i:Int)+1,some q.1) else verdB S b f (i+1)
def zgr (S:Sch T) (b:Int):Int × List Int × Int × Option T:=verdB S b (b.toNat+1) 0
inductive OutB (S:Sch T) (b:Int):Int × List Int × Int × Option T→Prop
 | yes (i:Nat) (hb:(i:Int)≤b∨i=0∧b≤0) (h:(zdj S i)[i]?=none) (hno:∀j q,j<i→(zdj S i)[j]?=some q→S.hit q.1=false):OutB S b (1,[],((zdj S i).length:Int),none)
 | no (i:Nat) (q:Qb T) (hb:(i:Int)<b) (h:(zdj S i)[i]?=some q) (hh:S.hit q.1=true) (hno:∀j q,j<i→(zdj S i)[j]?=some q→S.hit q.1=false):OutB S b (2,q.2.2.2,(i:Int)+1,some q.1)
 | limit (hl:∃q,(zdj S b.toNat)[b.toNat]?=some q) (hno:∀j q,j<b.toNat→(zdj S b.toNat)[j]?=some q→S.hit q.1=false):OutB S b (3,[],max b 0,none)
theorem verdB_out (S:Sch T) (b:Int):∀(f i:Nat),f+i=b.toNat+1→i≤b.toNat→(∀j q,j<i→(zdj S i)[j]?=some q→S.hit q.1=false)→OutB S b (verdB S b f i)
 | 0,i,h1,h2,_=>by omega
 | f+1,i,h1,h2,hno=>by
  unfold verdB;cases hq:(zdj S i)[i]? with
  | none=>exact .yes i (by omega) hq hno
  | some q=>
   simp only
   by_cases hb:b≤(i:Int)
   ·rw [if_pos hb];have:i=b.toNat:=by omega
    subst this;exact .limit ⟨q,hq⟩ hno
   ·rw [if_neg hb]
    by_cases hh:S.hit q.1=true
    ·rw [if_pos hh];exact .no i q (by omega) hq hh hno
    ·rw [if_neg hh];refine verdB_out S b f (i+1) (by omega) (by omega) fun j q' hj hq'=>?_
     by_cases hji:j=i
     ·subst hji;rw [zef (zgq S j) hq] at hq';cases hq';simpa using hh
     ·have hlt:i<(zdj S i).length:=(List.getElem?_eq_some_iff.1 hq).1;obtain ⟨x,hx⟩:∃x,(zdj S i)[j]?=some x:=⟨_,List.getElem?_eq_getElem (show j<(zdj S i).length by omega)⟩;rw [zef (zgq S i) hx] at hq';cases hq';exact hno j _ (by omega) hx
theorem srchB_out (S:Sch T) (b:Int):OutB S b (zgr S b):=verdB_out S b _ 0 (by omega) (by omega) fun j q h=>by omega
theorem accB_at {S:Sch T} {i j:Nat} (hij:i≤j):(zdj S j)[i]?=(zdj S i)[i]?:=by
 cases h:(zdj S i)[i]? with
 | some q=>exact zef (zmq S hij) h
 | none=>
  have:=accB_stop h (j-i);rw [show i+(j-i)=j by omega] at this;rw [this,h]
inductive Rn (step:T→Int→T→Prop) (s0:T):List Int→T→Prop
 | nil:Rn step s0 [] s0
 | snoc {w:List Int} {x:T} {c:Int} {y:T} (h:Rn step s0 w x) (hs:step x c y):Rn step s0 (w++[c]) y
theorem accB_rn {S:Sch T} {step:T→Int→T→Prop} (hs:∀x c y,(c,y)∈S.ways x→step x c y) (i:Nat):∀(j:Nat) (q:Qb T),(zdj S i)[j]?=some q→Rn step S.start q.2.2.2 q.1:=by
 intro j
 induction j using Nat.strongRecOn with
 | ind j ih=>
  intro q hq;rcases (ziy S i).par j q hq with ⟨_,rfl⟩ | ⟨p,q',_,h2,h3,h4,h5⟩
  ·exact .nil
  ·rw [h4];exact .snoc (ih p h2 q' h3) (hs _ _ _ h5)
theorem stB_mem {i:Nat} {w:List Int} {acc:List (Qb T)} {e:Int × T}:∀q∈stB i w acc e,q∈acc∨q=(e.2,(i:Int),e.1,w++[e.1]):=fun q hq=>by
 unfold stB at hq;split at hq
 ·exact .inl hq
 ·exact (List.mem_append.1 hq).imp id fun h=>List.mem_singleton.1 h
theorem foldB_mem {i:Nat} {w:List Int}:∀(es:List (Int × T)) (acc:List (Qb T)),∀q∈es.foldl (stB i w) acc,q∈acc∨∃e∈es,q=(e.2,(i:Int),e.1,w++[e.1])
 | [],acc,q,hq=>.inl hq
 | e::es,acc,q,hq=>by
  rcases foldB_mem es _ q hq with h | ⟨e',h1,h2⟩
  ·rcases stB_mem q h with h | h
   ·exact .inl h
   ·exact .inr ⟨e,by simp,h⟩
  ·exact .inr ⟨e',by simp [h1],h2⟩
theorem zkz (S:Sch T):∀(i:Nat),∀q∈zdj S i,q=(S.start, -1,0,[])∨∃(p:Nat) (q':Qb T),p<i∧(zdj S i)[p]?=some q'∧q.2.2.2=q'.2.2.2++[q.2.2.1]∧(q.2.2.1,q.1)∈S.ways q'.1
 | 0,q,hq=>.inl (by simpa [zdj] using hq)
 | i+1,q,hq=>by
  have lift:(q=(S.start, -1,0,[])∨∃(p:Nat) (q':Qb T),p<i∧(zdj S i)[p]?=some q'∧q.2.2.2=q'.2.2.2++[q.2.2.1]∧(q.2.2.1,q.1)∈S.ways q'.1)→(q=(S.start, -1,0,[])∨∃(p:Nat) (q':Qb T),p<i+1∧(zdj S (i+1))[p]?=some q'∧q.2.2.2=q'.2.2.2++[q.2.2.1]∧(q.2.2.1,q.1)∈S.ways q'.1):=fun h=>h.imp id fun ⟨p,q',h1,h2,h3⟩=>⟨p,q',by omega,zef (zgq S i) h2,h3⟩;cases hi:(zdj S i)[i]? with
  | none=>
   rw [zk0 hi] at hq;exact lift (zkz S i q hq)
  | some q0=>
   have hq':=hq;rw [zhs hi] at hq';rcases foldB_mem _ _ q hq' with h | ⟨e,h1,h2⟩
   ·exact lift (zkz S i q h)
   ·exact .inr ⟨i,q0,by omega,zef (zgq S i) hi,by rw [h2],by rw [h2];exact h1⟩
end
end Go.Proofs.YtkbboemafklkkaaGreatDoor.V
namespace Go.Proofs.YtkbboemafklkkaaGreatDoor.V
open Go
set_option linter.unusedVariables false
def ltL:List Int→List Int→Prop
 | a::u,b::v=>a<b∨(a=b∧ltL u v)
 | _,_=>False
theorem ltL_trans:∀{u v w:List Int},ltL u v→ltL v w→ltL u w
 | [],_,_,h,_=>h.elim
 | _::_,[],_,h,_=>h.elim
 | _::_,_::_,[],_,k=>k.elim
 | a::u,b::v,c::w,h,k=>by
  rcases h with h | ⟨h1,h2⟩
  ·rcases k with k | ⟨k1,k2⟩
   ·exact .inl (by omega)
   ·exact .inl (by omega)
  ·rcases k with k | ⟨k1,k2⟩
   ·exact .inl (by omega)
   ·exact .inr ⟨by omega,ltL_trans h2 k2⟩
theorem ltL_app (c d:Int):∀{u v:List Int},ltL u v→ltL (u++[c]) (v++[d])
 | [],_,h=>h.elim
 | _::_,[],h=>h.elim
 | a::u,b::v,h=>h.imp id fun h=>⟨h.1,ltL_app c d h.2⟩
theorem ltL_last {c d:Int} (h:c<d):∀u:List Int,ltL (u++[c]) (u++[d])
 | []=>.inl h
 | a::u=>.inr ⟨rfl,ltL_last h u⟩
def sls (u v:List Int):Prop:=u.length<v.length∨(u.length=v.length∧ltL u v)
def sle (u v:List Int):Prop:=u=v∨sls u v
theorem zm3 {u v w:List Int} (h:sls u v) (k:sls v w):sls u w:=by
 rcases h with h | ⟨h1,h2⟩ <;> rcases k with k | ⟨k1,k2⟩
 ·exact .inl (by omega)
 ·exact .inl (by omega)
 ·exact .inl (by omega)
 ·exact .inr ⟨by omega,ltL_trans h2 k2⟩
theorem sle_sls {u v w:List Int} (h:sle u v) (k:sls v w):sls u w:=h.elim (fun e=>by rw [e];exact k) fun h=>zm3 h k
theorem sls_sle {u v w:List Int} (h:sls u v) (k:sle v w):sls u w:=k.elim (fun e=>by rw [← e];exact h) fun k=>zm3 h k
theorem sle_trans {u v w:List Int} (h:sle u v) (k:sle v w):sle u w:=h.elim (fun e=>by rw [e];exact k) fun h=>.inr (sls_sle h k)
theorem sls_app {u v:List Int} (c d:Int) (h:sls u v):sls (u++[c]) (v++[d]):=h.imp (fun h=>by simp;omega) fun h=>⟨by simp;omega,ltL_app c d h.2⟩
theorem sls_last (u:List Int) {c d:Int} (h:c<d):sls (u++[c]) (u++[d]):=.inr ⟨by simp,ltL_last h u⟩
theorem sle_app {u v:List Int} {c d:Int} (h:sle u v) (hc:c≤d):sle (u++[c]) (v++[d]):=by
 rcases h with rfl | h
 ·rcases Int.lt_or_eq_of_le hc with h | rfl
  ·exact .inr (sls_last u h)
  ·exact .inl rfl
 ·exact .inr (sls_app c d h)
theorem sls_more (u:List Int) (c:Int):sls u (u++[c]):=.inl (by simp)
section
variable {T : Type} [DecidableEq T]
def Ris (acc:List (Qb T)):Prop:=∀(j m:Nat) (q q':Qb T),j<m→acc[j]?=some q→acc[m]?=some q'→sls q.2.2.2 q'.2.2.2
theorem stB_ris {i:Nat} {w:List Int} {acc:List (Qb T)} {e:Int × T} (h:Ris acc) (h2:∀q∈acc,sls q.2.2.2 (w++[e.1])):Ris (stB i w acc e):=fun j m q q' hjm hq hq'=>by
 unfold stB at hq hq';split at hq
 ·rename_i hh
  rw [if_pos hh] at hq';exact h j m q q' hjm hq hq'
 ·rename_i hh
  rw [if_neg hh] at hq';have hml:=(List.getElem?_eq_some_iff.1 hq').1;simp at hml;have hj:j<acc.length:=by omega
  rw [List.getElem?_append_left hj] at hq
  by_cases hm:m<acc.length
  ·rw [List.getElem?_append_left hm] at hq';exact h j m q q' hjm hq hq'
  ·have em:m=acc.length:=by omega
   subst em;rw [List.getElem?_append_right (Nat.le_refl _)] at hq';simp at hq';subst hq';exact h2 q (List.mem_of_getElem? hq)
theorem znx {i:Nat} {w:List Int}:∀(es:List (Int × T)) (acc:List (Qb T)),es.Pairwise (fun a b=>a.1<b.1)→Ris acc→(∀q∈acc,∀e∈es,sls q.2.2.2 (w++[e.1])) →
  Ris (es.foldl (stB i w) acc)∧∀e∈es,∃q'∈es.foldl (stB i w) acc,q'.1=e.2∧sle q'.2.2.2 (w++[e.1])
 | [],acc,_,h,_=>⟨h,fun e h=>by cases h⟩
 | e::es,acc,hp,h,h2=>by
  rw [List.pairwise_cons] at hp;have h3:=stB_ris (i:=i) h fun q hq=>h2 q hq e (by simp);obtain ⟨k1,k2⟩:=znx (i:=i) es (stB i w acc e) hp.2 h3 fun q hq e' he'=>by
   rcases stB_mem q hq with hq | hq
   ·exact h2 q hq e' (by simp [he'])
   ·rw [hq];exact sls_last w (hp.1 e' he')
  refine ⟨k1,fun e' he'=>?_⟩;rcases List.mem_cons.1 he' with rfl | he'
  ·cases hh:hasQ acc e'.2
   ·refine ⟨(e'.2,(i:Int),e'.1,w++[e'.1]),(zny i w es _).subset ?_,rfl,.inl rfl⟩;unfold stB;rw [hh];simp
   ·obtain ⟨q',a,b⟩:=hasQ_iff.1 hh;refine ⟨q',(zny i w es _).subset ((stB_pre i w acc e').subset a),b,.inr (h2 q' a e' (by simp))⟩
  ·exact k2 e' he'
theorem zrj {S:Sch T}:∀(i:Nat),(∀(j:Nat) (q:Qb T),j<i→(zdj S i)[j]?=some q→(S.ways q.1).Pairwise (fun a b=>a.1<b.1))→Ris (zdj S i)
 | 0,_=>fun j m q q' hjm hq hq'=>by
  have:=(List.getElem?_eq_some_iff.1 hq').1;simp [zdj] at this;omega
 | i+1,hst=>by
  have ih:=zrj i fun j q hj hq=>hst j q (by omega) (zef (zgq S i) hq);cases hi:(zdj S i)[i]? with
  | none=>rw [zk0 hi];exact ih
  | some q0=>
   have hw:=hst i q0 (by omega) (zef (zgq S i) hi);rw [zhs hi];refine (znx _ _ hw ih fun q hq e he=>?_).1;rcases zkz S i q hq with h | ⟨p,q',h1,h2,h3,_⟩
   ·rw [h];exact .inl (by simp)
   ·rw [h3];exact sls_app _ _ (ih p i q' q0 h1 h2 hi)
theorem accB_least {S:Sch T} {i j:Nat} {q:Qb T} (hst:∀(j:Nat) (q:Qb T),j<i→(zdj S i)[j]?=some q→(S.ways q.1).Pairwise (fun a b=>a.1<b.1)) (hj:j<i) (hq:(zdj S i)[j]?=some q) {e:Int × T} (he:e∈S.ways q.1):
  ∃(m:Nat) (q':Qb T),(zdj S i)[m]?=some q'∧q'.1=e.2∧sle q'.2.2.2 (q.2.2.2++[e.1]):=by
 have hq0:(zdj S j)[j]?=some q:=by rw [← accB_at (Nat.le_of_lt hj)];exact hq
 have hst':∀(k:Nat) (q:Qb T),k<j→(zdj S j)[k]?=some q→(S.ways q.1).Pairwise (fun a b=>a.1<b.1):=fun k q hk h=>hst k q (by omega) (zef (zmq S (Nat.le_of_lt hj)) h);have ih:=zrj j hst';have h1:=(znx (i:=j) (w:=q.2.2.2) (S.ways q.1) (zdj S j) (hst j q hj hq) ih fun q' hq' e' he'=>by
  rcases zkz S j q' hq' with h | ⟨p,q2,k1,k2,k3,_⟩
  ·rw [h];exact .inl (by simp)
  ·rw [k3];exact sls_app _ _ (ih p j q2 q k1 k2 hq0)).2 e he
 obtain ⟨q',a,b,c⟩:=h1;have e1:zdj S (j+1)=(S.ways q.1).foldl (stB j q.2.2.2) (zdj S j):=zhs hq0;rw [← e1] at a;obtain ⟨m,hm⟩:=List.getElem?_of_mem a;exact ⟨m,q',zef (zmq S hj) hm,b,c⟩
theorem cov_least {S:Sch T} {step:T→Int→T→Prop} {B:Int→Prop} {i:Nat} (hst:∀(j:Nat) (q:Qb T),j<i→(zdj S i)[j]?=some q→(S.ways q.1).Pairwise (fun a b=>a.1<b.1))
  (hc:∀q∈zdj S i,∀c y,B c→step q.1 c y→∃b,b≤c∧(b,y)∈S.ways q.1) {w:List Int} {y:T} (h:Rn step S.start w y) (hw:∀c∈w,B c):
  (∃(m:Nat) (q:Qb T),(zdj S i)[m]?=some q∧q.1=y∧sle q.2.2.2 w)∨∃(k:Nat) (q:Qb T),i≤k∧(zdj S i)[k]?=some q∧sls q.2.2.2 w:=by
 induction h with
 | nil=>
  left;have:(zdj S 0)[0]?=some (S.start, -1,0,[]):=rfl;exact ⟨0,_,zef (zmq S (Nat.zero_le i)) this,rfl,.inl rfl⟩
 | snoc h hs ih=>
  rename_i w x c y
  rcases ih fun c hc=>hw c (by simp [hc]) with ⟨m,q,h1,h2,h3⟩ | ⟨k,q,h1,h2,h3⟩
  ·by_cases hm:m<i
   ·rw [← h2] at hs;obtain ⟨b,hb1,hb⟩:=hc q (List.mem_of_getElem? h1) c y (hw c (by simp)) hs;obtain ⟨m',q',k1,k2,k3⟩:=accB_least hst hm h1 hb;exact .inl ⟨m',q',k1,k2,sle_trans k3 (sle_app h3 hb1)⟩
   ·exact .inr ⟨m,q,by omega,h1,sle_sls h3 (sls_more w c)⟩
  ·exact .inr ⟨k,q,h1,h2,zm3 h3 (sls_more w c)⟩
theorem OutB.least {S:Sch T} {step:T→Int→T→Prop} {B:Int→Prop} {b:Int} {v:Int × List Int × Int × Option T} (h:OutB S b v) (hs:∀x c y,(c,y)∈S.ways x→step x c y)
  (hst:∀i:Nat,(i:Int)≤b∨i=0→∀q∈zdj S i,(S.ways q.1).Pairwise (fun a b=>a.1<b.1))
  (hc:∀i:Nat,(i:Int)≤b∨i=0→∀q∈zdj S i,∀c y,B c→step q.1 c y→∃d,d≤c∧(d,y)∈S.ways q.1):
  (v.1=1→v.2.1=[]∧∀w y,(∀c∈w,B c)→Rn step S.start w y→S.hit y=false)∧(v.1=2→∃x,v.2.2.2=some x∧S.hit x=true∧Rn step S.start v.2.1 x∧∀w y,(∀c∈w,B c)→Rn step S.start w y→S.hit y=true→sle v.2.1 w)∧(v.1=1∨v.1=2∨v.1=3):=by
 cases h with
 | limit _ _=>exact ⟨(fun h=>by simp at h),(fun h=>by simp at h),.inr (.inr rfl)⟩
 | yes i hb h hno=>
  have hst':∀(j:Nat) (q:Qb T),j<i→(zdj S i)[j]?=some q→(S.ways q.1).Pairwise (fun a b=>a.1<b.1):=fun j q _ hq=>hst i (by omega) q (List.mem_of_getElem? hq);refine ⟨fun _=>⟨rfl,fun w y hw hr=>?_⟩,(fun h=>by simp at h),.inl rfl⟩;have hl:=List.getElem?_eq_none_iff.1 h;rcases cov_least hst' (hc i (by omega)) hr hw with ⟨m,q,h1,h2,_⟩ | ⟨k,q,h1,h2,_⟩
  ·have:=(List.getElem?_eq_some_iff.1 h1).1;rw [← h2];exact hno m q (by omega) h1
  ·have:=(List.getElem?_eq_some_iff.1 h2).1;omega
 | no i q hb h hh hno=>
  have hst':∀(j:Nat) (q:Qb T),j<i→(zdj S i)[j]?=some q→(S.ways q.1).Pairwise (fun a b=>a.1<b.1):=fun j q _ hq=>hst i (by omega) q (List.mem_of_getElem? hq);have hris:=zrj i hst';have hle:∀m q',i≤m→(zdj S i)[m]?=some q'→sle q.2.2.2 q'.2.2.2:=fun m q' him hq'=>by
   rcases Nat.lt_or_eq_of_le him with h1 | h1
   ·exact .inr (hris i m q q' h1 h hq')
   ·subst h1;rw [h] at hq';cases hq';exact .inl rfl
  refine ⟨(fun h=>by simp at h),fun _=>⟨q.1,rfl,hh,accB_rn hs i i q h,fun w y hw hr hy=>?_⟩,.inr (.inl rfl)⟩;rcases cov_least hst' (hc i (by omega)) hr hw with ⟨m,q',h1,h2,h3⟩ | ⟨k,q',h1,h2,h3⟩
  ·have hm:i≤m:=by
    rcases Nat.lt_or_ge m i with hm | hm
    ·have:=hno m q' hm h1;rw [h2,hy] at this;cases this
    ·exact hm
   exact sle_trans (hle m q' hm h1) h3
  ·exact .inr (sle_sls (hle k q' h1 h2) h3)
end
end Go.Proofs.YtkbboemafklkkaaGreatDoor.V
namespace Go.Proofs.YtkbboemafklkkaaGreatDoor.V
open Go
set_option linter.unusedVariables false
abbrev TS:=List (List SItem)
structure Rm (d:List SNode) (l:TS):Prop where
 sm:∀s∈l,Sm d s
 len:l.length≤1000000000
 cls:(zmm d l).length≤1000000000000
 on:∀c,InR .u8 c→Room d c l
 out:∀c,InR .u8 c→(onS d c l).length≤1000000000
theorem pas_24_10:pas 24 10≤1000000000:=pas_le (by decide +kernel)
theorem pas_17_9:pas 17 9≤4000000:=pas_le (by decide +kernel)
theorem rm_of {d:List SNode} (h:Rt d) (hl:d.length≤24) (ht:Txt d) {w:List Int} (hw:∀c∈w,InR .u8 c) (hwl:w.length≤9) (l1:(zfg d w).length≤4000000):Rm d (zfg d w):=by
 have p10:pas d.length (w.length+1)≤1000000000:=pas_le2 (m':=24) (k':=10) (by omega) (by omega) pas_24_10;refine ⟨fun s hs=>(zlo h (by omega) ht hw hs).1,by omega, ?_,fun c hc=>room_after h (by omega) ht hw hc (by omega),fun c hc=>?_⟩
 ·have h1:=clsL_len h (m:=24) (zfg d w) fun s hs=>(zlo h (by omega) ht hw hs).2;have h2:256*(24*(d.length+1)+1)*(zfg d w).length≤256*(24*25+1)*4000000:=Nat.mul_le_mul (by omega) (by omega);omega
 ·have hw2:∀b∈w++[c],InR .u8 b:=fun b hb=>(List.mem_append.1 hb).elim (hw b) fun e=>by rw [List.mem_singleton.1 e];exact hc
  have:=zri h hw2;rw [zf0,List.length_append,List.length_singleton] at this;omega
theorem rm_heavy {d:List SNode} (h:Rt d) (hl:d.length≤17) (ht:Txt d) {w:List Int} (hw:∀c∈w,InR .u8 c) (hwl:w.length≤9):Rm d (zfg d w):=
 rm_of h (by omega) ht hw hwl (Nat.le_trans (zri h hw) (pas_le2 (m':=17) (k':=9) (by omega) (by omega) pas_17_9))
theorem bytS_u8 {d:List SNode} {l:TS} {c:Int} (h:c∈bytS d l):InR .u8 c:=bytC_u8 h
def Lk (d:List SNode) (b:Int):Prop:=∀w,(∀c∈w,InR .u8 c)→(w.length:Int)<b∨w.length≤9→Rm d (zfg d w)
theorem lk_heavy {d:List SNode} (h:Rt d) (hl:d.length≤17) (ht:Txt d) {b:Int} (hb:b≤10):Lk d b:=fun w hw hwl=>rm_heavy h hl ht hw (by omega)
theorem rm_pre {d:List SNode} {b:Int} (hk:Lk d b) {w:List Int} (hw:∀c∈w,InR .u8 c) (hwl:(w.length:Int)<b∨w.length≤9) (i:Nat):Rm d (zfg d (w.take i)):=
 hk _ (fun c hc=>hw c (List.mem_of_mem_take hc)) (by rw [List.length_take];omega)
def zf6 (l:List Int) (x:Int):Int:=if 0≤x∧x<(l.length:Int) then (at? l x).getD 0 else 0
def zo2 (e:SNode) (a b:Int):Int:=if e.1=7 then (1+max 0 (min e.2.2.2.2.1 1000))*a else if e.1=6∨e.1=8∨e.1=9 then a+1 else if e.1=4∨e.1=5 then a+b else if e.1=3 then 1+min (e.2.2.2.2.2.2.length:Int) 1000 else 1
def wl (d:List SNode):Nat→List Int
 | 0=>[]
 | i+1=>match d[i]? with
  | none=>wl d i
  | some e=>wl d i++[min (zo2 e (zf6 (wl d i) e.2.1) (zf6 (wl d i) e.2.2.1)) 1000]
theorem zk6 {d:List SNode} {i:Nat} (hi:i<d.length):wl d (i+1)=wl d i++[min (zo2 d[i] (zf6 (wl d i) d[i].2.1) (zf6 (wl d i) d[i].2.2.1)) 1000]:=by
 show (match d[i]? with | none=>wl d i | some e=>wl d i++[min (zo2 e (zf6 (wl d i) e.2.1) (zf6 (wl d i) e.2.2.1)) 1000])=_;rw [List.getElem?_eq_getElem hi]
theorem zo1 {d:List SNode}:∀{i:Nat},i≤d.length→(wl d i).length=i
 | 0,_=>rfl
 | i+1,h=>by rw [zk6 (by omega),List.length_append,zo1 (by omega)];rfl
theorem mul_few {x a:Int} (hx:0≤x∧x≤1001) (ha:0≤a∧a≤1000):0≤x*a∧x*a≤1001000:=by
 refine ⟨Int.mul_nonneg hx.1 ha.1, ?_⟩;have:=Int.mul_le_mul hx.2 ha.2 ha.1 (by omega);omega
theorem wgt1_ok {e:SNode} {a b:Int} (ha:0≤a∧a≤1000) (hb:0≤b∧b≤1000):0≤zo2 e a b:=by
 unfold zo2;split
 ·exact (mul_few (by omega) ha).1
 ·split
  ·omega
  ·split
   ·omega
   ·split <;> omega
theorem zio {l:List Int} (h:∀x∈l,0≤x∧x≤1000) (x:Int):0≤zf6 l x∧zf6 l x≤1000:=by
 unfold zf6;split
 ·rename_i hx
  obtain ⟨y,hy,hm⟩:=zob hx.1 hx.2;rw [hy];exact h y hm
 ·omega
theorem wl_ok {d:List SNode}:∀{i:Nat},i≤d.length→∀x∈wl d i,0≤x∧x≤1000
 | 0,_,x,hx=>by cases hx
 | i+1,h,x,hx=>by
  have ih:=wl_ok (d:=d) (i:=i) (by omega);rw [zk6 (by omega)] at hx;rcases List.mem_append.1 hx with hx | hx
  ·exact ih x hx
  ·rw [List.mem_singleton.1 hx];have:=wgt1_ok (e:=d[i]) (zio ih d[i].2.1) (zio ih d[i].2.2.1);omega
theorem w7 {L1:List Int→Int→Prop} {l:List Int} {i:Int} {e:SNode} {a:Int} (hl:l.length≤1000) (hi:0≤i∧i≤1000) (ha:0≤a∧a≤1000) (hb:0≤zf6 l e.2.2.1∧zf6 l e.2.2.1≤1000) (h:L1 (l++[min (zo2 e a (zf6 l e.2.2.1)) 1000]) (i+1)):zj.j7 L1 l i e a:=by
 have e2:∀w,w=zo2 e a (zf6 l e.2.2.1)→zj.j2 L1 l i w:=fun w hw=>by
  subst hw;exact ⟨by simp;omega,zh (by omega) (by omega),h⟩
 have e3:∀w,e.1=7∨w=zo2 e a (zf6 l e.2.2.1)→zj.j3 L1 l i e a w:=fun w hw=>by
  refine ⟨fun h7=>?_,fun h7=>e2 w (hw.resolve_left (by simpa using h7))⟩;have h7:e.1=7:=by simpa using h7
  have:=mul_few (x:=1+max 0 (min e.2.2.2.2.1 1000)) (by omega) ha;exact ⟨zh (by omega) (by omega),zh (by omega) (by omega),e2 _ (by unfold zo2;rw [if_pos h7])⟩
 have e4:∀w,e.1=7∨(e.1=6∨e.1=8∨e.1=9)∨w=zo2 e a (zf6 l e.2.2.1)→zj.j4 L1 l i e a w:=fun w hw=>by
  refine ⟨fun h6=>⟨zh (by omega) (by omega),e3 _ ?_⟩,fun h6=>e3 w ?_⟩
  ·have h6:e.1=6∨e.1=8∨e.1=9:=by simpa [or_assoc] using h6
   refine .inr ?_;unfold zo2;rw [if_neg (by omega),if_pos h6]
  ·have h6:¬ (e.1=6∨e.1=8∨e.1=9):=by simpa [or_assoc,and_assoc] using h6
   exact hw.imp id fun h=>h.resolve_left h6
 have e5:∀w,e.1=7∨(e.1=6∨e.1=8∨e.1=9)∨(e.1=4∨e.1=5)∨w=zo2 e a (zf6 l e.2.2.1)→zj.j5 L1 l i e a (zf6 l e.2.2.1) w:=fun w hw=>by
  refine ⟨fun h4=>⟨zh (by omega) (by omega),e4 _ ?_⟩,fun h4=>e4 w ?_⟩
  ·have h4:e.1=4∨e.1=5:=by simpa using h4
   refine .inr (.inr ?_);unfold zo2;rw [if_neg (by omega),if_neg (by omega),if_pos h4]
  ·have h4:¬ (e.1=4∨e.1=5):=by simpa using h4
   exact hw.imp id fun h=>h.imp id fun h=>h.resolve_left h4
 have e6:zj.j6 L1 l i e a (zf6 l e.2.2.1):=by
  refine ⟨fun h3=>⟨zh (by omega) (by omega),e5 _ ?_⟩,fun h3=>e5 1 ?_⟩
  ·have h3:e.1=3:=by simpa using h3
   refine .inr (.inr (.inr ?_));unfold zo2;rw [if_neg (by omega),if_neg (by omega),if_neg (by omega),if_pos h3]
  ·have h3:¬ e.1=3:=by simpa using h3
   by_cases k7:e.1=7
   ·exact .inl k7
   by_cases k6:e.1=6∨e.1=8∨e.1=9
   ·exact .inr (.inl k6)
   by_cases k4:e.1=4∨e.1=5
   ·exact .inr (.inr (.inl k4))
   refine .inr (.inr (.inr ?_));unfold zo2;rw [if_neg k7,if_neg k6,if_neg k4,if_neg h3]
 refine ⟨_,rfl,fun hc=>?_,fun hc=>?_⟩
 ·simp only [Bool.and_eq_true,decide_eq_true_eq] at hc;obtain ⟨y,hy,_⟩:=zob hc.1 hc.2;have:zf6 l e.2.2.1=y:=by unfold zf6;rw [if_pos hc,hy];rfl
  rw [this] at e6;exact ⟨y,hy,e6⟩
 ·have:zf6 l e.2.2.1=0:=by
   unfold zf6;rw [if_neg];simp only [Bool.and_eq_false_iff,decide_eq_false_iff_not] at hc;omega
  rw [this] at e6;exact e6
theorem znc {d:List SNode} (hl:d.length≤100):zj d (if d.length=0 then 0 else zf6 (wl d d.length) ((d.length:Int)-1)):=by
 refine zhe (P:=fun k l v=>zj.l1 d _ k l v) d.length (fun i l=>l=wl d i) ?_ ?_ [] rfl
 ·rintro i l hi rfl;have hlen:=zo1 (d:=d) (i:=i) (by omega);have hok:=wl_ok (d:=d) (i:=i) (by omega);refine .inr ⟨_,(zk6 hi).symm,fun k hk=>⟨_,rfl,fun _=>⟨_,zjp hi,_,rfl,fun hc=>?_,fun hc=>?_⟩,fun hc=>?_⟩⟩
  ·simp only [Bool.and_eq_true,decide_eq_true_eq] at hc;obtain ⟨y,hy,hm⟩:=zob hc.1 hc.2;have e:zf6 (wl d i) d[i].2.1=y:=by unfold zf6;rw [if_pos hc,hy];rfl
   rw [e] at hk;exact ⟨y,hy,w7 (by omega) (by omega) (hok y hm) (zio hok _) hk⟩
  ·have e:zf6 (wl d i) d[i].2.1=0:=by
    unfold zf6;rw [if_neg];simp only [Bool.and_eq_false_iff,decide_eq_false_iff_not] at hc;omega
   rw [e] at hk;exact w7 (by omega) (by omega) (by omega) (zio hok _) hk
  ·exfalso;simp only [Bool.and_eq_false_iff,decide_eq_false_iff_not] at hc;omega
 ·rintro l rfl k;have hlen:=zo1 (d:=d) (i:=d.length) (Nat.le_refl _);refine ⟨_,rfl,fun hc=>?_,fun _=>⟨fun h=>?_,fun h=>?_⟩⟩
  ·exfalso;simp only [Bool.and_eq_true,decide_eq_true_eq] at hc;omega
  ·rw [hlen] at h;rw [if_pos (by have:=eq_of_beq h;omega)]
  ·rw [hlen] at h;have hp:d.length≠0:=by have:=beq_eq_false_iff_ne.1 h;omega
   obtain ⟨y,hy,_⟩:=zob (xs:=wl d d.length) (i:=(d.length:Int)-1) (by omega) (by omega);refine ⟨zh (by omega) (by omega),y,by rw [hlen];exact hy, ?_⟩;rw [if_neg hp];unfold zf6;rw [if_pos (by omega),hy];rfl
theorem wl_pre {d:List SNode} {i:Nat}:∀{j:Nat},i≤j→j≤d.length→wl d i <+: wl d j
 | 0,h,_=>by rw [Nat.le_zero.1 h];exact List.prefix_refl _
 | j+1,h,hj=>by
  rcases Nat.lt_or_eq_of_le h with h1 | h1
  ·rw [zk6 (by omega)];exact (wl_pre (Nat.le_of_lt_succ h1) (by omega)).trans (List.prefix_append _ _)
  ·rw [h1];exact List.prefix_refl _
theorem zmj {d:List SNode} {i:Nat} (hi:i≤d.length) {x:Int} (h0:0≤x) (h1:x<(i:Int)):zf6 (wl d i) x=zf6 (wl d d.length) x:=by
 have l1:=zo1 (d:=d) hi;have l2:=zo1 (d:=d) (i:=d.length) (Nat.le_refl _);obtain ⟨m,rfl⟩:∃m:Nat,x=m:=⟨x.toNat,by omega⟩;unfold zf6;rw [if_pos (by omega),if_pos (by omega),zbn,zbn];obtain ⟨r,hr⟩:=wl_pre (d:=d) hi (Nat.le_refl _);rw [← hr,List.getElem?_append_left (by omega)]
theorem look_at {d:List SNode} {i:Int} {e:SNode} (he:at? d i=some e):zf6 (wl d d.length) i=min (zo2 e (zf6 (wl d i.toNat) e.2.1) (zf6 (wl d i.toNat) e.2.2.1)) 1000:=by
 obtain ⟨h0,h1⟩:=zbv he;obtain ⟨m,rfl⟩:∃m:Nat,i=m:=⟨i.toNat,by omega⟩;have hm:m<d.length:=by omega
 have he':d[m]=e:=by
  rw [zbn,List.getElem?_eq_getElem hm] at he;exact Option.some.inj he
 rw [← zmj (d:=d) (i:=m+1) (by omega) (by omega) (by omega)];have l1:=zo1 (d:=d) (i:=m) (by omega);unfold zf6;rw [if_pos (by rw [zk6 hm,List.length_append,l1];simp;omega),zbn,zk6 hm,List.getElem?_append_right (by omega),l1,Nat.sub_self,he'];simp [zf6]
theorem sz_wgt {d:List SNode} (hn:∀n∈d,n.1≠8∧n.1≠9) {f i:Int} (h:Tr d f i):∀k,zf6 (wl d d.length) i<1000→((szN d k i:Nat):Int)≤zf6 (wl d d.length) i:=by
 have hok:∀x,0≤zf6 (wl d d.length) x∧zf6 (wl d d.length) x≤1000:=fun x=>zio (wl_ok (Nat.le_refl _)) x;have hs:∀{i:Int} {e:SNode} (k:Nat),at? d i=some e→szN d (k+1) i=if e.1=2 then 1 else if e.1=3 then e.2.2.2.2.2.2.length else if e.1=4∨e.1=5 then szN d k e.2.1+szN d k e.2.2.1 else if e.1=6 then szN d k e.2.1 else if e.1=7 then e.2.2.2.2.1.toNat*szN d k e.2.1 else 0:=fun {i e} k he=>by
  simp only [szN,he]
 induction h with
 | leaf he hk hx h0=>
  rename_i i e
  intro k hlt;have hl:=look_at he;rw [hl] at hlt ⊢;cases k with
  | zero=>have:=wgt1_ok (e:=e) (zio (wl_ok (d:=d) (i:=i.toNat) (by have:=zbv he;omega)) e.2.1) (zio (wl_ok (d:=d) (i:=i.toNat) (by have:=zbv he;omega)) e.2.2.1);show (0:Int)≤_;omega
  | succ k=>
   rw [hs k he];unfold zo2 at hlt ⊢;rcases hk with k1 | k1 | k1
   ·simp only [k1] at hlt ⊢;simp;try omega
   ·simp only [k1] at hlt ⊢;simp;try omega
   ·simp only [k1] at hlt ⊢;simp at hlt ⊢;omega
 | one he hk ha hb hr h ih=>
  rename_i f i e
  intro k hlt;have hle:=h.le;have hbd:=zbv he;have hl:=look_at he;rw [ha,zmj (i:=i.toNat) (by omega) (by omega) (by omega)] at hl;have hA:=hok (i-1);have hw:=wgt1_ok (e:=e) (a:=zf6 (wl d d.length) (i-1)) hA (zio (wl_ok (d:=d) (i:=i.toNat) (by omega)) e.2.2.1);rw [hl] at hlt ⊢;cases k with
  | zero=>show (0:Int)≤_;omega
  | succ k=>
   rw [hs k he,ha];have ih:=ih k;unfold zo2 at hlt ⊢;rcases hk with k1 | k1 | k1 | k1
   ·simp only [k1] at hlt ⊢;simp at hlt ⊢;have:=ih (by omega);omega
   ·have hr:=hr k1;simp only [k1] at hlt ⊢;simp only [show ¬ ((7:Int)=2) by decide,show ¬ ((7:Int)=3) by decide,show ¬ ((7:Int)=4∨(7:Int)=5) by decide,show ¬ ((7:Int)=6) by decide,if_false,if_true] at hlt ⊢;have hx:1+max 0 (min e.2.2.2.2.1 1000)=1+e.2.2.2.2.1:=by omega
    rw [hx] at hlt ⊢;have hA2:zf6 (wl d d.length) (i-1)<1000:=by
     rcases Int.lt_or_le (zf6 (wl d d.length) (i-1)) 1000 with h | h
     ·exact h
     ·have h2:zf6 (wl d d.length) (i-1)≤(1+e.2.2.2.2.1)*zf6 (wl d d.length) (i-1):=by
       have:=Int.mul_le_mul_of_nonneg_right (show (1:Int)≤1+e.2.2.2.2.1 by omega) hA.1;omega
      omega
    have ih:=ih hA2;have e1:(((e.2.2.2.2.1.toNat*szN d k (i-1):Nat)):Int)=e.2.2.2.2.1*(szN d k (i-1):Int):=by
     rw [Int.natCast_mul,Int.toNat_of_nonneg (by omega)]
    rw [e1];have h3:e.2.2.2.2.1*(szN d k (i-1):Int)≤(1+e.2.2.2.2.1)*zf6 (wl d d.length) (i-1):=Int.mul_le_mul (by omega) ih (by omega) (by omega);omega
   ·exact absurd k1 (hn _ (at_mem he)).1
   ·exact absurd k1 (hn _ (at_mem he)).2
 | two he hk ha hb h1 h2 i1 i2=>
  rename_i f p i e
  intro k hlt;have l1:=h1.le;have l2:=h2.le;have hbd:=zbv he;have hl:=look_at he;rw [ha,hb,zmj (i:=i.toNat) (by omega) (by omega) (by omega),zmj (i:=i.toNat) (by omega) (by omega) (by omega)] at hl;have hA:=hok (p-1);have hB:=hok (i-1);rw [hl] at hlt ⊢;have hw:zo2 e (zf6 (wl d d.length) (p-1)) (zf6 (wl d d.length) (i-1))=zf6 (wl d d.length) (p-1)+zf6 (wl d d.length) (i-1):=by
   unfold zo2;rw [if_neg (by omega),if_neg (by omega),if_pos hk]
  rw [hw] at hlt ⊢;cases k with
  | zero=>show (0:Int)≤_;omega
  | succ k=>
   rw [hs k he,ha,hb,if_neg (by omega),if_neg (by omega),if_pos hk];have j1:=i1 k (by omega);have j2:=i2 k (by omega);rw [Int.natCast_add];omega
structure FewD (d:List SNode):Prop where
 rt:Rt d
 len:d.length≤16
 sz:(∀n∈d,n.1≠8∧n.1≠9)→szN d d.length ((d.length:Int)-1)≤60
def FewB (d:List SNode) (r:Bool):Prop:=∃r1:Bool,zcx d r1∧∃r3:Int,((((r1&&(decide ((d.length:Int)≤16))))=true)→zj d r3)∧∃b5:Bool,b5=((r1&&(decide ((d.length:Int)≤16)))&&(decide (r3≤60)))∧∃r7:Bool,(((b5)=true)→zgl d r7)∧r=(b5&&r7)
theorem few_of {d:List SNode} (ht:Txt d):∃r,FewB d r∧(r=true→FewD d):=by
 obtain ⟨r3,h3,h3b⟩:=few_ex ht;cases r3
 ·exact ⟨false,⟨false,h3,0,(fun h=>by simp at h),_,rfl,false,(fun h=>by simp at h),by simp⟩,(fun h=>by cases h)⟩
 ·have hl:=h3b rfl;have hw:=znc hl;obtain ⟨r9,h9,h9b⟩:=right_ok (d:=d) (by omega) ht;refine ⟨_,⟨true,h3,_,fun _=>hw,_,rfl,r9,fun _=>h9,rfl⟩,fun h=>?_⟩;simp only [Bool.true_and,Bool.and_eq_true,decide_eq_true_eq] at h;obtain ⟨⟨g1,g2⟩,g3⟩:=h;have hR:=h9b g3;refine ⟨hR,by omega,fun hn=>?_⟩;have hp:=List.length_pos_iff.2 hR.ne;rw [if_neg (by omega)] at g2;have:=sz_wgt hn hR.tr d.length (by omega);omega
section
variable {T U : Type} [DecidableEq T] [DecidableEq U]
end
section
variable {T : Type} [DecidableEq T]
theorem OutB.len {S:Sch T} {b:Int} {v:Int × List Int × Int × Option T} (h:OutB S b v):v.2.1.length≤b.toNat∧(v.1=2→(v.2.1.length:Int)<b):=by
 cases h with
 | yes i hb h hno=>simp
 | no i q hb h hh hno=>
  have:=(ziy S i).wlen i q h;simp only;omega
 | limit _ _=>simp
end
end Go.Proofs.YtkbboemafklkkaaGreatDoor.V
namespace Go.Proofs.YtkbboemafklkkaaGreatDoor.V
open Go
set_option linter.unusedVariables false
def begS (d:List SNode) (w:List Int):Bool:=(List.range w.length).any fun i=>zhu d (zfg d (w.take i))
theorem begS_iff {d:List SNode} {w:List Int}:begS d w=true↔∃i,i<w.length∧zhu d (zfg d (w.take i))=true:=by simp [begS]
theorem begS_snoc (d:List SNode) (w:List Int) (c:Int):begS d (w++[c])=(begS d w||zhu d (zfg d w)):=by
 rw [Bool.eq_iff_iff,Bool.or_eq_true,begS_iff,begS_iff];constructor
 ·rintro ⟨i,hi,h⟩;simp at hi
  by_cases e:i=w.length
  ·subst e;rw [List.take_left] at h;exact .inr h
  ·rw [List.take_append_of_le_length (by omega)] at h;exact .inl ⟨i,by omega,h⟩
 ·rintro (⟨i,hi,h⟩ | h)
  ·exact ⟨i,by simp;omega,by rw [List.take_append_of_le_length (by omega)];exact h⟩
  ·exact ⟨w.length,by simp,by rw [List.take_left];exact h⟩
abbrev TPr:=TS × Bool
instance decTPr:DecidableEq TPr:=@instDecidableEqProd TS Bool inferInstance inferInstance
def zj1 (d:List SNode) (x:TPr):List (Int × TPr):=(bytS d x.1).map fun c=>(c,(onS d c x.1,x.2||zhu d x.1))
def znf (d:List SNode):Sch TPr:=⟨([stS d],false),zj1 d,fun x=>x.2&&zhu d x.1⟩
theorem waysA_len (d:List SNode) (x:TPr):(zj1 d x).length≤256:=by unfold zj1;rw [List.length_map];exact bytC_len _
theorem zne (d:List SNode):∀(x:TPr) (c:Int) (y:TPr),(c,y)∈(znf d).ways x→InR .u8 c∧y=(onS d c x.1,x.2||zhu d x.1):=fun x c y h=>by
 obtain ⟨b,h1,h2⟩:=List.mem_map.1 h;cases h2;exact ⟨bytS_u8 h1,rfl⟩
theorem rnA_aft {d:List SNode} {w:List Int} {x:TPr} (h:Rn (fun (x:TPr) c y=>InR .u8 c∧y=(onS d c x.1,x.2||zhu d x.1)) ([stS d],false) w x):x=(zfg d w,begS d w)∧∀c∈w,InR .u8 c:=by
 induction h with
 | nil=>exact ⟨rfl,fun c hc=>by cases hc⟩
 | snoc h hs ih=>
  obtain ⟨h1,h2⟩:=hs;refine ⟨by rw [h2,ih.1,zf0,begS_snoc],fun b hb=>?_⟩;rcases List.mem_append.1 hb with hb | hb
  ·exact ih.2 b hb
  ·rw [List.mem_singleton.1 hb];exact h1
theorem aft_rnA {d:List SNode} (w:List Int) (hw:∀c∈w,InR .u8 c):Rn (fun (x:TPr) c y=>InR .u8 c∧y=(onS d c x.1,x.2||zhu d x.1)) ([stS d],false) w (zfg d w,begS d w):=by
 refine zpv (p:=fun w=>(∀c∈w,InR .u8 c)→Rn (fun (x:TPr) c y=>InR .u8 c∧y=(onS d c x.1,x.2||zhu d x.1)) ([stS d],false) w (zfg d w,begS d w)) (fun _=>.nil) (fun w c ih hw=>?_) w hw;exact .snoc (ih fun b hb=>hw b (by simp [hb])) ⟨hw c (by simp),by rw [zf0,begS_snoc]⟩
theorem zrk {d:List SNode} {i j:Nat} {q:Qb TPr} (h:(zdj (znf d) i)[j]?=some q):q.1=(zfg d q.2.2.2,begS d q.2.2.2)∧(∀c∈q.2.2.2,InR .u8 c)∧q.2.2.2.length≤j:=by
 obtain ⟨h1,h2⟩:=rnA_aft (accB_rn (S:=znf d) (zne d) i j q h);exact ⟨h1,h2,(ziy _ _).wlen j q h⟩
theorem accA_rm {d:List SNode} {b:Int} (hk:Lk d b) {i j:Nat} {q:Qb TPr} (hq:(zdj (znf d) i)[j]?=some q) (hj:(j:Int)<b):Rm d q.1.1:=by
 obtain ⟨h1,h2,h3⟩:=zrk hq;rw [h1];exact hk _ h2 (.inl (by omega))
theorem waysA_rise (d:List SNode) (x:TPr):(zj1 d x).Pairwise fun a b=>a.1<b.1:=by
 unfold zj1;rw [List.pairwise_map];exact bytC_srt _
theorem pre_least {d:List SNode} (h:Rt d) (hl:d.length≤24) (ht:Txt d) {b:Int} {v:Int × List Int × Int × Option TPr} (ho:OutB (znf d) b v):
  (v.1=1→v.2.1=[]∧∀w,(∀c∈w,InR .u8 c)→¬ (begS d w=true∧zhu d (zfg d w)=true))∧(v.1=2→(∀c∈v.2.1,InR .u8 c)∧begS d v.2.1=true∧zhu d (zfg d v.2.1)=true∧∀w,(∀c∈w,InR .u8 c)→begS d w=true→zhu d (zfg d w)=true→sle v.2.1 w)∧(v.1=1∨v.1=2∨v.1=3):=by
 obtain ⟨h1,h2,h3⟩:=ho.least (B:=fun c=>InR .u8 c) (zne d) (fun i _ q _=>waysA_rise d q.1) fun i _ q hq c y hc hs=>by
  obtain ⟨j,hj⟩:=List.getElem?_of_mem hq;obtain ⟨q1,q2,_⟩:=zrk hj;have hsm:∀s∈q.1.1,Sm d s:=fun s hs=>by rw [q1] at hs;exact (zlo h hl ht q2 hs).1
  obtain ⟨x,x1,x2,x3⟩:=onS_byte hsm hc;refine ⟨x,x2, ?_⟩;rw [hs.2,← x3];exact List.mem_map.2 ⟨x,x1,rfl⟩
 refine ⟨fun k=>⟨(h1 k).1,fun w hw hh=>?_⟩,fun k=>?_,h3⟩
 ·have:=(h1 k).2 w _ hw (aft_rnA w hw);simp [znf,hh.1,hh.2] at this
 obtain ⟨x,x1,x2,x3,x4⟩:=h2 k;obtain ⟨y1,y2⟩:=rnA_aft x3;rw [y1] at x1 x2;simp only [znf,Bool.and_eq_true] at x2;refine ⟨y2,x2.1,x2.2,fun w hw hb he=>x4 w _ hw (aft_rnA w hw) ?_⟩;simp [znf,hb,he]
def cutN (d:List SNode) (w:List Int):Option Nat:=(List.range (w.length+1)).find? fun i=>zhu d (zfg d (w.take i))
theorem find_range {p:Nat→Bool}:∀{n i:Nat},(List.range n).find? p=some i→i<n∧p i=true∧∀j,j<i→p j=false:=by
 intro n
 induction n with
 | zero=>intro i h;simp at h
 | succ n ih=>
  intro i h;rw [List.range_succ,List.find?_append] at h;cases hf:(List.range n).find? p with
  | some k=>
   rw [hf] at h;simp at h;subst h;obtain ⟨a,b,c⟩:=ih hf;exact ⟨by omega,b,c⟩
  | none=>
   rw [hf] at h;simp only [Option.none_or] at h;have h2:=List.find?_some h;have h3:=List.mem_of_find?_eq_some h;rw [List.mem_singleton] at h3;subst h3;refine ⟨by omega,h2,fun j hj=>?_⟩;have:=List.find?_eq_none.1 hf j (List.mem_range.2 hj);simpa using this
theorem zn4 {d:List SNode} {w:List Int} {i:Nat} (h:cutN d w=some i):i≤w.length∧zhu d (zfg d (w.take i))=true∧∀j,j<i→zhu d (zfg d (w.take j))=false:=by
 obtain ⟨a,b,c⟩:=find_range h;exact ⟨by omega,b,c⟩
theorem cutN_none {d:List SNode} {w:List Int} (h:cutN d w=none):∀j,j≤w.length→zhu d (zfg d (w.take j))=false:=fun j hj=>by
 have:=List.find?_eq_none.1 h j (List.mem_range.2 (by omega));simpa using this
def cutW (d:List SNode) (w:List Int):List Int × Bool:=match cutN d w with
 | some i=>(w.take i,true)
 | none=>([],false)
theorem zoc {α:Type} {xs:List α} {i:Nat} {x:α} (h:xs[i]?=some x):at? xs (i:Int)=some x:=by rw [zbn];exact h
theorem rev_in {l:List Int} (hl:l.length≤1000):zq l l.reverse:=by
 refine ⟨zh (by omega) (by omega), ?_⟩;have key:=zhe (P:=fun k (s:List Int) v=>zq.l1 (zq.j1 l.reverse) k s v ((l.length:Int)-1-v)) l.length
  (fun i s=>s.length=l.length∧∀k,k<l.length→s[k]?=if k<i∨l.length≤k+i then l[l.length-1-k]? else l[k]?) ?_ ?_ l ⟨rfl,fun k hk=>by rw [if_neg (by omega)]⟩
 ·simpa using key
 ·rintro i s hi ⟨h1,h2⟩
  by_cases hij:i<l.length-1-i
  ·have hj:(l.length:Int)-1-(i:Int)=((l.length-1-i:Nat):Int):=by omega
   have e1:s[i]?=some l[i]:=by rw [h2 i hi,if_neg (by omega)];exact List.getElem?_eq_getElem hi
   have hjl:l.length-1-i<l.length:=by omega
   have e2:s[l.length-1-i]?=some l[l.length-1-i]:=by rw [h2 _ hjl,if_neg (by omega)];exact List.getElem?_eq_getElem hjl
   refine .inr ⟨(s.set i l[l.length-1-i]).set (l.length-1-i) l[i],⟨by simp [h1],fun k hk=>?_⟩,fun k hk=>⟨fun _=>⟨_,by rw [hj];exact zoc e2,_,zoc e1,_,zoc e1,l[l.length-1-i], ?_,zh (by omega) (by omega),zh (by omega) (by omega), ?_⟩,fun h=>absurd (by omega) (df h)⟩⟩
   ·rw [List.getElem?_set]
    by_cases hk1:l.length-1-i=k
    ·subst hk1;rw [if_pos rfl,if_pos (by simp [h1];omega),if_pos (by omega)];rw [show l.length-1-(l.length-1-i)=i by omega];exact (List.getElem?_eq_getElem hi).symm
    ·rw [if_neg hk1,List.getElem?_set]
     by_cases hk2:i=k
     ·subst hk2;rw [if_pos rfl,if_pos (by rw [h1];exact hi),if_pos (by omega)];exact (List.getElem?_eq_getElem hjl).symm
     ·rw [if_neg hk2,h2 k hk]
      by_cases hk3:k<i∨l.length≤k+i
      ·rw [if_pos hk3,if_pos (by omega)]
      ·rw [if_neg hk3,if_neg (by omega)]
   ·rw [hj];rw [Int.toNat_natCast,zbn,List.getElem?_set,if_neg (by omega)];exact e2
   ·rw [show (l.length:Int)-1-((i:Int)+1)=(l.length:Int)-1-(i:Int)-1 by omega] at hk;rw [hj] at hk ⊢;rw [Int.toNat_natCast,Int.toNat_natCast];exact hk
  ·refine .inl fun k=>⟨fun h=>absurd (dt h) (by omega),fun _=>?_⟩;show l.reverse=s;refine List.ext_getElem? fun k=>?_
   by_cases hk:k<l.length
   ·rw [List.getElem?_reverse hk,h2 k hk];split
    ·rfl
    ·rw [show l.length-1-k=k by omega]
   ·rw [List.getElem?_eq_none (by simp;omega),List.getElem?_eq_none (by omega)]
 ·rintro s ⟨h1,h2⟩ k;refine ⟨fun h=>absurd (dt h) (by omega),fun _=>?_⟩;show l.reverse=s;refine List.ext_getElem? fun k=>?_
  by_cases hk:k<l.length
  ·rw [List.getElem?_reverse hk,h2 k hk,if_pos (by omega)]
  ·rw [List.getElem?_eq_none (by simp;omega),List.getElem?_eq_none (by omega)]
def mdA (q:Qb TPr):Smade_scantling_prefix_thing_search:=(q.1,q.2.1,q.2.2.1)
theorem wordA_in {S:Sch TPr} {acc:List (Qb TPr)} (h:GoodB S acc) {i:Nat} {q:Qb TPr} (hi:acc[i]?=some q) (hl:q.2.2.2.length≤1000):zt (acc.map mdA) (i:Int) q.2.2.2:=by
 have hM:∀(j:Nat) (x:Qb TPr),acc[j]?=some x→at? (acc.map mdA) (j:Int)=some (mdA x):=fun j x hx=>zoc (by rw [List.getElem?_map,hx];rfl);have:=run (P:=fun k (s:Int × List Int)=>zt.l1 (acc.map mdA) (zt.j1 q.2.2.2) k s.1 s.2) (fun s=>∃(j:Nat) (x:Qb TPr),s.1=(j:Int)∧acc[j]?=some x∧x.2.2.2++s.2.reverse=q.2.2.2) (fun s=>s.1.toNat) ?_ ((i:Int),[]) ⟨i,q,rfl,hi,by simp⟩
 ·exact this
 ·rintro ⟨v,out⟩ ⟨j,x,h1,hx,hwo⟩;simp only at h1 hwo;subst h1;have hlen:out.length≤1000:=by
   have:=congrArg List.length hwo;simp at this;omega
  rcases h.par j x hx with ⟨h0,hx0⟩ | ⟨p,q',h2,h3,h4,h5,_⟩
  ·subst h0;subst hx0;refine .inl fun k=>⟨_,hM 0 _ hx,fun h=>absurd (dt h) (by simp [mdA]),fun _=>?_⟩;refine ⟨out.reverse,rev_in hlen, ?_⟩;simpa using hwo.symm
  ·refine .inr ⟨((p:Int),out++[x.2.2.1]),⟨p,q',rfl,h4, ?_⟩,by simp only;omega,fun k hk=>⟨_,hM j x hx,fun _=>⟨_,hM j x hx,by simp;omega,_,hM j x hx, ?_⟩,fun h=>absurd (by simp [mdA,h2]) (df h)⟩⟩
   ·rw [← hwo,h5];simp
   ·simp only [mdA];rw [h2];exact hk
def SnA (kf:TPr→Str) (seen:List (Str × Bool)) (acc:List (Qb TPr)):Prop:=∀z,zd6 seen (kf z) false=hasQ acc z
theorem snA_put {kf:TPr→Str} (hinj:∀a b,kf a=kf b→a=b) {seen:List (Str × Bool)} {acc:List (Qb TPr)} (h:SnA kf seen acc) (x:TPr) (q:Int × Int × List Int):SnA kf (zfu seen (kf x) true) (acc++[(x,q)]):=fun z=>by
 rw [znp,h z,hasQ_app]
 by_cases hz:x=z
 ·subst hz;simp
 ·rw [if_neg (fun e=>hz (hinj _ _ e))];simp [hz]
theorem roundA {S:Sch TPr} {s_:SSpace_scantling_prefix_thing_search} {kf:TPr→Str} (hinj:∀a b,kf a=kf b→a=b) {i:Nat} {q0:Qb TPr} {acc:List (Qb TPr)} {seen:List (Str × Bool)} (hs:SnA kf seen acc)
  (hkey:∀e∈S.ways q0.1,s_.2.1 (e.2,kf e.2)) (hlen:acc.length+(S.ways q0.1).length≤2000000000) (X:List Smade_scantling_prefix_thing_search→List (Str × Bool)→Prop)
  (hX:∀seen',SnA kf seen' (rdB S i q0 acc)→X ((rdB S i q0 acc).map mdA) seen'):∃k,ze.l2 s_ (i:Int) (S.ways q0.1) X k (acc.map mdA) seen 0:=by
 have hlj:∀j,(((S.ways q0.1).take j).foldl (stB i q0.2.2.2) acc).length≤2000000000:=fun j=>by
  have h1:=znz i q0.2.2.2 ((S.ways q0.1).take j) acc;have h2:((S.ways q0.1).take j).length≤(S.ways q0.1).length:=by rw [List.length_take];omega
  omega
 refine zhe (P:=fun k (s:List Smade_scantling_prefix_thing_search × List (Str × Bool)) v=>ze.l2 s_ (i:Int) (S.ways q0.1) X k s.1 s.2 v) (S.ways q0.1).length
  (fun j s=>s.1=(((S.ways q0.1).take j).foldl (stB i q0.2.2.2) acc).map mdA∧SnA kf s.2 (((S.ways q0.1).take j).foldl (stB i q0.2.2.2) acc)) ?_ ?_ (acc.map mdA,seen) ⟨rfl,hs⟩
 ·rintro j ⟨ls,sn⟩ hj ⟨h1,h2⟩;simp only at h1 h2;subst h1;have hk:=hkey _ (List.getElem_mem hj);have hnext:((S.ways q0.1).take (j+1)).foldl (stB i q0.2.2.2) acc=stB i q0.2.2.2 (((S.ways q0.1).take j).foldl (stB i q0.2.2.2) acc) (S.ways q0.1)[j]:=by
   rw [List.take_succ_eq_append_getElem hj,List.foldl_append];rfl
  rw [hnext];have hlen2:=hlj j;have hll:(S.ways q0.1).length≤2000000000:=by omega
  generalize ((S.ways q0.1).take j).foldl (stB i q0.2.2.2) acc=A at *;cases hin:hasQ A (S.ways q0.1)[j].2
  ·refine .inr ⟨(A.map mdA++[((S.ways q0.1)[j].2,(i:Int),(S.ways q0.1)[j].1)],zfu sn (kf (S.ways q0.1)[j].2) true),⟨?_, ?_⟩,fun k h=>⟨fun _=>⟨_,zoc (List.getElem?_eq_getElem hj),kf (S.ways q0.1)[j].2,hk,fun _=>⟨by simp;omega,zh (by omega) (by omega),h⟩,fun hc=>?_⟩,fun h=>absurd (by omega) (df h)⟩⟩
   ·simp only [stB,hin,Bool.false_eq_true,if_false,List.map_append];rfl
   ·simp only [stB,hin,Bool.false_eq_true,if_false];exact snA_put hinj h2 _ _
   ·rw [h2,hin] at hc;cases hc
  ·refine .inr ⟨(A.map mdA,sn),⟨?_, ?_⟩,fun k h=>⟨fun _=>⟨_,zoc (List.getElem?_eq_getElem hj),kf (S.ways q0.1)[j].2,hk,fun hc=>?_,fun _=>⟨zh (by omega) (by omega),h⟩⟩,fun h=>absurd (by omega) (df h)⟩⟩
   ·simp only [stB,hin,if_true]
   ·simp only [stB,hin,if_true];exact h2
   ·rw [h2,hin] at hc;cases hc
 ·rintro ⟨ls,sn⟩ ⟨h1,h2⟩ k;simp only at h1 h2;rw [List.take_length] at h1 h2;subst h1;exact ⟨fun h=>absurd (dt h) (by omega),fun _=>hX sn h2⟩
def ziu (v:Int × List Int × Int × Option TPr):SFound_scantling_prefix_thing_search:=((v.1,v.2.1,[],0,0,0,v.2.2.1),v.2.2.2.getD ([],false))
theorem walkA_in {S:Sch TPr} {kf:TPr→Str} (hinj:∀a b,kf a=kf b→a=b) {KP:TPr × Str→Prop} {WP:TPr × List SOn_scantling_prefix_thing_search→Prop} {HP:TPr × Bool→Prop} {b:Int} (hb:b≤1000) {M:Nat} (hM:1+M*b.toNat≤2000000000) (h0:KP (S.start,kf S.start))
  (hh:∀(i:Nat) q,(i:Int)<b→(zdj S i)[i]?=some q→HP (q.1,S.hit q.1))
  (hw:∀(i:Nat) q,(i:Int)<b→(zdj S i)[i]?=some q→S.hit q.1=false→WP (q.1,S.ways q.1)∧(S.ways q.1).length≤M∧∀e∈S.ways q.1,KP (e.2,kf e.2)):
  ze (S.start,KP,WP,HP) b (ziu (zgr S b)):=by
 refine ⟨_,h0, ?_⟩;refine uptoK (P:=fun k (s:List Smade_scantling_prefix_thing_search × List (Str × Bool)) v=>ze.l1 (S.start,KP,WP,HP) b (ziu (zgr S b)) _ k ((0,[],[],0,0,0,0),([],false)) s.1 s.2 v) b.toNat
  (fun i s=>s.1=(zdj S i).map mdA∧SnA kf s.2 (zdj S i)∧zgr S b=verdB S b (b.toNat+1-i) i∧(zdj S i).length≤1+M*i) ?_ ?_ ([(S.start, -1,0)],_) ⟨rfl,fun z=>?_,rfl,by simp [zdj]⟩
 ·rintro i ⟨ls,sn⟩ k hi ⟨h1,h2,h3,h4⟩ hk;simp only at h1 h2 h3 h4;subst h1;have hib:(i:Int)<b:=by omega
  obtain ⟨f,hf⟩:∃f,b.toNat+1-i=f+1:=⟨b.toNat-i,by omega⟩;rw [hf] at h3;unfold verdB at h3;cases hq:(zdj S i)[i]? with
  | none=>
   rw [hq] at h3;simp only at h3;have hl:=List.getElem?_eq_none_iff.1 hq;refine ⟨fun h=>absurd (dt h) (by simp;omega),fun _=>?_⟩;show ziu _=_;rw [h3];simp [ziu]
  | some q=>
   rw [hq] at h3;simp only at h3;have hl:=(List.getElem?_eq_some_iff.1 hq).1;rw [if_neg (by omega)] at h3;have hMi:M*(i+1)≤M*b.toNat:=Nat.mul_le_mul_left _ (by omega);rw [Nat.mul_succ] at hMi;refine ⟨fun _=>⟨fun h=>absurd (dt h) (by omega),fun _=>⟨mdA q,zoc (by rw [List.getElem?_map,hq];rfl),_,hh i q hib hq,fun hhit=>?_,fun hno=>?_⟩⟩,fun h=>absurd (by simp;omega) (df h)⟩
   ·have hhit':S.hit q.1=true:=hhit;rw [if_pos hhit'] at h3;have hg:=ziy S i;have hwl:=hg.wlen i q hq;refine ⟨q.2.2.2,wordA_in hg hq (by omega),zh (by omega) (by omega), ?_⟩;rw [h3];rfl
   ·have hno':S.hit q.1=false:=hno;rw [if_neg (by rw [hno'];simp)] at h3;obtain ⟨w1,w2,w3⟩:=hw i q hib hq hno';refine ⟨_,w1,roundA (S:=S) (q0:=q) (kf:=kf) hinj h2 w3 (by omega) _ fun seen' hs'=>?_⟩;have hn:=zhs hq;refine ⟨zh (by omega) (by omega),hk (_,seen') ⟨by rw [hn],by rw [hn];exact hs', ?_, ?_⟩⟩
    ·rw [h3,show b.toNat+1-(i+1)=f by omega]
    ·rw [hn];have:=znz i q.2.2.2 (S.ways q.1) (zdj S i);unfold rdB;rw [Nat.mul_succ];omega
 ·rintro ⟨ls,sn⟩ ⟨h1,h2,h3,h4⟩ k;simp only at h1 h2 h3 h4;subst h1;rw [show b.toNat+1-b.toNat=0+1 by omega] at h3;unfold verdB at h3;cases hq:(zdj S b.toNat)[b.toNat]? with
  | none=>
   rw [hq] at h3;simp only at h3;have hl:=List.getElem?_eq_none_iff.1 hq;refine ⟨fun h=>absurd (dt h) (by simp;omega),fun _=>?_⟩;show ziu _=_;rw [h3];simp [ziu]
  | some q=>
   rw [hq] at h3;simp only at h3;have hl:=(List.getElem?_eq_some_iff.1 hq).1;rw [if_pos (by omega)] at h3;refine ⟨fun _=>⟨fun _=>?_,fun h=>absurd (by omega) (df h)⟩,fun h=>absurd (by simp;omega) (df h)⟩;rw [h3];rfl
 ·show zd6 (zfu [] (kf S.start) true) (kf z) false=_;rw [znp,zqr]
  by_cases hz:S.start=z
  ·subst hz;simp [zdj,hasQ]
  ·rw [if_neg (fun e=>hz (hinj _ _ e))];simp [zdj,hasQ,hz]
theorem keyN_low (l:List Int):∀c∈zjv l,32≤c.toNat∧c.toNat≤57∧c≠33∧c≠47:=by
 induction l with
 | nil=>intro c hc;simp [zjv] at hc
 | cons z l ih=>
  intro c hc;rw [zhp,List.mem_append,List.mem_cons] at hc;rcases hc with h | rfl | h
  ·have one:∀(n:Nat),∀c∈Lib.decDigits n,32≤c.toNat∧c.toNat≤57∧c≠33∧c≠47:=fun n c hc=>by
    have:=zpp _ c hc;exact ⟨by omega,this.2,(fun e=>by subst e;exact absurd this.1 (by decide)),fun e=>by subst e;exact absurd this.1 (by decide)⟩
   unfold Lib.itoa at h;split at h
   ·rcases List.mem_cons.1 h with h | h
    ·subst h;decide
    ·exact one _ c h
   ·exact one _ c h
  ·decide
  ·exact ih c h
theorem keyL_low (l:TS):∀c∈zk2 l,32≤c.toNat∧c.toNat≤57∧c≠33:=by
 induction l with
 | nil=>intro c hc;simp [zk2] at hc
 | cons s l ih=>
  intro c hc;rw [zir,List.mem_append,List.mem_cons] at hc;rcases hc with h | rfl | h
  ·have:=keyN_low _ c h;exact ⟨this.1,this.2.1,this.2.2.1⟩
  ·decide
  ·exact ih c h
theorem sm_nums {d:List SNode} {s:List SItem} (h2:Sm d s):∀x∈s,∀z∈zc5 x,InR .i64 z:=fun x hx z hz=>by
 obtain ⟨a,b,c,e⟩:=itR_all h2.rt.toROk (by have:=h2.len;omega) h2.txt h2.form x hx;simp only [zc5,List.mem_cons,List.not_mem_nil,or_false] at hz;rcases hz with rfl | rfl | rfl | rfl
 ·exact a
 ·exact b
 ·exact c
 ·exact e
theorem keyL_sm {d:List SNode} {l:TS} (hl:∀s∈l,Sm d s):(zk2 l).length≤88001*l.length:=zqy fun s hs=>⟨(hl s hs).short,sm_nums (hl s hs)⟩
theorem sets_Bytes_w {d:List SNode} {l:TS} (h:Rm d l) (hd:d.length≤1000):zi2 d l (bytS d l):=by
 have h1:=h.cls;have h2:=h.len;have ho:=once_few d l;exact ⟨_,zm7 h.sm (by omega) (by omega),_,sets_Once_in (by omega) (by omega),_,zop (by omega),rfl⟩
structure Mon (d:List SNode) (b:Int):Prop where
 rt:Rt d
 len:d.length≤24
 txt:Txt d
 lk:Lk d b
def keyA (x:TPr):Str:=if x.2=true then [33]++zk2 x.1 else zk2 x.1
theorem keyA_inj (x y:TPr) (h:keyA x=keyA y):x=y:=by
 obtain ⟨a,p⟩:=x;obtain ⟨b,q⟩:=y;cases p <;> cases q
 ·simp only [keyA,Bool.false_eq_true,if_false] at h;rw [keyL_inj h]
 ·exfalso;simp only [keyA,Bool.false_eq_true,if_false,if_true] at h;exact (keyL_low a 33 (by rw [h];simp)).2.2 rfl
 ·exfalso;simp only [keyA,Bool.false_eq_true,if_false,if_true] at h;exact (keyL_low b 33 (by rw [← h];simp)).2.2 rfl
 ·simp only [keyA,if_true] at h;rw [keyL_inj (List.append_cancel_left h)]
theorem zki {d:List SNode} {x:TPr} (ha:∀s∈x.1,Sm d s) (la:x.1.length≤1000000000):zfj x (keyA x):=by
 have k1:=keyL_sm ha;have hk:=sets_Key_in la fun s hs=>(ha s hs).short;refine ⟨fun h=>⟨_,hk,by simp;omega, ?_⟩,fun h=>⟨_,hk, ?_⟩⟩
 ·unfold keyA;rw [if_pos h]
 ·unfold keyA;rw [if_neg (by simp [h])]
theorem waysA_in {d:List SNode} {x:TPr} (h:Rm d x.1) (hd:d.length≤1000):zbe x d (zj1 d x):=by
 refine ⟨zhu d x.1,fun _=>zii h.sm (by have:=h.len;omega),_,sets_Bytes_w h hd, ?_⟩;have hbl:(bytS d x.1).length≤256:=bytC_len _;refine zhe (P:=fun k out v=>zbe.l1 x d (zhu d x.1) (bytS d x.1) _ k out v) (bytS d x.1).length (fun i out=>out=(zj1 d x).take i) ?_ ?_ _ (by simp)
 ·rintro i out hi rfl;have hc:=bytS_u8 (List.getElem_mem hi);have hi2:i<(zj1 d x).length:=by unfold zj1;rw [List.length_map];exact hi
  refine .inr ⟨_,rfl,fun n hk=>⟨fun _=>⟨_,zjp hi,_,zpd (h.on _ hc) hc, ?_,zh (by omega) (by omega), ?_⟩,fun h=>absurd (by omega) (df h)⟩⟩
  ·rw [List.length_take];simp;omega
  ·rw [List.take_succ_eq_append_getElem hi2] at hk;have e:(zj1 d x)[i]=((bytS d x.1)[i],(onS d (bytS d x.1)[i] x.1,x.2||zhu d x.1)):=by simp [zj1]
   rw [e] at hk;exact hk
 ·rintro out rfl n;refine ⟨fun h=>absurd (dt h) (by omega),fun _=>?_⟩;show zj1 d x=_;rw [List.take_of_length_le (by unfold zj1;rw [List.length_map];omega)]
theorem cutN_is {d:List SNode} {w:List Int} {i:Nat} (hi:i≤w.length) (he:zhu d (zfg d (w.take i))=true) (hno:∀j,j<i→zhu d (zfg d (w.take j))=false):cutN d w=some i:=by
 cases h:cutN d w with
 | none=>have:=cutN_none h i hi;rw [he] at this;cases this
 | some j=>
  obtain ⟨h1,h2,h3⟩:=zn4 h;rcases Nat.lt_trichotomy i j with hij | hij | hij
  ·have:=h3 i hij;rw [he] at this;cases this
  ·rw [hij]
  ·have:=hno j hij;rw [h2] at this;cases this
theorem cutN_no {d:List SNode} {w:List Int} (hno:∀j,j≤w.length→zhu d (zfg d (w.take j))=false):cutN d w=none:=by
 cases h:cutN d w with
 | none=>rfl
 | some j=>
  obtain ⟨h1,h2,_⟩:=zn4 h;have:=hno j h1;rw [h2] at this;cases this
theorem ze7 {d:List SNode} (h:Rt d) (hl:d.length≤24) {w:List Int} (hw:∀c∈w,InR .u8 c) (hn:w.length≤1000) (hr:∀i,i≤w.length→(∀j,j<i→zhu d (zfg d (w.take j))=false)→Rm d (zfg d (w.take i))):zcf d w (cutW d w):=by
 refine ⟨_,zj7 h.ne (by omega), ?_⟩;have yes:∀i,i≤w.length→zhu d (zfg d (w.take i))=true→(∀j,j<i→zhu d (zfg d (w.take j))=false)→cutW d w=(w.take i,true):=fun i hi he hno=>by
  unfold cutW;rw [cutN_is hi he hno]
 have ends:∀i,i≤w.length→(∀j,j<i→zhu d (zfg d (w.take j))=false)→zgi d (zfg d (w.take i)) (zhu d (zfg d (w.take i))):=fun i hi hno=>zii (hr i hi hno).sm (by have:=(hr i hi hno).len;omega);refine zhe (P:=fun k l v=>zcf.l1 d w (cutW d w) True k l v) w.length (fun i l=>l=zfg d (w.take i)∧∀j,j<i→zhu d (zfg d (w.take j))=false) ?_ ?_ _ ⟨by rw [List.take_zero,zmp],fun j hj=>by omega⟩
 ·rintro i l hi ⟨rfl,hno⟩;cases he:zhu d (zfg d (w.take i))
  ·have hE:=ends i (by omega) hno;rw [he] at hE;have hc:=hw _ (List.getElem_mem hi);have hsn:zfg d (w.take (i+1))=onS d w[i] (zfg d (w.take i)):=by rw [List.take_succ_eq_append_getElem hi,zf0]
   refine .inr ⟨zfg d (w.take (i+1)),⟨rfl,fun j hj=>?_⟩,fun k hk=>⟨false,hE,(fun h=>by cases h),fun _=>⟨fun h=>absurd (eq_of_beq h) (by omega),fun _=>⟨_,zjp hi,_,by rw [hsn];exact zpd ((hr i (by omega) hno).on _ hc) hc,zh (by omega) (by omega),hk⟩⟩⟩⟩;rcases Nat.lt_or_eq_of_le (Nat.le_of_lt_succ hj) with h | h
   ·exact hno j h
   ·rw [h];exact he
  ·have hE:=ends i (by omega) hno;rw [he] at hE;refine .inl fun k=>⟨true,hE,fun _=>⟨⟨by omega,by omega⟩,by rw [List.length_take];omega, ?_⟩,fun h=>by cases h⟩;rw [Int.toNat_natCast,yes i (by omega) he hno]
 ·rintro l ⟨rfl,hno⟩ k;have hE:=ends w.length (Nat.le_refl _) hno;refine ⟨_,hE,fun he=>⟨⟨by omega,by omega⟩,by rw [List.length_take];omega, ?_⟩,fun he=>⟨fun _=>?_,fun hc=>by simp at hc⟩⟩
  ·rw [Int.toNat_natCast,yes _ (Nat.le_refl _) he hno]
  ·unfold cutW;rw [cutN_no fun j hj=>?_];rcases Nat.lt_or_eq_of_le hj with h | h
   ·exact hno j h
   ·rw [h];exact he
theorem walk_pre {d:List SNode} {b:Int} (h:Mon d b) (hb:b≤1000):
  ze (([stS d],false),(fun q_=>zfj q_.1 q_.2),(fun q_=>zbe q_.1 d q_.2),(fun q_=>zdz q_.1 d q_.2)) b (ziu (zgr (znf d) b)):=by
 have hl:=h.len;have hst:=zlo h.rt h.len h.txt (w:=[]) (fun c hc=>by cases hc) (u:=stS d) (by rw [zmp];simp);refine walkA_in (S:=znf d) (kf:=keyA) keyA_inj hb (M:=256) (by omega) (zki (d:=d) (x:=([stS d],false)) (fun s hs=>by rw [List.mem_singleton.1 hs];exact hst.1) (by simp)) (fun i q hi hq=>?_) fun i q hi hq _=>?_
 ·have r1:=accA_rm h.lk hq hi;exact ⟨zhu d q.1.1,fun _=>zii r1.sm (by have:=r1.len;show q.1.1.length≤_;omega),rfl⟩
 ·have r1:=accA_rm h.lk hq hi;obtain ⟨q1,q2,q3⟩:=zrk hq;refine ⟨waysA_in r1 (by omega),waysA_len _ _,fun x hx=>?_⟩;obtain ⟨e1,e2⟩:=zne d q.1 x.1 x.2 hx;have hu:∀c∈q.2.2.2++[x.1],InR .u8 c:=fun c hc=>(List.mem_append.1 hc).elim (q2 c) fun h=>by rw [List.mem_singleton.1 h];exact e1
  have ea:onS d x.1 q.1.1=zfg d (q.2.2.2++[x.1]):=by rw [zf0,q1]
  have oa:=r1.out _ e1;rw [e2];rw [ea] at oa ⊢;exact zki (fun s hs=>(zlo h.rt h.len h.txt hu hs).1) oa
def verA (d:List SNode) (b:Int):SVerdict:=if (zgr (znf d) b).1=2 then (2,(cutW d (zgr (znf d) b).2.1).1,(zgr (znf d) b).2.1,0,0,0,(zgr (znf d) b).2.2.1) else ((zgr (znf d) b).1,(zgr (znf d) b).2.1,[],0,0,0,(zgr (znf d) b).2.2.1)
theorem ze9 {d:List SNode} {b:Int} (h:Mon d b) (hb:b≤1000):zcr d b (verA d b):=by
 have hl:=h.len;refine ⟨_,zj7 h.rt.ne (by omega),_,walk_pre h hb,fun hk=>?_,fun hk=>?_⟩
 ·have k2:(zgr (znf d) b).1=2:=by simpa [ziu] using hk
  have ho:=srchB_out (znf d) b;obtain ⟨_,p2,_⟩:=pre_least h.rt h.len h.txt ho;obtain ⟨u1,_,_,_⟩:=p2 k2;have ul:=ho.len.2 k2;refine ⟨_,ze7 h.rt h.len u1 (show (zgr (znf d) b).2.1.length≤1000 by omega) (fun i _ _=>rm_pre h.lk u1 (.inl ul) i), ?_⟩;unfold verA;rw [if_pos k2];simp [ziu,k2]
 ·have k2:(zgr (znf d) b).1≠2:=by simpa [ziu] using hk
  unfold verA;rw [if_neg k2];simp [ziu]
def gDot:List SNode:=[(2,0,0,0,0,Cl.row 0 255,([]:Str))]
def gTwo:List SNode:=zjr 4 gDot gDot
def gOr:List SNode:=zjr 5 gDot gTwo
theorem zln:Rt gDot:=leaf_rt (.inr rfl) ⟨rfl,rfl⟩
theorem zq7:Rt gTwo:=pair_rt zln zln (.inl rfl)
theorem gOr_rt:Rt gOr:=pair_rt zln zq7 (.inr rfl)
def preH (d:List SNode):Sch TPr:=⟨([stS d],false),fun x=>((zf9 (zmm d x.1)).map fun n:Nat=>(n:Int)).map fun c=>(c,(onS d c x.1,x.2||zhu d x.1)),fun x=>x.2&&zhu d x.1⟩
theorem pre_H (d:List SNode):znf d=preH d:=by
 unfold znf preH zj1 bytS
 congr 1
 funext x;rw [zn9]
def zoh (d:List SNode) (b:Int):SVerdict:=if (zgr (preH d) b).1=2 then (2,(cutW d (zgr (preH d) b).2.1).1,(zgr (preH d) b).2.1,0,0,0,(zgr (preH d) b).2.2.1) else ((zgr (preH d) b).1,(zgr (preH d) b).2.1,[],0,0,0,(zgr (preH d) b).2.2.1)
theorem verA_H (d:List SNode) (b:Int):verA d b=zoh d b:=by unfold verA zoh;rw [pre_H]
theorem mon_heavy {d:List SNode} (h:Rt d) (l:d.length≤17) (t:Txt d) {b:Int} (hb:b≤10):Mon d b:=⟨h,by omega,t,lk_heavy h l t hb⟩
theorem awake21:zgn true:=by
 have u8:∀c:Int,0≤c∧c≤255→InR .u8 c:=fun c h=>zex.2 h;have tOr:Txt gOr:=small_txt (by decide +kernel);have tTwo:Txt gTwo:=small_txt (by decide +kernel);have mOr:Mon gOr 9:=mon_heavy gOr_rt (by decide +kernel) tOr (by decide);have mTwo:∀b:Int,b≤10→Mon gTwo b:=fun b hb=>mon_heavy zq7 (by decide +kernel) tTwo hb;obtain ⟨m1,w1⟩:∃m,zcr gOr 9 (2,[0],[0,0],0,0,0,m):=by
  have:=ze9 mOr (by decide);exact ⟨(zoh gOr 9).2.2.2.2.2.2,by rwa [verA_H,show zoh gOr 9=(2,[0],[0,0],0,0,0,(zoh gOr 9).2.2.2.2.2.2) by decide +kernel] at this⟩
 obtain ⟨m2,w2⟩:∃m,zcr gTwo 9 (1,[],[],0,0,0,m):=by
  have:=ze9 (mTwo 9 (by decide)) (by decide);exact ⟨(zoh gTwo 9).2.2.2.2.2.2,by rwa [verA_H,show zoh gTwo 9=(1,[],[],0,0,0,(zoh gTwo 9).2.2.2.2.2.2) by decide +kernel] at this⟩
 have w4:zcr gTwo 1 (3,[],[],0,0,0,1):=by
  have:=ze9 (mTwo 1 (by decide)) (by decide)
  rwa [verA_H,show zoh gTwo 1=(3,[],[],0,0,0,1) by decide +kernel] at this
 have w5:zcr gTwo (-1) (3,[],[],0,0,0,0):=by
  have:=ze9 (mTwo (-1) (by decide)) (by decide)
  rwa [verA_H,show zoh gTwo (-1)=(3,[],[],0,0,0,0) by decide +kernel] at this
 have u789:∀c∈[(7:Int),8,9],InR .u8 c:=fun c hc=>by
  simp only [List.mem_cons,List.not_mem_nil,or_false] at hc;rcases hc with rfl | rfl | rfl <;> exact u8 _ (by decide)
 have u7:∀c∈[(7:Int)],InR .u8 c:=fun c hc=>by rw [List.mem_singleton.1 hc];exact u8 _ (by decide)
 have c1:zcf gOr [7,8,9] ([7],true):=by
  have:=ze7 gOr_rt (by decide +kernel) u789 (by decide) fun i _ _=>rm_pre mOr.lk u789 (.inr (by decide)) i
  rwa [show cutW gOr [7,8,9]=([7],true) by decide +kernel] at this
 have c2:zcf gTwo [7] ([],false):=by
  have:=ze7 zq7 (by decide +kernel) u7 (by decide) fun i _ _=>rm_pre (mTwo 9 (by decide)).lk u7 (.inr (by decide)) i
  rwa [show cutW gTwo [7]=([],false) by decide +kernel] at this
 refine ⟨Cl.row 0 255,zij (u8 0 (by decide)) (u8 255 (by decide)),gTwo,Pair_in zln.tr zln.tr (by decide) (by decide),gOr,Pair_in zln.tr zq7.tr (by decide) (by decide +kernel),_,w1,_,w2,_,c1,_,c2,_,fun _=>zeo (show (1:Nat)<_ by decide),_,fun _=>zeo (show (2:Nat)<_ by decide),_,rfl,_,fun _=>w4,_,fun _=>w5,_,fun _=>zeo (by decide),_,rfl, ?_⟩;simp
theorem few21 {d:List SNode} (ht:Txt d):∃r,zko d r∧(r=true→FewD d):=few_of ht
theorem law21_PrefixCut_true {d:List SNode} {w more:List Int} (ht:Txt d) (hw:∀c∈w,InR .u8 c) (hm:∀c∈more,InR .u8 c):z7 d w more true:=by
 obtain ⟨r4,h4,k4⟩:=few21 ht;refine ⟨true,awake21,r4,fun _=>h4,_,rfl,fun _=>⟨true,awake21,rfl⟩,fun hc=>?_⟩;simp only [Bool.not_true,Bool.false_or,Bool.or_eq_false_iff,Bool.not_eq_false',decide_eq_false_iff_not] at hc;obtain ⟨⟨g1,g2⟩,g3⟩:=hc;have f:=k4 g1;have l1:=f.len;have hrm:∀v:List Int,(∀c∈v,InR .u8 c)→v.length≤9→Rm d (zfg d v):=fun v hv hl=>rm_heavy f.rt (by omega) ht hv hl;have htk:∀(v:List Int),(∀c∈v,InR .u8 c)→∀i,∀c∈v.take i,InR .u8 c:=fun v hv i c hc=>hv c (List.mem_of_mem_take hc);have e1:∀w:List Int,(decide (0<(sat (zb1 d ((d.length:Int)-1) w))))=zhu d (zfg d w):=fun w=>(ends_ways d w).symm;have e0:∀w:List Int,(sat (zb1 d ((d.length:Int)-1) w)==(0:Int)) = !zhu d (zfg d w):=fun w=>by
  rw [← e1,Bool.eq_iff_iff,beq_iff_eq,Bool.not_eq_true',decide_eq_false_iff_not];unfold sat;omega
 have c1:=ze7 f.rt (by omega) hw (by omega) fun i hi _=>hrm _ (htk w hw i) (by rw [List.length_take];omega);have loop:∀(n:Nat) (q:List Int × Bool),n≤w.length+1→(∀i,i<n→zhu d (zfg d (w.take i))=false)→z7.j1 true q→z7.j2 d w true q (n:Int):=fun n q hn hno hj=>by
  refine zhe (P:=fun k (_:Unit) v=>z7.l1 d w (n:Int) true _ k v) n (fun _ _=>True) ?_ ?_ () trivial
  ·intro i _ hi _;refine .inr ⟨(),trivial,fun k hk=>⟨fun _=>⟨⟨by omega,by omega⟩,_,zkd f.rt (by omega) ht (by rw [List.length_take];omega) (htk w hw _),fun h0=>?_,fun _=>⟨zh (by omega) (by omega),hk⟩⟩,fun h=>absurd (by omega) (df h)⟩⟩;rw [e1,Int.toNat_natCast,hno i hi] at h0;cases h0
  ·intro _ _ k;exact ⟨fun h=>absurd (dt h) (by omega),fun _=>hj⟩
 cases hcn:cutN d w with
 | none=>
  have hno:=cutN_none hcn;have ec:cutW d w=([],false):=by unfold cutW;rw [hcn]
  rw [ec] at c1;refine ⟨_,c1,zh (by omega) (by omega),(fun h=>by cases h),fun _=>?_⟩;have:=loop (w.length+1) ([],false) (Nat.le_refl _) (fun i hi=>hno i (by omega)) (by show true=_;simp);simpa using this
 | some i0=>
  obtain ⟨i1,i2,i3⟩:=zn4 hcn;have ec:cutW d w=(w.take i0,true):=by unfold cutW;rw [hcn]
  rw [ec] at c1;have hl0:(w.take i0).length=i0:=by rw [List.length_take];omega
  have hb:∀c∈w++more,InR .u8 c:=fun c hc=>(List.mem_append.1 hc).elim (hw c) (hm c);have htake:∀i,i≤w.length→(w++more).take i=w.take i:=fun i hi=>List.take_append_of_le_length hi;have hcn2:cutN d (w++more)=some i0:=cutN_is (by rw [List.length_append];omega) (by rw [htake i0 i1];exact i2) fun j hj=>by rw [htake j (by omega)];exact i3 j hj
  have c2:=ze7 f.rt (by omega) hb (by rw [List.length_append];omega) fun i hi hno=>by
   have hii:i≤i0:=by
    rcases Nat.lt_or_ge i0 i with h | h
    ·have:=hno i0 h;rw [htake i0 i1,i2] at this;cases this
    ·exact h
   exact hrm _ (htk _ hb i) (by rw [List.length_take];omega)
  have ec2:cutW d (w++more)=(w.take i0,true):=by unfold cutW;rw [hcn2];simp only;rw [htake i0 i1]
  rw [ec2] at c2;have p1:decide ((w.length:Int)<((w.take i0).length:Int))=false:=decide_eq_false (by omega);refine ⟨_,c1,zh (by omega) (by omega),fun _=>⟨fun _=>⟨by omega,by simp only;omega⟩,true,fun _=>?_,false, ?_,_,fun _=>zkd f.rt (by omega) ht (show (w.take i0).length≤1000 by omega) (htk w hw i0),fun h=>?_,fun _=>⟨by simp;omega,by simp;omega,(w.take i0,true),by rw [List.nil_append];exact c2,true,fun _=>?_,(fun h=>by cases h),fun _=>?_⟩⟩,(fun h=>by cases h)⟩
  ·simp only;rw [hl0,Int.toNat_natCast];have:=zeo (a:=w.take i0) (b:=w.take i0) (by omega);simpa using this
  ·simp only;rw [p1];rfl
  ·rw [Bool.false_or,e0] at h;simp only at h;rw [i2] at h;cases h
  ·have:=zeo (a:=w.take i0) (b:=w.take i0) (by omega);simpa using this
  ·simp only;rw [hl0];exact loop i0 (w.take i0,true) (by omega) i3 (by show true=_;simp)
open Go.ChangeShapes Go.WideShapes Go.RowKit
structure Rd (P:Program) (t:TypeId) {α:Type} (E:En α) (G:α→Prop):Prop where
 sz:P.cellsOf t=E.sz
 rd:∀{H:Type} (enc:TypeId × Value→H) (w:World) (fuel:Nat) (cs:List Value) (x:DataW H × List MemPlace),
  DataW.trod enc P w 0 (fun _=>true) true fuel t cs=some x→(∀n∈x.1.weights P t,n≤reachBytes)→∃y,E.R w (fun b=>b<w.heap.size) cs y∧G y
 vl:∀(w:World) (v:Value),Value.okWide P w .any 0 t v→(∃y,E.R w (fun b=>b<w.heap.size) v.cells.toList y)→v=E.val v.cells.toList
theorem Rd.int {P:Program} {t:TypeId} {k:IntKind} (ht:P.underlying t=some (.int k)) (hc:P.cellsOf t=1):Rd P t (En.int k) (InR k):=by
 refine ⟨hc, ?_, ?_⟩
 ·intro H enc w fuel cs x h _;obtain ⟨n,rfl,_,hw⟩:=DataW.trod_int ht h;have:InR k n:=by simpa [Lit.wf,InR] using hw
  exact ⟨n,⟨rfl,this⟩,this⟩
 ·intro w v hv _;obtain ⟨n,rfl⟩:=okWide_int ht hv;rfl
theorem Rd.str {P:Program} {t:TypeId} (ht:P.underlying t=some .string) (hc:P.cellsOf t=1):Rd P t En.str (fun y=>y.length≤140737488351232):=by
 refine ⟨hc, ?_, ?_⟩
 ·intro H enc w fuel cs x h hwt;obtain ⟨s,rfl,hx,hs⟩:=DataW.trod_string ht h;have hl:s.data.toList.length≤9223372036854775807:=by simpa [maxLen] using hs
  have h2:s.data.toList.length≤140737488351232:=hwt _ (by rw [hx];simp [DataW.weights]);exact ⟨s.data.toList,⟨rfl,hl⟩,h2⟩
 ·intro w v hv _;simp only [Value.okWide,ht,Cell.okWide,Cell.ok] at hv;cases v <;> simp at hv;rfl
theorem zmt {H:Type} {P:Program} {e:TypeId}:∀{l:List (DataW H)} {d:DataW H},d∈l→∀n∈d.weights P e,n∈DataW.weightsAll P e l
 | [],_,h,_,_=>by cases h
 | d'::l,d,h,n,hn=>by
  simp only [DataW.weightsAll,List.mem_append];rcases List.mem_cons.1 h with rfl | h
  ·exact .inl hn
  ·exact .inr (zmt h n hn)
theorem Rd.slice {P:Program} {t e:TypeId} {α:Type} {E:En α} {G:α→Prop} (ht:P.underlying t=some (.slice e)) (hc:P.cellsOf t=1) (hby:Nat.blt 0 (P.bytesOf e)=true) (he:Rd P e E G):
  Rd P t (En.slice E) (fun xs=>xs.length≤140737488351232∧∀y∈xs,G y):=by
 refine ⟨hc, ?_, ?_⟩
 ·intro H enc w fuel cs x h hwt;rcases Deep.open_slice ht h with ⟨rfl,_⟩ | ⟨a,len,cap,m,n,D,Pl,rfl,hb,hl,hm,hmm,hxe,hx⟩
  ·exact ⟨[],⟨_,rfl,zej E _ _⟩,Nat.zero_le _,by simp⟩
  ·simp only [if_true] at hmm;subst hmm;have hall:∀i,i<len→∃p:α × List Value,w.cells? 0 (a.add (i*P.cellsOf e)) (P.cellsOf e)=some p.2∧E.R w (fun b=>b<w.heap.size) p.2 p.1∧G p.1:=fun i hi=>by
    obtain ⟨cs',h1,h2⟩:=hx i (by omega);obtain ⟨y,h3,h4⟩:=he.rd enc w n cs' _ h2 fun q hq=>hwt q (by
     rw [hxe];simp only [DataW.weights,ht,List.mem_cons,List.mem_append];exact .inr (.inl (zmt (List.mem_map.2 ⟨i,by simpa using hi,rfl⟩) q hq)))
    exact ⟨(y,cs'),h1,h3,h4⟩
   have hmax2:len≤140737488351232:=by
    have h1:=hwt ((len+(m-len))*P.bytesOf e) (by rw [hxe];simp [DataW.weights,ht]);have h2:0<P.bytesOf e:=Nat.le_of_ble_eq_true hby;have h3:(len+(m-len))*1≤(len+(m-len))*P.bytesOf e:=Nat.mul_le_mul_left _ h2;have h4:reachBytes=140737488351232:=rfl;omega
   have hmax:len≤lim:=by have:maxLen≤lim:=by decide
                         omega
   by_cases h0:len=0
   ·subst h0;exact ⟨[],⟨_,rfl,some a,m,rfl,Nat.zero_le _,(fun h=>by cases h),Nat.zero_le _,fun h=>absurd rfl h⟩,Nat.zero_le _,by simp⟩
   have hinh:Inhabited (α × List Value):=⟨(hall 0 (by omega)).choose⟩;obtain ⟨f,hf⟩:=Deep.choose_lt hall;have hsz:=E.pos;rw [← he.sz] at hsz;obtain ⟨hcell0,hblk⟩:a.spot=none∧a.block<w.heap.size:=by
    obtain ⟨_,hl2,hcl⟩:=World.cells?_some (hf 0 (by omega)).1;have h2:=hcl 0 hsz;rw [List.getElem?_eq_getElem (by omega)] at h2;simp only [Nat.zero_mul,Addr.add,if_true,World.cell?] at h2;cases hb2:w.heap[a.block]? with
    | none=>simp [hb2] at h2
    | some o=>
     refine ⟨?_,(Array.getElem?_eq_some_iff.1 hb2).1⟩;cases o <;> simp [hb2] at h2;exact h2.1
   refine ⟨(List.range len).map (fun i=>(f i).1),⟨_,rfl,some a,m, ?_,by simpa using hl,(fun h=>by cases h),by simpa using hmax,fun _=>⟨a.block,a.off,(List.range len).map (fun i=>(f i).2), ?_,hblk,⟨by simp, ?_⟩, ?_⟩⟩,by simpa using hmax2, ?_⟩
   ·simp
   ·cases a;simp at hcell0;subst hcell0;rfl
   ·intro i c y hc1 hy1;have hi:i<len:=by have:=(List.getElem?_eq_some_iff.1 hc1).1;simpa using this
    simp [hi] at hc1 hy1;subst hc1;subst hy1;exact (hf i hi).2.1
   ·have hlens:∀c∈(List.range len).map (fun i=>(f i).2),c.length=E.sz:=by
     intro c hc;simp only [List.mem_map,List.mem_range] at hc;obtain ⟨i,hi,rfl⟩:=hc;rw [(World.cells?_some (hf i hi).1).2.1,he.sz]
    intro j u hj;have hjl:j<len*E.sz:=by
     have:=(List.getElem?_eq_some_iff.1 hj).1;rw [zga hlens] at this;simpa using this
    have hp:0<E.sz:=E.pos;have hi:j / E.sz<len:=Nat.div_lt_of_lt_mul (by rw [Nat.mul_comm];exact hjl);have hk:j % E.sz<E.sz:=Nat.mod_lt _ hp;obtain ⟨_,hl2,hcl⟩:=World.cells?_some (hf _ hi).1;have hcell:=hcl (j % E.sz) (by rw [he.sz];exact hk);rw [he.sz] at hl2;have hg:=zjd hlens (i:=j / E.sz) (cs:=(f (j / E.sz)).2) (j:=j % E.sz) (u:=(f (j / E.sz)).2[j % E.sz]'(by omega)) (by simp [hi]) (by simp);rw [Nat.mul_comm,Nat.div_add_mod] at hg;rw [hg] at hj;rw [List.getElem?_eq_getElem (by omega),hj,Deep.add_add,he.sz,Nat.mul_comm,Nat.div_add_mod] at hcell;rw [← hcell];cases a;simp at hcell0;subst hcell0;rw [zek]
   ·intro y hy;simp only [List.mem_map,List.mem_range] at hy;obtain ⟨i,hi,rfl⟩:=hy;exact (hf i hi).2.2
 ·intro w v hv _;simp only [Value.okWide,ht,Cell.okWide,Cell.ok] at hv;cases v <;> simp at hv;rfl
theorem u64_word {n:Int} (h:InR .u64 n):∃m:Nat,m<2 ^ 64∧n=m:=by
 simp [InR,IntKind.min,IntKind.max,IntKind.signed,IntKind.bits] at h;exact ⟨n.toNat,by omega,by omega⟩
theorem Rd.cls {P:Program} {t e:TypeId} (ht:P.underlying t=some (.array 4 e)) (hc:P.cellsOf t=4) (he:P.underlying e=some (.int .u64)) (hce:P.cellsOf e=1):Rd P t En.cls (fun _=>True):=by
 refine ⟨hc, ?_, ?_⟩
 ·intro H enc w fuel cs x h _;obtain ⟨xs,m,rfl,rfl,hlen,hn,hx⟩:=DataW.trod_array ht h;rw [hc] at hlen
  match cs,hlen with
  | [u0,u1,u2,u3],_=>
   have hx':∀i (hi:i<4) u,[u0,u1,u2,u3][i]?=some u→∃q:Nat,q<2 ^ 64∧u = .int .u64 q:=by
    intro i hi u hu;have h1:=hx i hi;rw [hce,Nat.mul_one,List.getElem?_eq_getElem (by omega)] at h1;have h2:List.take 1 (List.drop i [u0,u1,u2,u3])=[u]:=by
     match i,hi with
     | 0,_ | 1,_ | 2,_ | 3,_=>simp at hu;subst hu;rfl
    rw [h2] at h1;obtain ⟨n,h3,_,h4⟩:=DataW.trod_int he h1;obtain ⟨q,hq,rfl⟩:=u64_word (n:=n) (by simpa [Lit.wf,InR] using h4);simp at h3;exact ⟨q,hq,h3⟩
   obtain ⟨q0,h0,rfl⟩:=hx' 0 (by omega) u0 rfl;obtain ⟨q1,h1,rfl⟩:=hx' 1 (by omega) u1 rfl;obtain ⟨q2,h2,rfl⟩:=hx' 2 (by omega) u2 rfl;obtain ⟨q3,h3,rfl⟩:=hx' 3 (by omega) u3 rfl;refine ⟨Cl.ofWords q0 q1 q2 q3, ?_,trivial⟩;obtain ⟨e0,e1,e2,e3⟩:=Cl.ofWords_word h0 h1 h2 h3;show _=zbu _;unfold zbu;rw [e0,e1,e2,e3]
 ·intro w v hv _;simp only [Value.okWide,ht] at hv;obtain ⟨cs,rfl,_⟩:=hv;simp [En.val,En.cls,Value.cells]
structure RdF (P:Program) (fs:List Field) (o:Nat) {α:Type} (E:En α) (G:α→Prop):Prop where
 rd:∀{H:Type} (enc:TypeId × Value→H) (w:World) (fuel:Nat) (cs:List Value) (xs:List (DataW H × List MemPlace)),xs.length=fs.length →
  (∀(i:Nat) (f:Field),fs[i]?=some f→DataW.trod enc P w 0 (fun _=>true) true fuel f.type ((cs.drop f.offset).take (P.cellsOf f.type))=xs[i]?) →
  (∀n∈DataW.weightsEach P (fs.map (·.type)) (xs.map (·.1)),n≤reachBytes)→∃y,E.R w (fun b=>b<w.heap.size) ((cs.drop o).take E.sz) y∧G y
theorem RdF.last {P:Program} {f:Field} {o:Nat} {α:Type} {E:En α} {G:α→Prop} (h:Rd P f.type E G) (ho:f.offset=o):RdF P [f] o E G:=⟨by
 intro H enc w fuel cs xs hl hx hw;obtain ⟨x,rfl⟩:∃x,xs=[x]:=List.length_eq_one_iff.1 hl;have h1:=hx 0 f rfl;rw [ho,h.sz] at h1;exact h.rd enc w fuel _ x h1 fun n hn=>hw n (by simp [DataW.weightsEach,hn])⟩
theorem RdF.solo {P:Program} {fs:List Field} {o:Nat} {α:Type} {E:En α} {G:α→Prop} (h:RdF P fs o E G):RdF P fs o E.solo G:=⟨h.rd⟩
theorem zoi {xs:List Value} {o m n:Nat}:(xs.drop o).take (m+n)=(xs.drop o).take m++(xs.drop (o+m)).take n:=by
 rw [List.take_add,List.drop_drop]
theorem RdF.cons {P:Program} {f:Field} {fs:List Field} {o:Nat} {α β:Type} {E:En α} {F:En β} {G:α→Prop} {K:β→Prop} (h:Rd P f.type E G) (ho:f.offset=o) (hr:RdF P fs (o+E.sz) F K):RdF P (f::fs) o (E.cat F) (fun x=>G x.1∧K x.2):=⟨by
 intro H enc w fuel cs xs hl hx hw;obtain ⟨x,xs',rfl⟩:∃x xs',xs=x::xs':=by
  cases xs with
  | nil=>simp at hl
  | cons x xs'=>exact ⟨x,xs',rfl⟩
 have h1:=hx 0 f rfl;rw [ho,h.sz] at h1;obtain ⟨y,hy1,hy2⟩:=h.rd enc w fuel _ x h1 fun n hn=>hw n (by simp [DataW.weightsEach,hn]);obtain ⟨z,hz1,hz2⟩:=hr.rd enc w fuel cs xs' (by simpa using hl) (fun i g hg=>by have:=hx (i+1) g (by simpa using hg);simpa using this) fun n hn=>hw n (by
  simp only [List.map_cons,DataW.weightsEach,List.mem_append];exact .inr hn)
 exact ⟨(y,z),⟨_,_,zoi,hy1,hz1⟩,hy2,hz2⟩⟩
theorem Rd.struct {P:Program} {t:TypeId} {fs:Array Field} {α:Type} {E:En α} {G:α→Prop} (ht:P.underlying t=some (.struct fs)) (ha:E.agg=true) (hc:P.cellsOf t=E.sz) (h:RdF P fs.toList 0 E G):Rd P t E G:=by
 refine ⟨hc, ?_, ?_⟩
 ·intro H enc w fuel cs x hx hw;obtain ⟨xs,n,rfl,rfl,hlen,hxl,hf⟩:=DataW.trod_struct ht hx;obtain ⟨y,hy1,hy2⟩:=h.rd enc w n cs xs (by simpa using hxl) (fun i f hi=>hf i f (by simpa using hi)) fun q hq=>hw q (by
   simp only [DataW.weights,ht];exact hq)
  rw [List.drop_zero,List.take_of_length_le (by rw [hlen,hc];exact Nat.le_refl _)] at hy1;exact ⟨y,hy1,hy2⟩
 ·intro w v hv _;obtain ⟨cs,rfl,_⟩:=okWide_struct ht hv;unfold En.val;rw [ha];simp [Value.cells]
theorem Rd.open {P:Program} {t:TypeId} {α:Type} {E:En α} {G:α→Prop} (hr:Rd P t E G) {H:Type} {enc:TypeId × Value→H} {W:World} {v:Value} {d:DataW H} {p:List MemPlace}
  (hv:Value.okWide P W .any 0 t v) (hd:DataW.Trod enc P W 0 (fun _=>true) true t v d p) (hw:∀n∈d.weights P t,n≤reachBytes):∃y,(Pd.rep E y).p ⟨W,fun _=>False,fun _ h=>h.elim⟩ v∧G y:=by
 obtain ⟨fuel,h⟩:=hd;obtain ⟨y,hy,hg⟩:=hr.rd enc W fuel _ _ h hw;refine ⟨y,⟨v.cells.toList,hr.vl W v hv ⟨y,hy⟩, ?_⟩,hg⟩;exact E.mono (fun b hb=>⟨hb,fun h=>h⟩) hy
theorem Ex.below {s s':St} (h:Ex s s'):Below s.w.heap.size s.w s'.w:=⟨h.mv.os,h.mv.tape,h.mv.output,h.mv.size,fun k hk=>h.mv.blk k hk (fun h=>h)⟩
theorem okWide_any {P:Program} {W:World} {b:Nat} {t:TypeId} {v:Value} (h:Value.okWide P W .any b t v):Value.okWide P W .any 0 t v:=by
 unfold Value.okWide Row.okWide Cell.okWide Cell.ok World.has at *;exact h
section
variable {H : Type} {enc : TypeId × Value → H} {P : Program}
theorem stays {W W':World} (hl:laidOutB P=true) (hb:Below W.heap.size W W') {sp:Nat→Bool}:∀{ts:List TypeId} {vs:List Value} {ds:List (DataW H)} {ps:List MemPlace},
  (ts.all fun t=>P.readableRec t&&decide (t<P.types.size))=true→DataW.TrodAll enc P W 0 (fun _=>true) true ts vs ds ps→(∀p∈ps,p.block<W.heap.size)→(∀p∈ps,sp p.block=true) →
  DataW.TrodAll enc P W' 0 sp true ts vs ds ps
 | [],vs,ds,ps,_,h,_,_=>by
  obtain ⟨rfl,rfl,rfl⟩:=trodAll_nil h;exact trodAll_mk0
 | t::ts,vs,ds,ps,ha,h,hlt,hsp=>by
  obtain ⟨v,vs',d,ds',p,q,rfl,rfl,rfl,h1,h2⟩:=trodAll_cons h;simp only [List.all_cons,Bool.and_eq_true,decide_eq_true_eq] at ha;refine trodAll_cons_mk (WideElems.Trod_stays hl ha.1.1 ha.1.2 h1 (fun x hx=>hb.same (hlt x (List.mem_append_left _ hx))) fun x hx=>hsp x (List.mem_append_left _ hx)) ?_;exact stays hl hb (by simpa using ha.2) h2 (fun x hx=>hlt x (List.mem_append_right _ hx)) fun x hx=>hsp x (List.mem_append_right _ hx)
theorem post_law {f:Func} {s:ChangeSpec} {apart fresh handsOn again:Bool} {W W':World} {args:Array Value} {v:Value} {ds gs:List (DataW H)} {before:List MemPlace} {tb:TypeId}
  (hW:DataW.Whole enc P f.params.toList s.vars apart W args.toList ds gs before) (hb:Below W.heap.size W W') (hl:laidOutB P=true)
  (hrd:(f.params.toList.all fun t=>P.readableRec t&&decide (t<P.types.size))=true) (hs:s.vars=[]) (hrt:f.resultTypes = #[tb]) (hub:P.underlying tb=some .bool) (hv:v = .bool true)
  (hres:(s.fn H (ds++gs)).results=[.lit (.bool true)]) (hargs:(s.fn H (ds++gs)).args=ds) (hvars:(s.fn H (ds++gs)).vars=[]):s.post enc P f apart fresh handsOn again W args v W':=by
 subst hv;have hlt:=hW.lt;have hW':=hW;obtain ⟨p,q,hA,hV,rfl,hz,hn⟩:=hW;rw [hs] at hV;obtain ⟨rfl,rfl⟩:=trodVars_none hV;have hsub:∀x∈p,x∈p++([]:List MemPlace):=fun x hx=>by simpa using hx
 have harg:∀sp:Nat→Bool,(∀x∈p++([]:List MemPlace),sp x.block=true)→DataW.TrodAll enc P W' 0 sp true f.params.toList args.toList (s.fn H (ds++[])).args p:=fun sp hsp=>by
  rw [hargs];exact stays hl hb hrd hA (fun x hx=>hlt x (hsub x hx)) fun x hx=>hsp x (hsub x hx)
 have hvar:∀sp:Nat→Bool,DataW.TrodVars enc P W' sp s.vars (s.fn H (ds++[])).vars []:=fun sp=>by rw [hs,hvars];exact rfl
 have hr:∀(b:Nat) (sp:Nat→Bool) (hd:Bool),DataW.TrodAll enc P W' b sp hd f.resultTypes.toList ((Value.bool true).resultList f.resultTypes.size) (s.fn H (ds++[])).results []:=fun b sp hd=>by
  rw [hres,hrt];exact trodAll_cons_mk (shut_bool hub _) trodAll_mk0
 have hold:∀x∈p++([]:List MemPlace),(fun b=>decide (b<W.heap.size)) x.block=true:=fun x hx=>by simpa using hlt x hx
 refine ⟨ds,[],p++[],[],p,[],hW',hr _ _ _,harg _ hold,hvar _,World.keptBut_mono (fun x hx=>⟨hx, ?_⟩) (hb.frame (·∈p++[])),fun _=>?_⟩
 ·simpa using hx
 ·refine ⟨ok_one hrt rfl (okWide_bool_mk hub _),_,_,([]++p)++[],⟨[]++p,[],trodAll_append (harg _ (fun _ _=>rfl)) (hr _ _ _),hvar _,rfl, ?_, ?_⟩, ?_⟩
  ·intro b off hp;have hp':MemPlace.cell b off∈p++([]:List MemPlace):=by simpa using hp
   rw [hb.frozen (p:=⟨b,off,none⟩) (hlt _ hp')];exact hz b off hp'
  ·intro ha;simpa using hn ha
  ·intro x hx _;simpa using hx
end
end Go.Proofs.YtkbboemafklkkaaGreatDoor.V
namespace Go.Proofs.YtkbboemafklkkaaGreatDoor.V
open Go Go.ChangeShapes Go.WideShapes Go.RowKit
set_option linter.unusedVariables false
def lst4:List (String × DataW Unit):=[("math/bits.deBruijn32tab",Rows.laid_math_bits_deBruijn32tab),("math/bits.deBruijn64tab",Rows.laid_math_bits_deBruijn64tab),("internal/strconv.uint64pow10",Rows.laid_internal_strconv_uint64pow10),("scantling/heads.readies",Rows.laid_scantling_heads_readies)]
def lst:List (String × DataW Unit):=[("math/bits.deBruijn32tab",Rows.laid_math_bits_deBruijn32tab),("math/bits.deBruijn64tab",Rows.laid_math_bits_deBruijn64tab),("internal/strconv.uint64pow10",Rows.laid_internal_strconv_uint64pow10),("scantling/heads.readies",Rows.laid_scantling_heads_readies),("scantling/next.steps",Rows.laid_scantling_next_steps)]
theorem zo0 {H:Type} {enc:TypeId × Value→H} {P:Program} {w:World} {base:Nat} {sp:Nat→Bool} {held:Bool} {fuel:Nat} {t e:TypeId} {n:Nat} {cs:List Value} {bs:List Bool} {p:List MemPlace}
  (ht:P.underlying t=some (.array n e)) (he:P.underlying e=some .bool) (hce:P.cellsOf e=1) (hct:P.cellsOf t=n)
  (h:DataW.trod enc P w base sp held fuel t cs=some (.agg (bs.map fun b=>.lit (.bool b)),p)):cs=bs.map Value.bool:=by
 obtain ⟨xs,m,rfl,hx,hl,hn,hf⟩:=DataW.trod_array ht h;have hx1:=congrArg Prod.fst hx;simp only [DataW.agg.injEq] at hx1;have hbl:bs.length=n:=by
  have:=congrArg List.length hx1;simp at this;omega
 apply List.ext_getElem?;intro i
 by_cases hi:i<n
 ·have h1:=hf i hi;rw [hce,Nat.mul_one,List.getElem?_eq_getElem (by omega)] at h1;obtain ⟨b,hc,hb⟩:=DataW.trod_bool he h1;have h2:cs[i]?=some (.bool b):=by
   have:=congrArg (·[0]?) hc;simpa [List.getElem?_take,List.getElem?_drop] using this
  have h3:(bs.map fun b=>(DataW.lit (.bool b):DataW H))[i]?=some (.lit (.bool b)):=by
   rw [hx1,List.getElem?_map,List.getElem?_eq_getElem (by omega),hb];rfl
  rw [List.getElem?_map,Option.map_eq_some_iff] at h3;obtain ⟨b',hb',e⟩:=h3;cases e;rw [h2,List.getElem?_map,hb'];rfl
 ·rw [List.getElem?_eq_none (by omega),List.getElem?_eq_none (by simp;omega)]
def nameB1:List UInt8:=[40,115,99,97,110,116,108,105,110,103,47,110,101,120,116,46,115,116,101,112,41,46,110,111,100,101]
def nameB3:List UInt8:=[40,115,99,97,110,116,108,105,110,103,47,110,101,120,116,46,115,116,101,112,41,46,116,101,120,116]
def nameB4:List UInt8:=[40,115,99,97,110,116,108,105,110,103,47,110,101,120,116,46,115,116,101,112,41,46,104,97,108,102]
def stepsD:DataW Unit:=.map [(.int .i64 1,.iface "func" (.lit (.string nameB1))),(.int .i64 3,.iface "func" (.lit (.string nameB3))),(.int .i64 4,.iface "func" (.lit (.string nameB4)))]
def stepsL:List (Lit × DataW (List UInt8)):=[(.int .i64 1,.held nameB1),(.int .i64 3,.held nameB3),(.int .i64 4,.held nameB4)]
theorem key_int {P:Program} {k:TypeId} (hk:P.underlying k=some (.int .i64)) {v:Value} {l:Lit} (h:keyOf P k v=some l):∃n:Int,v = .int .i64 n∧l = .int .i64 n∧InR .i64 n:=by
 rw [keyOf_int hk] at h;unfold mapKey at h;rw [hk] at h;cases v <;> simp at h;obtain ⟨⟨rfl,h2⟩,rfl⟩:=h;exact ⟨_,rfl,rfl,by simpa [Lit.wf,InR] using h2⟩
theorem zqo {P:Program} {t:TypeId} {ps rs:Array TypeId} {va:Bool} {v:Value} (ht:P.underlying t=some (.func ps rs va)) (h:v.formed P t=true):v.cells.toList=[v]:=by
 cases v <;> simp [Value.formed,ht] at h <;> rfl
def entY (e:MapEntry):Int × Option Nat:=match e.key with | .int _ n=>(n,zd6 gfmS n none) | _=>(0,none)
def entL (q:Lit × DataW (List UInt8)):Int × Option Nat:=match q.1 with | .int _ n=>(n,zd6 gfmS n none) | _=>(0,none)
def Steps (W:World):Prop:=∃m t fr es clock ys,W.heap[0]?=some (.cells #[.map (some m)] t fr)∧W.heap[m]?=some (.map es clock)∧Fmst es clock ys∧ys.Perm gfmS
theorem zok {W:World} (h:funcsAt Tryz.prog W "scantling/next.steps" stepsD):Steps W:=by
 obtain ⟨g,t,cs,fuel,p,hg,ht,hv,hd⟩:=h;have hg':Tryz.prog.globalNamed "scantling/next.steps"=some 0:=by kernel_rfl
 have hty:(Tryz.prog.globals[0]?).map (·.type)=some 220:=by kernel_rfl
 obtain rfl:=Option.some.inj (hg'.symm.trans hg);obtain rfl:=Option.some.inj (hty.symm.trans ht);have e:DataW.funcsOut stepsD = .map stepsL:=by kernel_rfl
 rw [e] at hd;have hkt:Tryz.prog.underlying 3=some (.int .i64):=Tryz.underlying3;rcases WideElems.open_map Tryz.underlying220 hd with ⟨_,hx⟩ | ⟨m,es,clock,n,rfl,hcs,hb,_,F,hx⟩
 ·simp at hx
 ·simp only [Prod.mk.injEq,DataW.map.injEq] at hx;have hp:stepsL.Perm (es.toList.map (WideElems.rg Tryz.prog 3 (WideElems.elemAt (funcToken Tryz.prog) Tryz.prog W 0 (fun _=>true) true n 218))):=by
   rw [hx.1];exact sorted_perm _
  have ent:∀x∈es.toList,∃i:Int,x.key = .int .i64 i∧InR .i64 i∧entL (WideElems.rg Tryz.prog 3 (WideElems.elemAt (funcToken Tryz.prog) Tryz.prog W 0 (fun _=>true) true n 218) x)=(i,zd6 gfmS i none)∧x.val=fidV (zd6 gfmS i none):=by
   intro x hx';obtain ⟨y,hy⟩:=F.reads x hx';have hrg:=WideElems.rg_of hy;have hm:y∈stepsL:=hp.mem_iff.2 (List.mem_map.2 ⟨x,hx',hrg⟩);obtain ⟨i,hk1,hk2,hk3⟩:=key_int hkt (WideElems.rd_key hy);obtain ⟨z,hz1,hz2⟩:=WideElems.rd_val hy;unfold WideElems.elemAt at hz1;split at hz1
   case isFalse=>cases hz1
   rename_i hf
   rw [zqo Tryz.underlying218 hf] at hz1;refine ⟨i,hk1,hk3,by rw [hrg];simp only [entL,hk2], ?_⟩;unfold stepsL at hm;simp only [List.mem_cons,List.not_mem_nil,or_false] at hm;rcases hm with rfl | rfl | rfl
   ·simp only [Lit.int.injEq,true_and] at hk2;subst hk2;obtain ⟨z1,z2⟩:=z;simp only at hz2;subst hz2;exact func_of_trod (f0:=238) Tryz.underlying218 (by kernel_rfl) hz1
   ·simp only [Lit.int.injEq,true_and] at hk2;subst hk2;obtain ⟨z1,z2⟩:=z;simp only at hz2;subst hz2;exact func_of_trod (f0:=239) Tryz.underlying218 (by kernel_rfl) hz1
   ·simp only [Lit.int.injEq,true_and] at hk2;subst hk2;obtain ⟨z1,z2⟩:=z;simp only at hz2;subst hz2;exact func_of_trod (f0:=236) Tryz.underlying218 (by kernel_rfl) hz1
  obtain ⟨o,ho,hcell⟩:∃t fr,W.heap[0]?=some (.cells #[.map (some m)] t fr):=by
   unfold World.var? at hv;rw [hg'] at hv;simp only [Option.bind_some] at hv;split at hv
   ·rename_i cs' t' fr' hc
    refine ⟨t',fr', ?_⟩;rw [hc];simp only [Option.some.injEq] at hv;rw [hv,← Array.toArray_toList (xs:=cs),hcs]
   ·cases hv
  refine ⟨m,o,ho,es,clock,es.toList.map entY,hcell,hb,⟨F.stamped,by simp,fun i e q h1 h2=>?_⟩, ?_⟩
  ·have hm:=List.mem_of_getElem? h1;obtain ⟨j,hk1,hk3,_,hval⟩:=ent e hm;rw [List.getElem?_map,h1] at h2;simp only [Option.map_some,Option.some.injEq] at h2;subst h2;have hr:=zis.1 hk3;simp only [entY,hk1];exact ⟨trivial,hr,hval⟩
  ·have h3:=(hp.map entL).symm;have e1:stepsL.map entL=gfmS:=by kernel_rfl
   rw [e1,List.map_map] at h3;refine List.Perm.trans (List.Perm.of_eq (List.map_congr_left fun x hx'=>?_)) h3;obtain ⟨j,hk1,_,hL,_⟩:=ent x hx';simp only [Function.comp,entY,hk1];exact hL.symm
def Tabs (W:World):Prop:=(Lib.TabIs Tryz.prog W "internal/strconv.uint64pow10" .u64 Lib.pow10Tab∧W.var? Tryz.prog "scantling/heads.readies"=some (gdat1.map Value.bool).toArray)∧Steps W
theorem tab_of_laid {W:World} (h:laidMetH Tryz.prog lst W):Tabs W:=by
 have hs:("scantling/next.steps",(DataW.iface "func table" stepsD:DataW Unit))∈lst:=by
  have e:(Rows.laid_scantling_next_steps:DataW Unit)=DataW.iface "func table" stepsD:=by kernel_rfl
  unfold lst;rw [e];simp
 have h3:=zok (h.funcs hs);have e0:laidMetH Tryz.prog lst W=(laidMet Tryz.prog lst4 W∧handlesMet Tryz.prog [("scantling/next.steps",Rows.laid_scantling_next_steps)] W):=by kernel_rfl
 rw [e0] at h;have h':=h.1;unfold lst4 at h';refine ⟨⟨?_, ?_⟩,h3⟩
 ·have e:(Rows.laid_internal_strconv_uint64pow10:DataW Unit)=Lib.tabData .u64 Lib.pow10Tab:=by kernel_rfl
  have h2:=h'.tail.tail;rw [e] at h2;exact Lib.tabIs_of_head (g:=2) (t:=296) (e:=36) (n:=20) (by kernel_rfl) (by kernel_rfl) Tryz.underlying296 Tryz.underlying36 (by kernel_rfl) (by kernel_rfl) h2
 ·have e:(Rows.laid_scantling_heads_readies:DataW Unit) = .agg (gdat1.map fun b=>.lit (.bool b)):=by kernel_rfl
  have h2:=h'.tail.tail.tail;rw [e] at h2;obtain ⟨ps,⟨g',t',cs,fuel,p,q,hg',ht',hvar,hd,_,_⟩,_⟩:=h2;have hg:Tryz.prog.globalNamed "scantling/heads.readies"=some 1:=by kernel_rfl
  have hty:(Tryz.prog.globals[1]?).map (·.type)=some 285:=by kernel_rfl
  obtain rfl:=Option.some.inj (hg.symm.trans hg');obtain rfl:=Option.some.inj (hty.symm.trans ht');rw [hvar,← zo0 Tryz.underlying285 (e:=4) Tryz.underlying4 (by kernel_rfl) (by kernel_rfl) hd]
theorem gl_of_tab {W:World} (h:Tabs W):Gl ⟨W,fun _=>False,fun _ h=>h.elim⟩:=by
 obtain ⟨⟨h1,h2⟩,h3⟩:=h;refine ⟨fun p hp=>?_,fun p hp=>?_⟩
 ·unfold gtab at hp;rcases List.mem_cons.1 hp with rfl | hp
  ·refine ⟨fun h=>h, ?_⟩;unfold Lib.TabIs World.var? at h1;have hg:Tryz.prog.globalNamed "internal/strconv.uint64pow10"=some 2:=by kernel_rfl
   rw [hg] at h1;simp only [Option.bind_some] at h1;split at h1
   ·rename_i cs t fr hc
    refine ⟨t,fr, ?_⟩;show W.heap[2]?=_;rw [hc];simp only [Option.some.injEq] at h1;rw [h1];simp [Lib.pow10Tab]
   ·cases h1
  ·obtain rfl:=List.mem_singleton.1 hp;refine ⟨fun h=>h, ?_⟩;unfold World.var? at h2;have hg:Tryz.prog.globalNamed "scantling/heads.readies"=some 1:=by kernel_rfl
   rw [hg] at h2;simp only [Option.bind_some] at h2;split at h2
   ·rename_i cs t fr hc
    refine ⟨t,fr, ?_⟩;show W.heap[1]?=_;rw [hc];simp only [Option.some.injEq] at h2;rw [h2]
   ·cases h2
 ·unfold gmap at hp;obtain rfl:=List.mem_singleton.1 hp;obtain ⟨m,t,fr,es,clock,ys,k1,k2,k3,k4⟩:=h3;exact ⟨fun h=>h,m,t,fr,es,clock,ys,k1,fun h=>h,k2,k3,k4⟩
noncomputable def laidWorld (os:Os):World:=World.doorLaid Tryz.prog 400 os
theorem laid_met (os:Os) (args:Array Value):laidMetH Tryz.prog lst ((laidWorld os).forCall (fun _ _=>0) ⟨#[],args,[]⟩).memory:=
 laidMetH_of_parts3 (fuel:=8) (laidMet_of_run' 8 (by kernel_rfl) (by kernel_rfl)) (by kernel_rfl) (by kernel_rfl)
theorem weigh {H:Type} {P:Program} {ts:List TypeId} {ds:List (DataW H)} (h:(DataW.weightsEach P ts ds).all (·≤reachBytes)=true) (j:Nat) {t:TypeId} {d:DataW H} (ht:ts[j]?=some t) (hd:ds[j]?=some d):∀n∈d.weights P t,n≤reachBytes:=fun n hn=>by
 have:=List.all_eq_true.1 h n (DataW.weights_mem_each ht hd n hn);simpa using this
end Go.Proofs.YtkbboemafklkkaaGreatDoor.V
