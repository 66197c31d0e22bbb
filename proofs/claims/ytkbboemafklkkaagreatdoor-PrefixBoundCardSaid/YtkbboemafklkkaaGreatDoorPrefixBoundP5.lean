/-
  The texts that the law's proof needs, part 5.
-/
import Derived.Carry
import Derived.ChangeSame
import Derived.Deep.Slices
import Derived.Handed
import Derived.KernelRfl
import Derived.LaidHandle
import Derived.LaidLaws
import Derived.LaidMore
import Derived.Lib.AppendIntMem
import Derived.Lib.ItoaLen
import Derived.Lib.LaidTab
import Derived.Lib.SlBytesConst
import Derived.OpenShut
import Derived.ProofKit
import Derived.RowKit
import Derived.SizedLaws
import Derived.Stop.LaidErr
import Derived.Test.YtkbboemafklkkaaGreatDoorRows
import Derived.WalkKit
import Derived.WideKeyElems2
import Derived.Test.YtkbboemafklkkaaGreatDoorPrefixBoundP4

namespace Go.Proofs.YtkbboemafklkkaaGreatDoor.V
open Go
set_option linter.unusedVariables false
theorem zfp {α:Type} {xs:List α} {i:Nat} (h:i<xs.length):at? xs (i:Int)=some xs[i]:=by rw [zbr];exact List.getElem?_eq_getElem h
theorem zom {α:Type} [DecidableEq α]:∀{a b:List α},a.Nodup→b.Nodup→(∀x,x∈a↔x∈b)→a.Perm b
 | [],b,_,_,h=>by
  cases b with
  | nil=>exact .refl _
  | cons y b=>exact absurd ((h y).2 (by simp)) (by simp)
 | x::a,b,ha,hb,h=>by
  rw [List.nodup_cons] at ha;have hx:=(h x).1 (by simp);refine (List.Perm.cons x (zom ha.2 (hb.erase x) fun y=>?_)).trans (List.perm_cons_erase hx).symm;rw [hb.mem_erase_iff];constructor
  ·intro hy;exact ⟨fun e=>ha.1 (by rw [← e];exact hy),(h y).1 (by simp [hy])⟩
  ·rintro ⟨h1,h2⟩;exact (List.mem_cons.1 ((h y).2 h2)).resolve_left h1
theorem item_StartS {d:List SNode} (h:d≠[]) (hl:d.length≤1000):ziw d (stS d):=by
 have:=List.length_pos_iff.2 h;exact ⟨zh (by omega) (by omega),rfl⟩
theorem zjo {d:List SNode} (h:d≠[]) (hl:d.length≤1000):zgs d [stS d]:=⟨_,item_StartS h hl,rfl⟩
def mS (L:List (List SItem)):List (Str × List SItem):=L.foldl (fun m t=>zfe m (keyS t) t) []
theorem mS_snoc (L:List (List SItem)) (t:List SItem):mS (L++[t])=zfe (mS L) (keyS t) t:=by unfold mS;rw [List.foldl_append];rfl
theorem mS_inv (L:List (List SItem)):((mS L).map (·.2)).Nodup∧∀p,p∈mS L↔p.2∈L∧p.1=keyS p.2:=by
 have:∀n (L:List (List SItem)),L.length=n→((mS L).map (·.2)).Nodup∧∀p,p∈mS L↔p.2∈L∧p.1=keyS p.2:=by
  intro n
  induction n with
  | zero=>intro L hL;rw [List.length_eq_zero_iff.1 hL];exact ⟨List.nodup_nil,by simp [mS]⟩
  | succ n ih=>
   intro L hL;have hne:L≠[]:=fun e=>by subst e;simp at hL
   rw [← List.dropLast_concat_getLast hne];obtain ⟨i1,i2⟩:=ih L.dropLast (by simp [hL]);generalize L.dropLast=A at *;generalize L.getLast hne=t at *;rw [mS_snoc];unfold zfe;cases hh:zgx (mS A) (keyS t)
   ·simp only [cond_false];have hno:t ∉ A:=fun h=>by
     have h1:=(i2 (keyS t,t)).2 ⟨h,rfl⟩;have:zgx (mS A) (keyS t)=true:=by
      unfold zgx;rw [List.any_eq_true];exact ⟨_,h1,by simp⟩
     rw [hh] at this;cases this
    refine ⟨?_,fun p=>?_⟩
    ·rw [List.map_append,List.nodup_append];refine ⟨i1,by simp,fun a ha b hb e=>?_⟩;simp at hb;subst hb;subst e;obtain ⟨p,hp,rfl⟩:=List.mem_map.1 ha;exact hno ((i2 p).1 hp).1
    ·rw [List.mem_append,i2,List.mem_singleton,List.mem_append,List.mem_singleton];constructor
     ·rintro (⟨h1,h2⟩ | rfl)
      ·exact ⟨.inl h1,h2⟩
      ·exact ⟨.inr rfl,rfl⟩
     ·rintro ⟨h1 | h1,h2⟩
      ·exact .inl ⟨h1,h2⟩
      ·exact .inr (Prod.ext (by rw [h2,h1]) h1)
   ·have hh':=hh;unfold zgx at hh';rw [List.any_eq_true] at hh';obtain ⟨q,hq1,hq2⟩:=hh';have hqk:q.1=keyS t:=by simpa using hq2
    have hq3:=(i2 q).1 hq1;have hqt:q.2=t:=zfq.1 (by rw [← hq3.2,hqk]);have hta:t∈A:=by rw [← hqt];exact hq3.1
    simp only [cond_true];have hmap:∀f:Str × List SItem→Str × List SItem,(∀p∈mS A,f p=p)→(mS A).map f=mS A:=fun f hf=>by
     conv=>rhs;rw [← List.map_id (mS A)]
     exact List.map_congr_left hf
    rw [hmap _ fun p hp=>?_]
    rotate_left
    ·by_cases hpk:p.1=keyS t
     ·have hp3:=(i2 p).1 hp;have:p.2=t:=zfq.1 (by rw [← hp3.2,hpk]);have e:p=(keyS t,t):=Prod.ext hpk this;rw [e];simp
     ·exact (congrArg (fun b=>bif b then (keyS t,t) else p) (decide_eq_false hpk)).trans rfl
    refine ⟨i1,fun p=>?_⟩;rw [i2,List.mem_append,List.mem_singleton];constructor
    ·rintro ⟨h1,h2⟩;exact ⟨.inl h1,h2⟩
    ·rintro ⟨h1 | h1,h2⟩
     ·exact ⟨h1,h2⟩
     ·exact ⟨by rw [h1];exact hta,h2⟩
 exact this _ L rfl
structure Room (d:List SNode) (c:Int) (l:List (List SItem)):Prop where
 sm:∀s∈l,Sm d s
 len:l.length≤2000000000
 cov:∃K:List (List SItem),K.length≤2000000000∧∀s∈l,∀t∈zdw d c s,t∈K
theorem zob {d:List SNode} {s:List SItem} (h:Sm d s) {c:Int} (hc:InR .u8 c) {t:List SItem} (ht:t∈zdw d c s):t.length≤1000:=by
 have:=(step_ok h.rt.toROk h.form hc t ht).2;have:=h.slen;have:=h.len;omega
theorem zog {d:List SNode} {l:List (List SItem)} {c:Int} (hr:Room d c l) (hc:InR .u8 c):zb6 d l c (onS d c l):=by
 have hll:=hr.len;obtain ⟨K,k1,k2⟩:=hr.cov;refine uptoK (P:=fun k m v=>zb6.l1 d l c _ k m v) l.length (fun i m=>m=mS ((l.take i).flatMap fun s=>zi0 (zdw d c s))) ?_ ?_ _ (by simp [mS])
 ·rintro i m k hi rfl hk;have hsm:=hr.sm _ (List.getElem_mem hi);obtain ⟨o,o1,_,o3⟩:=on_step hsm hc;have ho:o.map (·.1)=zi0 (zdw d c l[i]):=can_set o3 fun t=>by rw [← List.count_pos_iff];omega
  have hol:o.length≤2000000000:=by
   have:=zjp (A:=zdw d c l[i]) (K:=K) fun t ht=>k2 _ (List.getElem_mem hi) t ht;rw [← ho,List.length_map] at this;omega
  refine ⟨fun _=>⟨_,zfp hi,o,o1, ?_⟩,fun h=>absurd (by omega) (df h)⟩;refine uptoK (P:=fun k m v=>zb6.l2 o _ k m v) o.length (fun j m=>m=mS (((l.take i).flatMap fun s=>zi0 (zdw d c s))++(o.map (·.1)).take j)) ?_ ?_ _ (by simp)
  ·rintro j m k' hj rfl hk';have hmem:o[j].1∈zdw d c l[i]:=zdn.1 (by rw [← ho];exact List.mem_map.2 ⟨_,List.getElem_mem hj,rfl⟩);have hlen:=zob hsm hc hmem;refine ⟨fun _=>⟨_,zfp hj,_,zmy hlen,zh (by omega) (by omega),hk' _ ?_⟩,fun h=>absurd (by omega) (df h)⟩;rw [List.take_succ_eq_append_getElem (by simpa using hj),← List.append_assoc,mS_snoc];simp
  ·rintro m rfl k';refine ⟨fun h=>absurd (dt h) (by omega),fun _=>⟨zh (by omega) (by omega),hk _ ?_⟩⟩;rw [List.take_of_length_le (l:=o.map (·.1)) (by simp),List.take_succ_eq_append_getElem hi,List.flatMap_append,ho];simp
 ·rintro m rfl k;refine ⟨fun h=>absurd (dt h) (by omega),fun _=>?_⟩;rw [List.take_length];obtain ⟨i1,i2⟩:=mS_inv (l.flatMap fun s=>zi0 (zdw d c s));have hmm:∀t,t∈(mS (l.flatMap fun s=>zi0 (zdw d c s))).map (·.2)↔t∈onS d c l:=fun t=>by
   rw [zkt,List.mem_map];constructor
   ·rintro ⟨p,hp,rfl⟩;obtain ⟨s,h1,h2⟩:=List.mem_flatMap.1 ((i2 p).1 hp).1;exact ⟨s,h1,zdn.1 h2⟩
   ·rintro ⟨s,h1,h2⟩;exact ⟨(keyS t,t),(i2 _).2 ⟨List.mem_flatMap.2 ⟨s,h1,zdn.2 h2⟩,rfl⟩,rfl⟩
  refine ⟨fun b hb=>?_, ?_,zom (zo7 (zes _)) i1 fun t=>(hmm t).symm,zes _⟩
  ·obtain ⟨s,h1,h2⟩:=zkt.1 ((hmm b).1 hb);exact zob (hr.sm s h1) hc h2
  ·have:=zh5 (U:=K) i1 fun t ht=>by
    obtain ⟨s,h1,h2⟩:=zkt.1 ((hmm t).1 ht);exact k2 s h1 t h2
   omega
theorem idxS_in {s:List (List SItem)} {f:List SItem × Bool→Prop} {g:List SItem→Bool} (hf:∀x∈s,f (x,g x)) (hl:s.length≤140737488351232):zbi s f (s.any g):=by
 have key:∃i:Int,zk s f i∧(decide (0≤i))=s.any g:=by
  cases hc:s.any g
  ·refine ⟨-1, ?_,by decide⟩;rw [List.any_eq_false] at hc;refine zg5 (P:=fun k (_:Unit) v=>zk.l1 s f (-1) _ k v) s.length (fun _ _=>True) ?_ ?_ () trivial
   ·intro j _ hj _;exact .inr ⟨(),trivial,fun k hk=>⟨fun _=>⟨_,zfp hj,_,hf _ (List.getElem_mem hj),fun h=>absurd h (hc _ (List.getElem_mem hj)),fun _=>⟨zh (by omega) (by omega),hk⟩⟩,fun h=>absurd (by omega) (df h)⟩⟩
   ·intro _ _ k;exact ⟨fun h=>absurd (dt h) (by omega),fun _=>rfl⟩
  ·rw [List.any_eq_true] at hc;obtain ⟨x,hx,hgx⟩:=hc;have hex:∃i,∃(h:i<s.length),g s[i]=true:=by
    obtain ⟨i,hi,rfl⟩:=List.mem_iff_getElem.1 hx;exact ⟨i,hi,hgx⟩
   obtain ⟨i,⟨hi,hi2⟩,hmin⟩:=exists_least hex;refine ⟨(i:Int), ?_,by simp⟩;refine zg5 (P:=fun k (_:Unit) v=>zk.l1 s f (i:Int) _ k v) (i+1) (fun j _=>j≤i) ?_ ?_ () (by omega)
   ·intro j _ hj hle;have hat:=zfp (show j<s.length by omega);have hfj:=hf _ (List.getElem_mem (show j<s.length by omega))
    by_cases hji:j=i
    ·subst hji;rw [hi2] at hfj;exact .inl fun k=>⟨fun _=>⟨_,hat,true,hfj,fun _=>rfl,(fun h=>by cases h)⟩,fun h=>absurd (by omega) (df h)⟩
    ·have hno:g (s[j]'(by omega))=false:=by
      cases hg:g (s[j]'(by omega))
      ·rfl
      ·have:=hmin j ⟨by omega,hg⟩;omega
     rw [hno] at hfj;exact .inr ⟨(),by omega,fun k hk=>⟨fun _=>⟨_,hat,false,hfj,(fun h=>by cases h),fun _=>⟨zh (by omega) (by omega),hk⟩⟩,fun h=>absurd (by omega) (df h)⟩⟩
   ·intro _ h k;omega
 obtain ⟨i,h1,h2⟩:=key;exact ⟨i,h1,h2.symm⟩
theorem sat_pos (n:Nat):decide (0<sat n)=decide (n≠0):=by
 by_cases h:n=0
 ·subst h;simp [sat]
 ·rw [decide_eq_true (by unfold sat;omega),decide_eq_true h]
theorem zhy {d:List SNode} {l:List (List SItem)} (hl:∀s∈l,Sm d s) (hn:l.length≤2000000000):zfy d l (zic d l):=by
 refine ⟨_,idxS_in (g:=fun s=>decide ((hds d s).count []≠0)) (fun s hs=>⟨_,(ends_both (hl s hs)).1, ?_⟩) (by omega),rfl⟩;exact (sat_pos _).symm
theorem zmd {d:List SNode} {l:List (List SItem)} (hl:∀s∈l,Sm d s) (hn:l.length≤2000000000) (hc:(zlr d l).length*32≤140737488355328):zbt d l (zlr d l):=by
 refine zg5 (P:=fun k out v=>zbt.l1 d l _ k out v) l.length (fun i out=>out=zlr d (l.take i)) ?_ ?_ _ (by simp [zlr])
 ·rintro i out hi rfl;have e:zlr d (l.take (i+1))=zlr d (l.take i)++clsA d l[i]:=by
   unfold zlr;rw [List.take_succ_eq_append_getElem hi,List.flatMap_append];simp
  refine .inr ⟨_,rfl,fun k hk=>⟨fun _=>⟨_,zfp hi,_,(clsA_in (hl _ (List.getElem_mem hi))).1, ?_,zh (by omega) (by omega),by rw [← e];exact hk⟩,fun h=>absurd (by omega) (df h)⟩⟩;have h2:zlr d l=zlr d (l.take (i+1))++zlr d (l.drop (i+1)):=by unfold zlr;rw [← List.flatMap_append,List.take_append_drop]
  have h3:=congrArg List.length h2;rw [e,List.length_append,List.length_append] at h3;omega
 ·rintro out rfl k;refine ⟨fun h=>absurd (dt h) (by omega),fun _=>?_⟩;show zlr d l=_;rw [List.take_length]
theorem sets_Once_in {l:List Cl} (hn:l.length≤140737488351232) (ho:(zfl l).length≤2147483647):zcp l (zfl l):=by
 have hpre:∀i,(zfl (l.take i)).length≤(zfl l).length:=fun i=>by
  refine zh5 (zmo _) fun x hx=>(zgv l).2 (List.mem_of_mem_take ((zgv _).1 hx))
 refine zg5 (P:=fun k (s:List (Cl × Bool) × List Cl) v=>zcp.l1 l _ k s.1 s.2 v) l.length (fun i s=>s.2=zfl (l.take i)∧∀x,zdz s.1 x false=decide (x∈l.take i)) ?_ ?_ ([],[]) ⟨by simp [zfl],fun x=>by simp [zdz]⟩
 ·rintro i ⟨met,out⟩ hi ⟨h1,h2⟩;simp only at h1 h2;subst h1;have htk:l.take (i+1)=l.take i++[l[i]]:=List.take_succ_eq_append_getElem hi;have hnext:∀x,zdz (zfe met l[i] true) x false=decide (x∈l.take (i+1)):=fun x=>by
   rw [zmt,h2,htk]
   by_cases hx:l[i]=x
   ·rw [if_pos hx];exact (decide_eq_true (List.mem_append.2 (.inr (by rw [← hx];exact List.mem_singleton.2 rfl)))).symm
   ·rw [if_neg hx];exact decide_eq_decide.2 ⟨fun h=>List.mem_append.2 (.inl h),fun h=>(List.mem_append.1 h).resolve_right fun e=>hx (List.mem_singleton.1 e).symm⟩
  have hp1:=hpre (i+1)
  by_cases hm:l[i]∈l.take i
  ·refine .inr ⟨(zfe met l[i] true,zfl (l.take i)),⟨?_,hnext⟩,fun k hk=>⟨fun _=>⟨_,zfp hi,fun h=>?_,fun _=>⟨zh (by omega) (by omega),hk⟩⟩,fun h=>absurd (by omega) (df h)⟩⟩
   ·rw [htk,zis,if_pos ((zgv _).2 hm)]
   ·rw [h2,decide_eq_true hm] at h;cases h
  ·have e:zfl (l.take (i+1))=zfl (l.take i)++[l[i]]:=by rw [htk,zis,if_neg fun h=>hm ((zgv _).1 h)]
   refine .inr ⟨(zfe met l[i] true,zfl (l.take i)++[l[i]]),⟨e.symm,hnext⟩,fun k hk=>⟨fun _=>⟨_,zfp hi,fun _=>⟨?_,zh (by omega) (by omega),hk⟩,fun h=>?_⟩,fun h=>absurd (by omega) (df h)⟩⟩
   ·rw [e] at hp1;simp only [List.length_append,List.length_cons,List.length_nil] at hp1 ⊢;omega
   ·rw [h2,decide_eq_false hm] at h;cases h
 ·rintro ⟨met,out⟩ ⟨h1,h2⟩ k;simp only at h1;subst h1;refine ⟨fun h=>absurd (dt h) (by omega),fun _=>?_⟩;show zfl l=_;rw [List.take_length]
theorem room_after {d:List SNode} (h:Rt d) (hl:d.length≤24) (ht:Txt d) {w:List Int} (hw:∀c∈w,InR .u8 c) {c:Int} (hc:InR .u8 c) (hp:pas d.length (w.length+1)≤2000000000):Room d c (zen d w):=by
 refine ⟨fun s hs=>(zhk h hl ht hw hs).1, ?_, ?_⟩
 ·have:=zqo h hw;have:=pas_more d.length w.length;omega
 ·have hw2:∀b∈w++[c],InR .u8 b:=fun b hb=>(List.mem_append.1 hb).elim (hw b) fun e=>by rw [List.mem_singleton.1 e];exact hc
  obtain ⟨K,k1,k2⟩:=after_cov h fun b hb=>(zfg.1 (hw2 b hb)).1;rw [List.length_append,List.length_singleton] at k1;refine ⟨K,by omega,fun s hs t hts=>k2 t ?_⟩;show t∈zcw d (w++[c]) (stS d);rw [← zlv,zei,zkt];exact ⟨s,hs,hts⟩
theorem pas_le2 {m k m' k':Nat} (h1:m≤m') (h2:k≤k') {n:Nat} (h:pas m' k'≤n):pas m k≤n:=Nat.le_trans (Nat.le_trans (pas_mono h1 k) (pas_long m' h2)) h
theorem itoa_no47 (n:Int):∀c∈Lib.itoa n,c≠47:=by
 intro c hc he;subst he;unfold Lib.itoa at hc;split at hc
 ·rcases List.mem_cons.1 hc with h | h
  ·exact absurd h (by decide)
  ·have:=(zos _ _ h).1;exact absurd this (by decide)
 ·have:=(zos _ _ hc).1;exact absurd this (by decide)
theorem keyN_no47 (l:List Int):∀c∈zjd l,c≠47:=by
 induction l with
 | nil=>intro c hc;simp [zjd] at hc
 | cons z l ih=>
  intro c hc;rw [zg0,List.mem_append,List.mem_cons] at hc;rcases hc with h | rfl | h
  ·exact itoa_no47 z c h
  ·decide
  ·exact ih c h
theorem cut47 {a b:List UInt8} (ha:∀c∈a,c≠47) (hb:∀c∈b,c≠47) {u v:List UInt8} (h:a++47::u=b++47::v):a=b∧u=v:=by
 induction a generalizing b with
 | nil=>
  cases b with
  | nil=>exact ⟨rfl,(List.cons.inj h).2⟩
  | cons y b=>exact absurd (List.cons.inj h).1.symm (hb y (by simp))
 | cons x a ih=>
  cases b with
  | nil=>exact absurd (List.cons.inj h).1 (ha x (by simp))
  | cons y b=>
   obtain ⟨h1,h2⟩:=List.cons.inj h;obtain ⟨h3,h4⟩:=ih (fun c hc=>ha c (by simp [hc])) (fun c hc=>hb c (by simp [hc])) h2;exact ⟨by rw [h1,h3],h4⟩
theorem zh7 (s:List SItem) (l:List (List SItem)):zkg (s::l)=keyS s++47::zkg l:=by simp [zkg]
theorem keyL_inj {l m:List (List SItem)} (h:zkg l=zkg m):l=m:=by
 induction l generalizing m with
 | nil=>
  cases m with
  | nil=>rfl
  | cons y m=>rw [zh7] at h;simp [zkg] at h
 | cons z l ih=>
  cases m with
  | nil=>rw [zh7] at h;simp [zkg] at h
  | cons y m=>
   rw [zh7,zh7] at h;obtain ⟨h1,h2⟩:=cut47 (keyN_no47 _) (keyN_no47 _) h;rw [zfq.1 h1,ih h2]
theorem sets_Key_in {l:List (List SItem)} (h1:l.length≤1000000000) (h2:∀s∈l,s.length≤1000):zll l (zkg l):=⟨h1,h2,rfl⟩
theorem Sm.short {d:List SNode} {s:List SItem} (h:Sm d s):s.length≤1000:=by have:=h.slen;omega
structure Sch (T:Type) where
 start:T
 ways:T→List (Int × T)
 hit:T→Bool
abbrev Qb (T:Type):=T × Int × Int × List Int
section
variable {T : Type} [DecidableEq T]
def hasQ (acc:List (Qb T)) (x:T):Bool:=acc.any fun q=>decide (q.1=x)
def stB (i:Nat) (w:List Int) (acc:List (Qb T)) (e:Int × T):List (Qb T):=if hasQ acc e.2=true then acc else acc++[(e.2,(i:Int),e.1,w++[e.1])]
def rdB (S:Sch T) (i:Nat) (q:Qb T) (acc:List (Qb T)):List (Qb T):=(S.ways q.1).foldl (stB i q.2.2.2) acc
def zcx (S:Sch T):Nat→List (Qb T)
 | 0=>[(S.start, -1,0,[])]
 | i+1=>match (zcx S i)[i]? with
  | some q=>rdB S i q (zcx S i)
  | none=>zcx S i
theorem hasQ_iff {acc:List (Qb T)} {x:T}:hasQ acc x=true↔∃q∈acc,q.1=x:=by simp [hasQ]
theorem hasQ_app {acc:List (Qb T)} {q:Qb T} {x:T}:hasQ (acc++[q]) x=(hasQ acc x||decide (q.1=x)):=by simp [hasQ]
theorem zd7 {α:Type} {a b:List α} (h:a <+: b) {j:Nat} {q:α} (hq:a[j]?=some q):b[j]?=some q:=by
 obtain ⟨r,rfl⟩:=h;rw [List.getElem?_append_left (List.getElem?_eq_some_iff.1 hq).1];exact hq
theorem stB_pre (i:Nat) (w:List Int) (acc:List (Qb T)) (e:Int × T):acc <+: stB i w acc e:=by
 unfold stB;split
 ·exact List.prefix_refl _
 ·exact List.prefix_append _ _
theorem zm2 (i:Nat) (w:List Int) (es:List (Int × T)):∀acc:List (Qb T),acc <+: es.foldl (stB i w) acc:=by
 induction es with
 | nil=>intro acc;exact List.prefix_refl _
 | cons e es ih=>intro acc;exact (stB_pre i w acc e).trans (ih _)
theorem zg3 {S:Sch T} {i:Nat} {q:Qb T} (h:(zcx S i)[i]?=some q):zcx S (i+1)=rdB S i q (zcx S i):=by
 show (match (zcx S i)[i]? with | some q=>rdB S i q (zcx S i) | none=>zcx S i)=_;rw [h]
theorem zke {S:Sch T} {i:Nat} (h:(zcx S i)[i]?=none):zcx S (i+1)=zcx S i:=by
 show (match (zcx S i)[i]? with | some q=>rdB S i q (zcx S i) | none=>zcx S i)=_;rw [h]
theorem zf7 (S:Sch T) (i:Nat):zcx S i <+: zcx S (i+1):=by
 cases h:(zcx S i)[i]? with
 | none=>rw [zke h];exact List.prefix_refl _
 | some q=>rw [zg3 h];exact zm2 _ _ _ _
theorem zlw (S:Sch T) {i j:Nat} (h:i≤j):zcx S i <+: zcx S j:=by
 obtain ⟨d,rfl⟩:∃d,j=i+d:=⟨j-i,by omega⟩;clear h
 induction d with
 | zero=>exact List.prefix_refl _
 | succ d ih=>exact ih.trans (zf7 S (i+d))
theorem zig {S:Sch T} {i:Nat} (h:(zcx S i)[i]?=none):∀d,zcx S (i+d)=zcx S i
 | 0=>rfl
 | d+1=>by
  have ih:=zig h d;have:(zcx S (i+d))[i+d]?=none:=by
   rw [ih];rw [List.getElem?_eq_none_iff] at h ⊢;omega
  rw [← Nat.add_assoc,zke this,ih]
structure GoodB (S:Sch T) (acc:List (Qb T)):Prop where
 nd:(acc.map (·.1)).Nodup
 par:∀j q,acc[j]?=some q→(j=0∧q=(S.start, -1,0,[]))∨∃p q',q.2.1=((p:Nat):Int)∧p<j∧acc[p]?=some q'∧q.2.2.2=q'.2.2.2++[q.2.2.1]∧(q.2.2.1,q.1)∈S.ways q'.1
theorem stB_good {S:Sch T} {i:Nat} {q0:Qb T} {acc:List (Qb T)} {e:Int × T} (h:GoodB S acc) (hi:acc[i]?=some q0) (he:e∈S.ways q0.1):GoodB S (stB i q0.2.2.2 acc e):=by
 unfold stB;split
 ·exact h
 ·rename_i hno
  have hni:e.2 ∉ acc.map (·.1):=fun hm=>by
   obtain ⟨q,hq,he⟩:=List.mem_map.1 hm;exact hno (hasQ_iff.2 ⟨q,hq,he⟩)
  have hil:i<acc.length:=(List.getElem?_eq_some_iff.1 hi).1;refine ⟨?_, ?_⟩
  ·rw [List.map_append,List.nodup_append];exact ⟨h.nd,by simp,fun a ha b hb e=>by simp at hb;subst hb;subst e;exact hni ha⟩
  ·intro j q hj
   by_cases hjl:j<acc.length
   ·rw [List.getElem?_append_left hjl] at hj;rcases h.par j q hj with h1 | ⟨p,q',h1,h2,h3,h4⟩
    ·exact .inl h1
    ·exact .inr ⟨p,q',h1,h2,zd7 (List.prefix_append _ _) h3,h4⟩
   ·have hjl':=(List.getElem?_eq_some_iff.1 hj).1;simp at hjl';have:j=acc.length:=by omega
    subst this;rw [List.getElem?_append_right (Nat.le_refl _)] at hj;simp at hj;subst hj;exact .inr ⟨i,q0,rfl,hil,zd7 (List.prefix_append _ _) hi,rfl,he⟩
theorem foldB_good {S:Sch T} {i:Nat} {q0:Qb T} {es:List (Int × T)} (hes:∀e∈es,e∈S.ways q0.1):∀acc:List (Qb T),GoodB S acc→acc[i]?=some q0→GoodB S (es.foldl (stB i q0.2.2.2) acc):=by
 induction es with
 | nil=>intro acc h _;exact h
 | cons e es ih=>
  intro acc h hi;exact ih (fun e he=>hes e (by simp [he])) _ (stB_good h hi (hes e (by simp))) (zd7 (stB_pre _ _ _ _) hi)
theorem zg4 (S:Sch T):∀i,GoodB S (zcx S i)
 | 0=>⟨by simp [zcx],fun j q hj=>by
   cases j with
   | zero=>simp [zcx] at hj;subst hj;exact .inl ⟨rfl,rfl⟩
   | succ j=>simp [zcx] at hj⟩
 | i+1=>by
  have ih:=zg4 S i;cases hi:(zcx S i)[i]? with
  | none=>rw [zke hi];exact ih
  | some q=>rw [zg3 hi];exact foldB_good (fun e he=>he) _ ih hi
omit [DecidableEq T] in
theorem GoodB.wlen {S:Sch T} {acc:List (Qb T)} (h:GoodB S acc):∀(j:Nat) (q:Qb T),acc[j]?=some q→q.2.2.2.length≤j:=by
 intro j
 induction j using Nat.strongRecOn with
 | ind j ih=>
  intro q hq
  rcases h.par j q hq with ⟨_,rfl⟩ | ⟨p,q',_,h2,h3,h4,_⟩
  ·simp
  ·have:=ih p h2 q' h3
   rw [h4];simp;omega
theorem stB_len (i:Nat) (w:List Int) (acc:List (Qb T)) (e:Int × T):(stB i w acc e).length≤acc.length+1:=by
 unfold stB;split <;> simp
theorem zm3 (i:Nat) (w:List Int):∀(es:List (Int × T)) (acc:List (Qb T)),(es.foldl (stB i w) acc).length≤acc.length+es.length
 | [],acc=>Nat.le_refl _
 | e::es,acc=>by
  have h1:=zm3 i w es (stB i w acc e);have h2:=stB_len i w acc e;rw [List.foldl_cons,List.length_cons];omega
def verdB (S:Sch T) (b:Int):Nat→Nat→Int × List Int × Int × Option T
 | 0,i=>(1,[],((zcx S i).length:Int),none)
 | f+1,i=>match (zcx S i)[i]? with
  | none=>(1,[],((zcx S i).length:Int),none)
  | some q=>if b≤(i:Int) then (3,[],max b 0,none) else if S.hit q.1=true then (2,q.2.2.2,(i:Int)+1,some q.1) else verdB S b f (i+1)
def zds (S:Sch T) (b:Int):Int × List Int × Int × Option T:=verdB S b (b.toNat+1) 0
inductive zqr (S:Sch T) (b:Int):Int × List Int × Int × Option T→Prop
 | yes (i:Nat) (hb:(i:Int)≤b∨i=0∧b≤0) (h:(zcx S i)[i]?=none) (hno:∀j q,j<i→(zcx S i)[j]?=some q→S.hit q.1=false):zqr S b (1,[],((zcx S i).length:Int),none)
 | no (i:Nat) (q:Qb T) (hb:(i:Int)<b) (h:(zcx S i)[i]?=some q) (hh:S.hit q.1=true) (hno:∀j q,j<i→(zcx S i)[j]?=some q→S.hit q.1=false):zqr S b (2,q.2.2.2,(i:Int)+1,some q.1)
 | limit (hl:∃q,(zcx S b.toNat)[b.toNat]?=some q) (hno:∀j q,j<b.toNat→(zcx S b.toNat)[j]?=some q→S.hit q.1=false):zqr S b (3,[],max b 0,none)
theorem verdB_out (S:Sch T) (b:Int):∀(f i:Nat),f+i=b.toNat+1→i≤b.toNat→(∀j q,j<i→(zcx S i)[j]?=some q→S.hit q.1=false)→zqr S b (verdB S b f i)
 | 0,i,h1,h2,_=>by omega
 | f+1,i,h1,h2,hno=>by
  unfold verdB;cases hq:(zcx S i)[i]? with
  | none=>exact .yes i (by omega) hq hno
  | some q=>
   simp only
   by_cases hb:b≤(i:Int)
   ·rw [if_pos hb];have:i=b.toNat:=by omega
    subst this;exact .limit ⟨q,hq⟩ hno
   ·rw [if_neg hb]
    by_cases hh:S.hit q.1=true
    ·rw [if_pos hh];exact .no i q (by omega) hq hh hno
    ·rw [if_neg hh];refine verdB_out S b f (i+1) (by omega) (by omega) fun j q' hj hq'=>?_
     by_cases hji:j=i
     ·subst hji;rw [zd7 (zf7 S j) hq] at hq';cases hq';simpa using hh
     ·have hlt:i<(zcx S i).length:=(List.getElem?_eq_some_iff.1 hq).1;obtain ⟨x,hx⟩:∃x,(zcx S i)[j]?=some x:=⟨_,List.getElem?_eq_getElem (show j<(zcx S i).length by omega)⟩;rw [zd7 (zf7 S i) hx] at hq';cases hq';exact hno j _ (by omega) hx
theorem zhv (S:Sch T) (b:Int):zqr S b (zds S b):=verdB_out S b _ 0 (by omega) (by omega) fun j q h=>by omega
theorem zih {S:Sch T} {i j:Nat} (hij:i≤j):(zcx S j)[i]?=(zcx S i)[i]?:=by
 cases h:(zcx S i)[i]? with
 | some q=>exact zd7 (zlw S hij) h
 | none=>
  have:=zig h (j-i);rw [show i+(j-i)=j by omega] at this;rw [this,h]
theorem zqr.stays {S:Sch T} {a b:Int} (hab:a≤b) {v u:Int × List Int × Int × Option T} (h:zqr S a v) (k:zqr S b u) (hv:v.1≠3):v=u:=by
 have cmp:∀{i j:Nat},i<j→(∀q,(zcx S i)[i]?=some q→S.hit q.1=true)→(∀k q,k<j→(zcx S j)[k]?=some q→S.hit q.1=false)→(zcx S j)[i]?=none:=fun {i j} hij h1 h2=>by
  rw [zih (by omega)];cases hq:(zcx S i)[i]? with
  | none=>rfl
  | some q=>
   have:=h2 i q hij (by rw [zih (by omega)];exact hq);rw [h1 q hq] at this;cases this
 cases h with
 | limit _ _=>exact absurd rfl hv
 | yes i hb h hno=>
  have hend:∀j,i≤j→zcx S j=zcx S i:=fun j hj=>by
   have:=zig h (j-i)
   rwa [show i+(j-i)=j by omega] at this
  have hl:=List.getElem?_eq_none_iff.1 h;cases k with
  | yes j hb' h' hno'=>
   rcases Nat.le_total i j with hij | hij
   ·rw [hend j hij]
   ·have:=zig h' (i-j);rw [show j+(i-j)=i by omega] at this;rw [this]
  | no j q hb' h' hh hno'=>
   exfalso;rcases Nat.lt_or_ge j i with hij | hij
   ·have:=hno j q hij (by rw [zih (by omega)];exact h');rw [hh] at this;cases this
   ·rw [hend j hij] at h';have:=(List.getElem?_eq_some_iff.1 h').1;omega
  | limit hl' hno'=>
   exfalso;obtain ⟨q,hq⟩:=hl';rcases Nat.lt_or_ge b.toNat i with hij | hij
   ·omega
   ·rw [hend _ hij] at hq;have:=(List.getElem?_eq_some_iff.1 hq).1;omega
 | no i q hb h hh hno=>
  cases k with
  | yes j hb' h' hno'=>
   exfalso;rcases Nat.lt_or_ge i j with hij | hij
   ·have:=hno' i q hij (by rw [zih (by omega)];exact h);rw [hh] at this;cases this
   ·have:=zig h' (i-j);rw [show j+(i-j)=i by omega] at this;rw [this] at h;have h1:=(List.getElem?_eq_some_iff.1 h).1;have h2:=List.getElem?_eq_none_iff.1 h';omega
  | no j q' hb' h' hh' hno'=>
   rcases Nat.lt_trichotomy i j with hij | hij | hij
   ·exfalso;have:=hno' i q hij (by rw [zih (by omega)];exact h);rw [hh] at this;cases this
   ·subst hij;rw [h] at h';cases h';rfl
   ·exfalso;have:=hno j q' hij (by rw [zih (by omega)];exact h');rw [hh'] at this;cases this
  | limit hl' hno'=>
   exfalso;have:=hno' i q (by omega) (by rw [zih (by omega)];exact h);rw [hh] at this;cases this
theorem zqr.made {S:Sch T} {b:Int} {v:Int × List Int × Int × Option T} (hb:0≤b) (h:zqr S b v):v.2.2.1≤b:=by
 cases h with
 | yes i hb' h hno=>
  have:=List.getElem?_eq_none_iff.1 h;simp only;omega
 | no i q hb' h hh hno=>simp only;omega
 | limit _ _=>simp only;omega
theorem lenB_sub {α:Type} [DecidableEq α]:∀{l K:List α},l.Nodup→(∀x∈l,x∈K)→l.length≤K.length
 | [],_,_,_=>Nat.zero_le _
 | x::l,K,hn,hs=>by
  rw [List.nodup_cons] at hn;have hx:=hs x (by simp);have:=lenB_sub (K:=K.erase x) hn.2 fun y hy=>(List.mem_erase_of_ne (fun e=>hn.1 (by rw [← e];exact hy))).2 (hs y (by simp [hy]));rw [List.length_erase_of_mem hx] at this;have:=List.length_pos_iff.2 (List.ne_nil_of_mem hx);rw [List.length_cons];omega
theorem zqr.room {S:Sch T} {b:Int} {v:Int × List Int × Int × Option T} (h:zqr S b v) {K:List T} (hK:∀i q,q∈zcx S i→q.1∈K) (hl:K.length≤b.toNat):v.1≠3:=by
 cases h with
 | yes i hb' h hno=>simp
 | no i q hb' h hh hno=>simp
 | limit hl' hno=>
  exfalso;obtain ⟨q,hq⟩:=hl';have h1:=(List.getElem?_eq_some_iff.1 hq).1;have h2:((zcx S b.toNat).map (·.1)).length≤K.length:=lenB_sub (zg4 S b.toNat).nd fun x hx=>by
   obtain ⟨q,hq,rfl⟩:=List.mem_map.1 hx;exact hK _ q hq
  rw [List.length_map] at h2;omega
inductive Rn (step:T→Int→T→Prop) (s0:T):List Int→T→Prop
 | nil:Rn step s0 [] s0
 | snoc {w:List Int} {x:T} {c:Int} {y:T} (h:Rn step s0 w x) (hs:step x c y):Rn step s0 (w++[c]) y
theorem accB_rn {S:Sch T} {step:T→Int→T→Prop} (hs:∀x c y,(c,y)∈S.ways x→step x c y) (i:Nat):∀(j:Nat) (q:Qb T),(zcx S i)[j]?=some q→Rn step S.start q.2.2.2 q.1:=by
 intro j
 induction j using Nat.strongRecOn with
 | ind j ih=>
  intro q hq;rcases (zg4 S i).par j q hq with ⟨_,rfl⟩ | ⟨p,q',_,h2,h3,h4,h5⟩
  ·exact .nil
  ·rw [h4];exact .snoc (ih p h2 q' h3) (hs _ _ _ h5)
theorem stB_mem {i:Nat} {w:List Int} {acc:List (Qb T)} {e:Int × T}:∀q∈stB i w acc e,q∈acc∨q=(e.2,(i:Int),e.1,w++[e.1]):=fun q hq=>by
 unfold stB at hq;split at hq
 ·exact .inl hq
 ·exact (List.mem_append.1 hq).imp id fun h=>List.mem_singleton.1 h
theorem foldB_mem {i:Nat} {w:List Int}:∀(es:List (Int × T)) (acc:List (Qb T)),∀q∈es.foldl (stB i w) acc,q∈acc∨∃e∈es,q=(e.2,(i:Int),e.1,w++[e.1])
 | [],acc,q,hq=>.inl hq
 | e::es,acc,q,hq=>by
  rcases foldB_mem es _ q hq with h | ⟨e',h1,h2⟩
  ·rcases stB_mem q h with h | h
   ·exact .inl h
   ·exact .inr ⟨e,by simp,h⟩
  ·exact .inr ⟨e',by simp [h1],h2⟩
theorem zkd (S:Sch T):∀(i:Nat),∀q∈zcx S i,q=(S.start, -1,0,[])∨∃(p:Nat) (q':Qb T),p<i∧(zcx S i)[p]?=some q'∧q.2.2.2=q'.2.2.2++[q.2.2.1]∧(q.2.2.1,q.1)∈S.ways q'.1
 | 0,q,hq=>.inl (by simpa [zcx] using hq)
 | i+1,q,hq=>by
  have lift:(q=(S.start, -1,0,[])∨∃(p:Nat) (q':Qb T),p<i∧(zcx S i)[p]?=some q'∧q.2.2.2=q'.2.2.2++[q.2.2.1]∧(q.2.2.1,q.1)∈S.ways q'.1)→(q=(S.start, -1,0,[])∨∃(p:Nat) (q':Qb T),p<i+1∧(zcx S (i+1))[p]?=some q'∧q.2.2.2=q'.2.2.2++[q.2.2.1]∧(q.2.2.1,q.1)∈S.ways q'.1):=fun h=>h.imp id fun ⟨p,q',h1,h2,h3⟩=>⟨p,q',by omega,zd7 (zf7 S i) h2,h3⟩;cases hi:(zcx S i)[i]? with
  | none=>
   rw [zke hi] at hq;exact lift (zkd S i q hq)
  | some q0=>
   have hq':=hq;rw [zg3 hi] at hq';rcases foldB_mem _ _ q hq' with h | ⟨e,h1,h2⟩
   ·exact lift (zkd S i q h)
   ·exact .inr ⟨i,q0,by omega,zd7 (zf7 S i) hi,by rw [h2],by rw [h2];exact h1⟩
end
end Go.Proofs.YtkbboemafklkkaaGreatDoor.V
namespace Go.Proofs.YtkbboemafklkkaaGreatDoor.V
open Go
set_option linter.unusedVariables false
def ltL:List Int→List Int→Prop
 | a::u,b::v=>a<b∨(a=b∧ltL u v)
 | _,_=>False
theorem ltL_trans:∀{u v w:List Int},ltL u v→ltL v w→ltL u w
 | [],_,_,h,_=>h.elim
 | _::_,[],_,h,_=>h.elim
 | _::_,_::_,[],_,k=>k.elim
 | a::u,b::v,c::w,h,k=>by
  rcases h with h | ⟨h1,h2⟩
  ·rcases k with k | ⟨k1,k2⟩
   ·exact .inl (by omega)
   ·exact .inl (by omega)
  ·rcases k with k | ⟨k1,k2⟩
   ·exact .inl (by omega)
   ·exact .inr ⟨by omega,ltL_trans h2 k2⟩
theorem ltL_app (c d:Int):∀{u v:List Int},ltL u v→ltL (u++[c]) (v++[d])
 | [],_,h=>h.elim
 | _::_,[],h=>h.elim
 | a::u,b::v,h=>h.imp id fun h=>⟨h.1,ltL_app c d h.2⟩
theorem ltL_last {c d:Int} (h:c<d):∀u:List Int,ltL (u++[c]) (u++[d])
 | []=>.inl h
 | a::u=>.inr ⟨rfl,ltL_last h u⟩
def sls (u v:List Int):Prop:=u.length<v.length∨(u.length=v.length∧ltL u v)
def sle (u v:List Int):Prop:=u=v∨sls u v
theorem zl9 {u v w:List Int} (h:sls u v) (k:sls v w):sls u w:=by
 rcases h with h | ⟨h1,h2⟩ <;> rcases k with k | ⟨k1,k2⟩
 ·exact .inl (by omega)
 ·exact .inl (by omega)
 ·exact .inl (by omega)
 ·exact .inr ⟨by omega,ltL_trans h2 k2⟩
theorem sle_sls {u v w:List Int} (h:sle u v) (k:sls v w):sls u w:=h.elim (fun e=>by rw [e];exact k) fun h=>zl9 h k
theorem sls_sle {u v w:List Int} (h:sls u v) (k:sle v w):sls u w:=k.elim (fun e=>by rw [← e];exact h) fun k=>zl9 h k
theorem sle_trans {u v w:List Int} (h:sle u v) (k:sle v w):sle u w:=h.elim (fun e=>by rw [e];exact k) fun h=>.inr (sls_sle h k)
theorem sls_app {u v:List Int} (c d:Int) (h:sls u v):sls (u++[c]) (v++[d]):=h.imp (fun h=>by simp;omega) fun h=>⟨by simp;omega,ltL_app c d h.2⟩
theorem sls_last (u:List Int) {c d:Int} (h:c<d):sls (u++[c]) (u++[d]):=.inr ⟨by simp,ltL_last h u⟩
theorem sle_app {u v:List Int} {c d:Int} (h:sle u v) (hc:c≤d):sle (u++[c]) (v++[d]):=by
 rcases h with rfl | h
 ·rcases Int.lt_or_eq_of_le hc with h | rfl
  ·exact .inr (sls_last u h)
  ·exact .inl rfl
 ·exact .inr (sls_app c d h)
theorem sls_more (u:List Int) (c:Int):sls u (u++[c]):=.inl (by simp)
section
variable {T : Type} [DecidableEq T]
def Ris (acc:List (Qb T)):Prop:=∀(j m:Nat) (q q':Qb T),j<m→acc[j]?=some q→acc[m]?=some q'→sls q.2.2.2 q'.2.2.2
theorem stB_ris {i:Nat} {w:List Int} {acc:List (Qb T)} {e:Int × T} (h:Ris acc) (h2:∀q∈acc,sls q.2.2.2 (w++[e.1])):Ris (stB i w acc e):=fun j m q q' hjm hq hq'=>by
 unfold stB at hq hq';split at hq
 ·rename_i hh
  rw [if_pos hh] at hq';exact h j m q q' hjm hq hq'
 ·rename_i hh
  rw [if_neg hh] at hq';have hml:=(List.getElem?_eq_some_iff.1 hq').1;simp at hml;have hj:j<acc.length:=by omega
  rw [List.getElem?_append_left hj] at hq
  by_cases hm:m<acc.length
  ·rw [List.getElem?_append_left hm] at hq';exact h j m q q' hjm hq hq'
  ·have em:m=acc.length:=by omega
   subst em;rw [List.getElem?_append_right (Nat.le_refl _)] at hq';simp at hq';subst hq';exact h2 q (List.mem_of_getElem? hq)
theorem zm1 {i:Nat} {w:List Int}:∀(es:List (Int × T)) (acc:List (Qb T)),es.Pairwise (fun a b=>a.1<b.1)→Ris acc→(∀q∈acc,∀e∈es,sls q.2.2.2 (w++[e.1])) →
  Ris (es.foldl (stB i w) acc)∧∀e∈es,∃q'∈es.foldl (stB i w) acc,q'.1=e.2∧sle q'.2.2.2 (w++[e.1])
 | [],acc,_,h,_=>⟨h,fun e h=>by cases h⟩
 | e::es,acc,hp,h,h2=>by
  rw [List.pairwise_cons] at hp;have h3:=stB_ris (i:=i) h fun q hq=>h2 q hq e (by simp);obtain ⟨k1,k2⟩:=zm1 (i:=i) es (stB i w acc e) hp.2 h3 fun q hq e' he'=>by
   rcases stB_mem q hq with hq | hq
   ·exact h2 q hq e' (by simp [he'])
   ·rw [hq];exact sls_last w (hp.1 e' he')
  refine ⟨k1,fun e' he'=>?_⟩;rcases List.mem_cons.1 he' with rfl | he'
  ·cases hh:hasQ acc e'.2
   ·refine ⟨(e'.2,(i:Int),e'.1,w++[e'.1]),(zm2 i w es _).subset ?_,rfl,.inl rfl⟩;unfold stB;rw [hh];simp
   ·obtain ⟨q',a,b⟩:=hasQ_iff.1 hh;refine ⟨q',(zm2 i w es _).subset ((stB_pre i w acc e').subset a),b,.inr (h2 q' a e' (by simp))⟩
  ·exact k2 e' he'
theorem zqq {S:Sch T}:∀(i:Nat),(∀(j:Nat) (q:Qb T),j<i→(zcx S i)[j]?=some q→(S.ways q.1).Pairwise (fun a b=>a.1<b.1))→Ris (zcx S i)
 | 0,_=>fun j m q q' hjm hq hq'=>by
  have:=(List.getElem?_eq_some_iff.1 hq').1;simp [zcx] at this;omega
 | i+1,hst=>by
  have ih:=zqq i fun j q hj hq=>hst j q (by omega) (zd7 (zf7 S i) hq);cases hi:(zcx S i)[i]? with
  | none=>rw [zke hi];exact ih
  | some q0=>
   have hw:=hst i q0 (by omega) (zd7 (zf7 S i) hi);rw [zg3 hi];refine (zm1 _ _ hw ih fun q hq e he=>?_).1;rcases zkd S i q hq with h | ⟨p,q',h1,h2,h3,_⟩
   ·rw [h];exact .inl (by simp)
   ·rw [h3];exact sls_app _ _ (ih p i q' q0 h1 h2 hi)
theorem accB_least {S:Sch T} {i j:Nat} {q:Qb T} (hst:∀(j:Nat) (q:Qb T),j<i→(zcx S i)[j]?=some q→(S.ways q.1).Pairwise (fun a b=>a.1<b.1)) (hj:j<i) (hq:(zcx S i)[j]?=some q) {e:Int × T} (he:e∈S.ways q.1):
  ∃(m:Nat) (q':Qb T),(zcx S i)[m]?=some q'∧q'.1=e.2∧sle q'.2.2.2 (q.2.2.2++[e.1]):=by
 have hq0:(zcx S j)[j]?=some q:=by rw [← zih (Nat.le_of_lt hj)];exact hq
 have hst':∀(k:Nat) (q:Qb T),k<j→(zcx S j)[k]?=some q→(S.ways q.1).Pairwise (fun a b=>a.1<b.1):=fun k q hk h=>hst k q (by omega) (zd7 (zlw S (Nat.le_of_lt hj)) h);have ih:=zqq j hst';have h1:=(zm1 (i:=j) (w:=q.2.2.2) (S.ways q.1) (zcx S j) (hst j q hj hq) ih fun q' hq' e' he'=>by
  rcases zkd S j q' hq' with h | ⟨p,q2,k1,k2,k3,_⟩
  ·rw [h];exact .inl (by simp)
  ·rw [k3];exact sls_app _ _ (ih p j q2 q k1 k2 hq0)).2 e he
 obtain ⟨q',a,b,c⟩:=h1;have e1:zcx S (j+1)=(S.ways q.1).foldl (stB j q.2.2.2) (zcx S j):=zg3 hq0;rw [← e1] at a;obtain ⟨m,hm⟩:=List.getElem?_of_mem a;exact ⟨m,q',zd7 (zlw S hj) hm,b,c⟩
theorem cov_least {S:Sch T} {step:T→Int→T→Prop} {B:Int→Prop} {i:Nat} (hst:∀(j:Nat) (q:Qb T),j<i→(zcx S i)[j]?=some q→(S.ways q.1).Pairwise (fun a b=>a.1<b.1))
  (hc:∀q∈zcx S i,∀c y,B c→step q.1 c y→∃b,b≤c∧(b,y)∈S.ways q.1) {w:List Int} {y:T} (h:Rn step S.start w y) (hw:∀c∈w,B c):
  (∃(m:Nat) (q:Qb T),(zcx S i)[m]?=some q∧q.1=y∧sle q.2.2.2 w)∨∃(k:Nat) (q:Qb T),i≤k∧(zcx S i)[k]?=some q∧sls q.2.2.2 w:=by
 induction h with
 | nil=>
  left;have:(zcx S 0)[0]?=some (S.start, -1,0,[]):=rfl;exact ⟨0,_,zd7 (zlw S (Nat.zero_le i)) this,rfl,.inl rfl⟩
 | snoc h hs ih=>
  rename_i w x c y
  rcases ih fun c hc=>hw c (by simp [hc]) with ⟨m,q,h1,h2,h3⟩ | ⟨k,q,h1,h2,h3⟩
  ·by_cases hm:m<i
   ·rw [← h2] at hs;obtain ⟨b,hb1,hb⟩:=hc q (List.mem_of_getElem? h1) c y (hw c (by simp)) hs;obtain ⟨m',q',k1,k2,k3⟩:=accB_least hst hm h1 hb;exact .inl ⟨m',q',k1,k2,sle_trans k3 (sle_app h3 hb1)⟩
   ·exact .inr ⟨m,q,by omega,h1,sle_sls h3 (sls_more w c)⟩
  ·exact .inr ⟨k,q,h1,h2,zl9 h3 (sls_more w c)⟩
theorem zqr.least {S:Sch T} {step:T→Int→T→Prop} {B:Int→Prop} {b:Int} {v:Int × List Int × Int × Option T} (h:zqr S b v) (hs:∀x c y,(c,y)∈S.ways x→step x c y)
  (hst:∀i:Nat,(i:Int)≤b∨i=0→∀q∈zcx S i,(S.ways q.1).Pairwise (fun a b=>a.1<b.1))
  (hc:∀i:Nat,(i:Int)≤b∨i=0→∀q∈zcx S i,∀c y,B c→step q.1 c y→∃d,d≤c∧(d,y)∈S.ways q.1):
  (v.1=1→v.2.1=[]∧∀w y,(∀c∈w,B c)→Rn step S.start w y→S.hit y=false)∧(v.1=2→∃x,v.2.2.2=some x∧S.hit x=true∧Rn step S.start v.2.1 x∧∀w y,(∀c∈w,B c)→Rn step S.start w y→S.hit y=true→sle v.2.1 w)∧(v.1=1∨v.1=2∨v.1=3):=by
 cases h with
 | limit _ _=>exact ⟨(fun h=>by simp at h),(fun h=>by simp at h),.inr (.inr rfl)⟩
 | yes i hb h hno=>
  have hst':∀(j:Nat) (q:Qb T),j<i→(zcx S i)[j]?=some q→(S.ways q.1).Pairwise (fun a b=>a.1<b.1):=fun j q _ hq=>hst i (by omega) q (List.mem_of_getElem? hq);refine ⟨fun _=>⟨rfl,fun w y hw hr=>?_⟩,(fun h=>by simp at h),.inl rfl⟩;have hl:=List.getElem?_eq_none_iff.1 h;rcases cov_least hst' (hc i (by omega)) hr hw with ⟨m,q,h1,h2,_⟩ | ⟨k,q,h1,h2,_⟩
  ·have:=(List.getElem?_eq_some_iff.1 h1).1;rw [← h2];exact hno m q (by omega) h1
  ·have:=(List.getElem?_eq_some_iff.1 h2).1;omega
 | no i q hb h hh hno=>
  have hst':∀(j:Nat) (q:Qb T),j<i→(zcx S i)[j]?=some q→(S.ways q.1).Pairwise (fun a b=>a.1<b.1):=fun j q _ hq=>hst i (by omega) q (List.mem_of_getElem? hq);have hris:=zqq i hst';have hle:∀m q',i≤m→(zcx S i)[m]?=some q'→sle q.2.2.2 q'.2.2.2:=fun m q' him hq'=>by
   rcases Nat.lt_or_eq_of_le him with h1 | h1
   ·exact .inr (hris i m q q' h1 h hq')
   ·subst h1;rw [h] at hq';cases hq';exact .inl rfl
  refine ⟨(fun h=>by simp at h),fun _=>⟨q.1,rfl,hh,accB_rn hs i i q h,fun w y hw hr hy=>?_⟩,.inr (.inl rfl)⟩;rcases cov_least hst' (hc i (by omega)) hr hw with ⟨m,q',h1,h2,h3⟩ | ⟨k,q',h1,h2,h3⟩
  ·have hm:i≤m:=by
    rcases Nat.lt_or_ge m i with hm | hm
    ·have:=hno m q' hm h1;rw [h2,hy] at this;cases this
    ·exact hm
   exact sle_trans (hle m q' hm h1) h3
  ·exact .inr (sle_sls (hle k q' h1 h2) h3)
end
end Go.Proofs.YtkbboemafklkkaaGreatDoor.V
namespace Go.Proofs.YtkbboemafklkkaaGreatDoor.V
open Go
set_option linter.unusedVariables false
abbrev TS:=List (List SItem)
structure Rm (d:List SNode) (l:TS):Prop where
 sm:∀s∈l,Sm d s
 len:l.length≤1000000000
 cls:(zlr d l).length≤1000000000000
 on:∀c,InR .u8 c→Room d c l
 out:∀c,InR .u8 c→(onS d c l).length≤1000000000
theorem pas_24_10:pas 24 10≤1000000000:=pas_le (by decide +kernel)
theorem pas_17_9:pas 17 9≤4000000:=pas_le (by decide +kernel)
theorem rm_of {d:List SNode} (h:Rt d) (hl:d.length≤24) (ht:Txt d) {w:List Int} (hw:∀c∈w,InR .u8 c) (hwl:w.length≤9) (l1:(zen d w).length≤4000000):Rm d (zen d w):=by
 have p10:pas d.length (w.length+1)≤1000000000:=pas_le2 (m':=24) (k':=10) (by omega) (by omega) pas_24_10;refine ⟨fun s hs=>(zhk h (by omega) ht hw hs).1,by omega, ?_,fun c hc=>room_after h (by omega) ht hw hc (by omega),fun c hc=>?_⟩
 ·have h1:=zqj h (m:=24) (zen d w) fun s hs=>(zhk h (by omega) ht hw hs).2;have h2:256*(24*(d.length+1)+1)*(zen d w).length≤256*(24*25+1)*4000000:=Nat.mul_le_mul (by omega) (by omega);omega
 ·have hw2:∀b∈w++[c],InR .u8 b:=fun b hb=>(List.mem_append.1 hb).elim (hw b) fun e=>by rw [List.mem_singleton.1 e];exact hc
  have:=zqo h hw2;rw [zei,List.length_append,List.length_singleton] at this;omega
theorem rm_heavy {d:List SNode} (h:Rt d) (hl:d.length≤17) (ht:Txt d) {w:List Int} (hw:∀c∈w,InR .u8 c) (hwl:w.length≤9):Rm d (zen d w):=
 rm_of h (by omega) ht hw hwl (Nat.le_trans (zqo h hw) (pas_le2 (m':=17) (k':=9) (by omega) (by omega) pas_17_9))
theorem rm_light {d:List SNode} (h:Rt d) (hl:d.length≤24) (ht:Txt d) (hn:NoFr d) (hs:szN d d.length ((d.length:Int)-1)≤1000) {w:List Int} (hw:∀c∈w,InR .u8 c):Rm d (zen d w):=by
 obtain ⟨K,k1,k2⟩:=zqp h hn;have l1:=aftS_few h hn w;refine ⟨fun s hs=>(zhk h hl ht hw hs).1,by omega, ?_,fun c hc=>⟨fun s hs=>(zhk h hl ht hw hs).1,by omega,K,by omega,fun s hs t hts=>k2 (w++[c]) t ?_⟩,fun c hc=>?_⟩
 ·have h1:=zqj h (m:=24) (zen d w) fun s hs=>(zhk h hl ht hw hs).2;have h2:256*(24*(d.length+1)+1)*(zen d w).length≤256*(24*25+1)*1001:=Nat.mul_le_mul (by omega) (by omega);omega
 ·rw [zei,zkt];exact ⟨s,hs,hts⟩
 ·have:=aftS_few h hn (w++[c]);rw [zei] at this;omega
theorem bytS_u8 {d:List SNode} {l:TS} {c:Int} (h:c∈bytS d l):InR .u8 c:=bytC_u8 h
def Lk (d:List SNode) (b:Int):Prop:=∀w,(∀c∈w,InR .u8 c)→(w.length:Int)<b∨w.length≤9→Rm d (zen d w)
theorem lk_light {d:List SNode} (h:Rt d) (hl:d.length≤24) (ht:Txt d) (hn:NoFr d) (hs:szN d d.length ((d.length:Int)-1)≤1000) (b:Int):Lk d b:=fun w hw _=>rm_light h hl ht hn hs hw
theorem lk_heavy {d:List SNode} (h:Rt d) (hl:d.length≤17) (ht:Txt d) {b:Int} (hb:b≤10):Lk d b:=fun w hw hwl=>rm_heavy h hl ht hw (by omega)
theorem rm_pre {d:List SNode} {b:Int} (hk:Lk d b) {w:List Int} (hw:∀c∈w,InR .u8 c) (hwl:(w.length:Int)<b∨w.length≤9) (i:Nat):Rm d (zen d (w.take i)):=
 hk _ (fun c hc=>hw c (List.mem_of_mem_take hc)) (by rw [List.length_take];omega)
def zfo (l:List Int) (x:Int):Int:=if 0≤x∧x<(l.length:Int) then (at? l x).getD 0 else 0
def zn6 (e:SNode) (a b:Int):Int:=if e.1=7 then (1+max 0 (min e.2.2.2.2.1 1000))*a else if e.1=6∨e.1=8∨e.1=9 then a+1 else if e.1=4∨e.1=5 then a+b else if e.1=3 then 1+min (e.2.2.2.2.2.2.length:Int) 1000 else 1
def wl (d:List SNode):Nat→List Int
 | 0=>[]
 | i+1=>match d[i]? with
  | none=>wl d i
  | some e=>wl d i++[min (zn6 e (zfo (wl d i) e.2.1) (zfo (wl d i) e.2.2.1)) 1000]
theorem zkk {d:List SNode} {i:Nat} (hi:i<d.length):wl d (i+1)=wl d i++[min (zn6 d[i] (zfo (wl d i) d[i].2.1) (zfo (wl d i) d[i].2.2.1)) 1000]:=by
 show (match d[i]? with | none=>wl d i | some e=>wl d i++[min (zn6 e (zfo (wl d i) e.2.1) (zfo (wl d i) e.2.2.1)) 1000])=_;rw [List.getElem?_eq_getElem hi]
theorem zn5 {d:List SNode}:∀{i:Nat},i≤d.length→(wl d i).length=i
 | 0,_=>rfl
 | i+1,h=>by rw [zkk (by omega),List.length_append,zn5 (by omega)];rfl
theorem mul_few {x a:Int} (hx:0≤x∧x≤1001) (ha:0≤a∧a≤1000):0≤x*a∧x*a≤1001000:=by
 refine ⟨Int.mul_nonneg hx.1 ha.1, ?_⟩;have:=Int.mul_le_mul hx.2 ha.2 ha.1 (by omega);omega
theorem wgt1_ok {e:SNode} {a b:Int} (ha:0≤a∧a≤1000) (hb:0≤b∧b≤1000):0≤zn6 e a b:=by
 unfold zn6;split
 ·exact (mul_few (by omega) ha).1
 ·split
  ·omega
  ·split
   ·omega
   ·split <;> omega
theorem zh3 {l:List Int} (h:∀x∈l,0≤x∧x≤1000) (x:Int):0≤zfo l x∧zfo l x≤1000:=by
 unfold zfo;split
 ·rename_i hx
  obtain ⟨y,hy,hm⟩:=zn3 hx.1 hx.2;rw [hy];exact h y hm
 ·omega
theorem wl_ok {d:List SNode}:∀{i:Nat},i≤d.length→∀x∈wl d i,0≤x∧x≤1000
 | 0,_,x,hx=>by cases hx
 | i+1,h,x,hx=>by
  have ih:=wl_ok (d:=d) (i:=i) (by omega);rw [zkk (by omega)] at hx;rcases List.mem_append.1 hx with hx | hx
  ·exact ih x hx
  ·rw [List.mem_singleton.1 hx];have:=wgt1_ok (e:=d[i]) (zh3 ih d[i].2.1) (zh3 ih d[i].2.2.1);omega
theorem w7 {L1:List Int→Int→Prop} {l:List Int} {i:Int} {e:SNode} {a:Int} (hl:l.length≤1000) (hi:0≤i∧i≤1000) (ha:0≤a∧a≤1000) (hb:0≤zfo l e.2.2.1∧zfo l e.2.2.1≤1000) (h:L1 (l++[min (zn6 e a (zfo l e.2.2.1)) 1000]) (i+1)):zj.j7 L1 l i e a:=by
 have e2:∀w,w=zn6 e a (zfo l e.2.2.1)→zj.j2 L1 l i w:=fun w hw=>by
  subst hw;exact ⟨by simp;omega,zh (by omega) (by omega),h⟩
 have e3:∀w,e.1=7∨w=zn6 e a (zfo l e.2.2.1)→zj.j3 L1 l i e a w:=fun w hw=>by
  refine ⟨fun h7=>?_,fun h7=>e2 w (hw.resolve_left (by simpa using h7))⟩;have h7:e.1=7:=by simpa using h7
  have:=mul_few (x:=1+max 0 (min e.2.2.2.2.1 1000)) (by omega) ha;exact ⟨zh (by omega) (by omega),zh (by omega) (by omega),e2 _ (by unfold zn6;rw [if_pos h7])⟩
 have e4:∀w,e.1=7∨(e.1=6∨e.1=8∨e.1=9)∨w=zn6 e a (zfo l e.2.2.1)→zj.j4 L1 l i e a w:=fun w hw=>by
  refine ⟨fun h6=>⟨zh (by omega) (by omega),e3 _ ?_⟩,fun h6=>e3 w ?_⟩
  ·have h6:e.1=6∨e.1=8∨e.1=9:=by simpa [or_assoc] using h6
   refine .inr ?_;unfold zn6;rw [if_neg (by omega),if_pos h6]
  ·have h6:¬ (e.1=6∨e.1=8∨e.1=9):=by simpa [or_assoc,and_assoc] using h6
   exact hw.imp id fun h=>h.resolve_left h6
 have e5:∀w,e.1=7∨(e.1=6∨e.1=8∨e.1=9)∨(e.1=4∨e.1=5)∨w=zn6 e a (zfo l e.2.2.1)→zj.j5 L1 l i e a (zfo l e.2.2.1) w:=fun w hw=>by
  refine ⟨fun h4=>⟨zh (by omega) (by omega),e4 _ ?_⟩,fun h4=>e4 w ?_⟩
  ·have h4:e.1=4∨e.1=5:=by simpa using h4
   refine .inr (.inr ?_);unfold zn6;rw [if_neg (by omega),if_neg (by omega),if_pos h4]
  ·have h4:¬ (e.1=4∨e.1=5):=by simpa using h4
   exact hw.imp id fun h=>h.imp id fun h=>h.resolve_left h4
 have e6:zj.j6 L1 l i e a (zfo l e.2.2.1):=by
  refine ⟨fun h3=>⟨zh (by omega) (by omega),e5 _ ?_⟩,fun h3=>e5 1 ?_⟩
  ·have h3:e.1=3:=by simpa using h3
   refine .inr (.inr (.inr ?_));unfold zn6;rw [if_neg (by omega),if_neg (by omega),if_neg (by omega),if_pos h3]
  ·have h3:¬ e.1=3:=by simpa using h3
   by_cases k7:e.1=7
   ·exact .inl k7
   by_cases k6:e.1=6∨e.1=8∨e.1=9
   ·exact .inr (.inl k6)
   by_cases k4:e.1=4∨e.1=5
   ·exact .inr (.inr (.inl k4))
   refine .inr (.inr (.inr ?_));unfold zn6;rw [if_neg k7,if_neg k6,if_neg k4,if_neg h3]
 refine ⟨_,rfl,fun hc=>?_,fun hc=>?_⟩
 ·simp only [Bool.and_eq_true,decide_eq_true_eq] at hc;obtain ⟨y,hy,_⟩:=zn3 hc.1 hc.2;have:zfo l e.2.2.1=y:=by unfold zfo;rw [if_pos hc,hy];rfl
  rw [this] at e6;exact ⟨y,hy,e6⟩
 ·have:zfo l e.2.2.1=0:=by
   unfold zfo;rw [if_neg];simp only [Bool.and_eq_false_iff,decide_eq_false_iff_not] at hc;omega
  rw [this] at e6;exact e6
theorem zmi {d:List SNode} (hl:d.length≤100):zj d (if d.length=0 then 0 else zfo (wl d d.length) ((d.length:Int)-1)):=by
 refine zg5 (P:=fun k l v=>zj.l1 d _ k l v) d.length (fun i l=>l=wl d i) ?_ ?_ [] rfl
 ·rintro i l hi rfl;have hlen:=zn5 (d:=d) (i:=i) (by omega);have hok:=wl_ok (d:=d) (i:=i) (by omega);refine .inr ⟨_,(zkk hi).symm,fun k hk=>⟨_,rfl,fun _=>⟨_,zfp hi,_,rfl,fun hc=>?_,fun hc=>?_⟩,fun hc=>?_⟩⟩
  ·simp only [Bool.and_eq_true,decide_eq_true_eq] at hc;obtain ⟨y,hy,hm⟩:=zn3 hc.1 hc.2;have e:zfo (wl d i) d[i].2.1=y:=by unfold zfo;rw [if_pos hc,hy];rfl
   rw [e] at hk;exact ⟨y,hy,w7 (by omega) (by omega) (hok y hm) (zh3 hok _) hk⟩
  ·have e:zfo (wl d i) d[i].2.1=0:=by
    unfold zfo;rw [if_neg];simp only [Bool.and_eq_false_iff,decide_eq_false_iff_not] at hc;omega
   rw [e] at hk;exact w7 (by omega) (by omega) (by omega) (zh3 hok _) hk
  ·exfalso;simp only [Bool.and_eq_false_iff,decide_eq_false_iff_not] at hc;omega
 ·rintro l rfl k;have hlen:=zn5 (d:=d) (i:=d.length) (Nat.le_refl _);refine ⟨_,rfl,fun hc=>?_,fun _=>⟨fun h=>?_,fun h=>?_⟩⟩
  ·exfalso;simp only [Bool.and_eq_true,decide_eq_true_eq] at hc;omega
  ·rw [hlen] at h;rw [if_pos (by have:=eq_of_beq h;omega)]
  ·rw [hlen] at h;have hp:d.length≠0:=by have:=beq_eq_false_iff_ne.1 h;omega
   obtain ⟨y,hy,_⟩:=zn3 (xs:=wl d d.length) (i:=(d.length:Int)-1) (by omega) (by omega);refine ⟨zh (by omega) (by omega),y,by rw [hlen];exact hy, ?_⟩;rw [if_neg hp];unfold zfo;rw [if_pos (by omega),hy];rfl
theorem wl_pre {d:List SNode} {i:Nat}:∀{j:Nat},i≤j→j≤d.length→wl d i <+: wl d j
 | 0,h,_=>by rw [Nat.le_zero.1 h];exact List.prefix_refl _
 | j+1,h,hj=>by
  rcases Nat.lt_or_eq_of_le h with h1 | h1
  ·rw [zkk (by omega)];exact (wl_pre (Nat.le_of_lt_succ h1) (by omega)).trans (List.prefix_append _ _)
  ·rw [h1];exact List.prefix_refl _
theorem zlp {d:List SNode} {i:Nat} (hi:i≤d.length) {x:Int} (h0:0≤x) (h1:x<(i:Int)):zfo (wl d i) x=zfo (wl d d.length) x:=by
 have l1:=zn5 (d:=d) hi;have l2:=zn5 (d:=d) (i:=d.length) (Nat.le_refl _);obtain ⟨m,rfl⟩:∃m:Nat,x=m:=⟨x.toNat,by omega⟩;unfold zfo;rw [if_pos (by omega),if_pos (by omega),zbr,zbr];obtain ⟨r,hr⟩:=wl_pre (d:=d) hi (Nat.le_refl _);rw [← hr,List.getElem?_append_left (by omega)]
theorem look_at {d:List SNode} {i:Int} {e:SNode} (he:at? d i=some e):zfo (wl d d.length) i=min (zn6 e (zfo (wl d i.toNat) e.2.1) (zfo (wl d i.toNat) e.2.2.1)) 1000:=by
 obtain ⟨h0,h1⟩:=zbs he;obtain ⟨m,rfl⟩:∃m:Nat,i=m:=⟨i.toNat,by omega⟩;have hm:m<d.length:=by omega
 have he':d[m]=e:=by
  rw [zbr,List.getElem?_eq_getElem hm] at he;exact Option.some.inj he
 rw [← zlp (d:=d) (i:=m+1) (by omega) (by omega) (by omega)];have l1:=zn5 (d:=d) (i:=m) (by omega);unfold zfo;rw [if_pos (by rw [zkk hm,List.length_append,l1];simp;omega),zbr,zkk hm,List.getElem?_append_right (by omega),l1,Nat.sub_self,he'];simp [zfo]
theorem sz_wgt {d:List SNode} (hn:∀n∈d,n.1≠8∧n.1≠9) {f i:Int} (h:Tr d f i):∀k,zfo (wl d d.length) i<1000→((szN d k i:Nat):Int)≤zfo (wl d d.length) i:=by
 have hok:∀x,0≤zfo (wl d d.length) x∧zfo (wl d d.length) x≤1000:=fun x=>zh3 (wl_ok (Nat.le_refl _)) x;have hs:∀{i:Int} {e:SNode} (k:Nat),at? d i=some e→szN d (k+1) i=if e.1=2 then 1 else if e.1=3 then e.2.2.2.2.2.2.length else if e.1=4∨e.1=5 then szN d k e.2.1+szN d k e.2.2.1 else if e.1=6 then szN d k e.2.1 else if e.1=7 then e.2.2.2.2.1.toNat*szN d k e.2.1 else 0:=fun {i e} k he=>by
  simp only [szN,he]
 induction h with
 | leaf he hk hx h0=>
  rename_i i e
  intro k hlt;have hl:=look_at he;rw [hl] at hlt ⊢;cases k with
  | zero=>have:=wgt1_ok (e:=e) (zh3 (wl_ok (d:=d) (i:=i.toNat) (by have:=zbs he;omega)) e.2.1) (zh3 (wl_ok (d:=d) (i:=i.toNat) (by have:=zbs he;omega)) e.2.2.1);show (0:Int)≤_;omega
  | succ k=>
   rw [hs k he];unfold zn6 at hlt ⊢;rcases hk with k1 | k1 | k1
   ·simp only [k1] at hlt ⊢;simp;try omega
   ·simp only [k1] at hlt ⊢;simp;try omega
   ·simp only [k1] at hlt ⊢;simp at hlt ⊢;omega
 | one he hk ha hb hr h ih=>
  rename_i f i e
  intro k hlt;have hle:=h.le;have hbd:=zbs he;have hl:=look_at he;rw [ha,zlp (i:=i.toNat) (by omega) (by omega) (by omega)] at hl;have hA:=hok (i-1);have hw:=wgt1_ok (e:=e) (a:=zfo (wl d d.length) (i-1)) hA (zh3 (wl_ok (d:=d) (i:=i.toNat) (by omega)) e.2.2.1);rw [hl] at hlt ⊢;cases k with
  | zero=>show (0:Int)≤_;omega
  | succ k=>
   rw [hs k he,ha];have ih:=ih k;unfold zn6 at hlt ⊢;rcases hk with k1 | k1 | k1 | k1
   ·simp only [k1] at hlt ⊢;simp at hlt ⊢;have:=ih (by omega);omega
   ·have hr:=hr k1;simp only [k1] at hlt ⊢;simp only [show ¬ ((7:Int)=2) by decide,show ¬ ((7:Int)=3) by decide,show ¬ ((7:Int)=4∨(7:Int)=5) by decide,show ¬ ((7:Int)=6) by decide,if_false,if_true] at hlt ⊢;have hx:1+max 0 (min e.2.2.2.2.1 1000)=1+e.2.2.2.2.1:=by omega
    rw [hx] at hlt ⊢;have hA2:zfo (wl d d.length) (i-1)<1000:=by
     rcases Int.lt_or_le (zfo (wl d d.length) (i-1)) 1000 with h | h
     ·exact h
     ·have h2:zfo (wl d d.length) (i-1)≤(1+e.2.2.2.2.1)*zfo (wl d d.length) (i-1):=by
       have:=Int.mul_le_mul_of_nonneg_right (show (1:Int)≤1+e.2.2.2.2.1 by omega) hA.1;omega
      omega
    have ih:=ih hA2;have e1:(((e.2.2.2.2.1.toNat*szN d k (i-1):Nat)):Int)=e.2.2.2.2.1*(szN d k (i-1):Int):=by
     rw [Int.natCast_mul,Int.toNat_of_nonneg (by omega)]
    rw [e1];have h3:e.2.2.2.2.1*(szN d k (i-1):Int)≤(1+e.2.2.2.2.1)*zfo (wl d d.length) (i-1):=Int.mul_le_mul (by omega) ih (by omega) (by omega);omega
   ·exact absurd k1 (hn _ (at_mem he)).1
   ·exact absurd k1 (hn _ (at_mem he)).2
 | two he hk ha hb h1 h2 i1 i2=>
  rename_i f p i e
  intro k hlt;have l1:=h1.le;have l2:=h2.le;have hbd:=zbs he;have hl:=look_at he;rw [ha,hb,zlp (i:=i.toNat) (by omega) (by omega) (by omega),zlp (i:=i.toNat) (by omega) (by omega) (by omega)] at hl;have hA:=hok (p-1);have hB:=hok (i-1);rw [hl] at hlt ⊢;have hw:zn6 e (zfo (wl d d.length) (p-1)) (zfo (wl d d.length) (i-1))=zfo (wl d d.length) (p-1)+zfo (wl d d.length) (i-1):=by
   unfold zn6;rw [if_neg (by omega),if_neg (by omega),if_pos hk]
  rw [hw] at hlt ⊢;cases k with
  | zero=>show (0:Int)≤_;omega
  | succ k=>
   rw [hs k he,ha,hb,if_neg (by omega),if_neg (by omega),if_pos hk];have j1:=i1 k (by omega);have j2:=i2 k (by omega);rw [Int.natCast_add];omega
theorem Heavy_ex {d:List SNode} (hl:d.length≤1000):∃r,zbw d r∧(r=false→∀n∈d,n.1≠8∧n.1≠9):=by
 rcases Classical.em (∀n∈d,n.1≠8∧n.1≠9) with hn | hn
 ·refine ⟨false, ?_,fun _=>hn⟩;refine zg5 (P:=fun k (_:Unit) v=>zbw.l1 d false _ k v) d.length (fun _ _=>True) ?_ ?_ () trivial
  ·intro i _ hi _;have:=hn _ (List.getElem_mem hi);refine .inr ⟨(),trivial,fun k hk=>⟨fun _=>⟨_,zfp hi,_,fun _=>zfp hi,fun h=>?_,fun _=>⟨zh (by omega) (by omega),hk⟩⟩,fun h=>absurd (by omega) (df h)⟩⟩;simp [this.1,this.2] at h
  ·intro _ _ k;exact ⟨fun h=>absurd (dt h) (by omega),fun _=>rfl⟩
 ·refine ⟨true, ?_,(fun h=>by cases h)⟩;refine zg5 (P:=fun k (_:Unit) v=>zbw.l1 d true _ k v) d.length (fun i _=>∀n∈d.take i,n.1≠8∧n.1≠9) ?_ ?_ () (by simp)
  ·intro i _ hi hI
   by_cases hb:d[i].1=8∨d[i].1=9
   ·exact .inl fun k=>⟨fun _=>⟨_,zfp hi,_,fun _=>zfp hi,fun _=>rfl,fun h=>by
     rcases hb with hb | hb <;> simp [hb] at h⟩,fun h=>absurd (by omega) (df h)⟩
   ·refine .inr ⟨(),fun n hnm=>?_,fun k hk=>⟨fun _=>⟨_,zfp hi,_,fun _=>zfp hi,fun _=>rfl,fun _=>⟨zh (by omega) (by omega),hk⟩⟩,fun h=>absurd (by omega) (df h)⟩⟩;rw [List.take_succ_eq_append_getElem hi,List.mem_append,List.mem_singleton] at hnm;rcases hnm with h | rfl
    ·exact hI n h
    ·omega
  ·intro _ hI k;rw [List.take_length] at hI;exact absurd hI hn
theorem Light_ex {d e:List SNode} (hl:d.length≤1000) (hm:e.length≤1000) (b:Int):∃r,zf2 d e b r∧(r=true→b≤10∨(∀n∈d,n.1≠8∧n.1≠9)∧∀n∈e,n.1≠8∧n.1≠9):=by
 obtain ⟨r,h1,h2⟩:=Heavy_ex hl;obtain ⟨s,k1,k2⟩:=Heavy_ex hm;refine ⟨_,⟨r,fun _=>h1,s,fun _=>k1,rfl⟩,fun h=>?_⟩;simp only [Bool.or_eq_true,decide_eq_true_eq,Bool.and_eq_true,Bool.not_eq_true'] at h;exact h.imp id fun h=>⟨h2 h.1,k2 h.2⟩
structure FewD (d:List SNode):Prop where
 rt:Rt d
 len:d.length≤16
 sz:(∀n∈d,n.1≠8∧n.1≠9)→szN d d.length ((d.length:Int)-1)≤60
def FewB (d:List SNode) (r:Bool):Prop:=∃r1:Bool,zcr d r1∧∃r3:Int,((((r1&&(decide ((d.length:Int)≤16))))=true)→zj d r3)∧∃b5:Bool,b5=((r1&&(decide ((d.length:Int)≤16)))&&(decide (r3≤60)))∧∃r7:Bool,(((b5)=true)→zf1 d r7)∧r=(b5&&r7)
theorem few_of {d:List SNode} (ht:Txt d):∃r,FewB d r∧(r=true→FewD d):=by
 obtain ⟨r3,h3,h3b⟩:=few_ex ht;cases r3
 ·exact ⟨false,⟨false,h3,0,(fun h=>by simp at h),_,rfl,false,(fun h=>by simp at h),by simp⟩,(fun h=>by cases h)⟩
 ·have hl:=h3b rfl;have hw:=zmi hl;obtain ⟨r9,h9,h9b⟩:=right_ok (d:=d) (by omega) ht;refine ⟨_,⟨true,h3,_,fun _=>hw,_,rfl,r9,fun _=>h9,rfl⟩,fun h=>?_⟩;simp only [Bool.true_and,Bool.and_eq_true,decide_eq_true_eq] at h;obtain ⟨⟨g1,g2⟩,g3⟩:=h;have hR:=h9b g3;refine ⟨hR,by omega,fun hn=>?_⟩;have hp:=List.length_pos_iff.2 hR.ne;rw [if_neg (by omega)] at g2;have:=sz_wgt hn hR.tr d.length (by omega);omega
theorem FewD.lk {d:List SNode} (h:FewD d) (ht:Txt d) {b:Int} (h1:b≤10∨∀n∈d,n.1≠8∧n.1≠9):Lk d b:=
 h1.elim (fun h1=>lk_heavy h.rt (by have:=h.len;omega) ht h1) fun h1=>lk_light h.rt (by have:=h.len;omega) ht (nf_of h1 _ _) (Nat.le_trans (h.sz h1) (by omega)) b
theorem node7 {d:List SNode} (ht:Txt d) {f i:Int} (h:Tr d f i):∃v:Nat,v≤1099511627776∧(∀k,(i-f+1).toNat≤k→zq.n k d i (v:Int))∧(v<256→∀k,nf d k i=true∧szN d k i≤v):=by
 have hs:∀{i:Int} {e:SNode} (k:Nat),at? d i=some e→szN d (k+1) i=if e.1=2 then 1 else if e.1=3 then e.2.2.2.2.2.2.length else if e.1=4∨e.1=5 then szN d k e.2.1+szN d k e.2.2.1 else if e.1=6 then szN d k e.2.1 else if e.1=7 then e.2.2.2.2.1.toNat*szN d k e.2.1 else 0:=fun {i e} k he=>by
  simp only [szN,he]
 have hf:∀{i:Int} {e:SNode} (k:Nat),at? d i=some e→nf d (k+1) i=if e.1=8∨e.1=9 then false else if e.1=4∨e.1=5 then nf d k e.2.1&&nf d k e.2.2.1 else if e.1=6 then nf d k e.2.1 else if e.1=7 then decide (e.2.2.2.2.1≤0)||nf d k e.2.1 else true:=fun {i e} k he=>by
  simp only [nf,he]
 induction h with
 | leaf he hk hx h0=>
  rename_i i e
  have hte:=ht e (at_mem he);rcases hk with k1 | k1 | k1
  ·refine ⟨0,by omega,fun k hk=>?_,fun _ k=>?_⟩
   ·obtain ⟨k,rfl⟩:∃q,k=q+1:=⟨k-1,by omega⟩;refine ⟨e,he,fun h=>by simp [k1] at h,fun _=>?_⟩;simp [zq.j3,zq.j2,zq.j1,k1]
   ·cases k with
    | zero=>exact ⟨rfl,Nat.le_refl _⟩
    | succ k=>rw [hs k he,hf k he];simp [k1]
  ·refine ⟨1,by omega,fun k hk=>?_,fun _ k=>?_⟩
   ·obtain ⟨k,rfl⟩:∃q,k=q+1:=⟨k-1,by omega⟩;refine ⟨e,he,fun h=>by simp [k1] at h,fun _=>?_⟩;simp [zq.j3,zq.j2,zq.j1,k1]
   ·cases k with
    | zero=>exact ⟨rfl,by simp [szN]⟩
    | succ k=>rw [hs k he,hf k he];simp [k1]
  ·refine ⟨min e.2.2.2.2.2.2.length 1099511627776,by omega,fun k hk=>?_,fun hv k=>?_⟩
   ·obtain ⟨k,rfl⟩:∃q,k=q+1:=⟨k-1,by omega⟩;refine ⟨e,he,fun h=>by simp [k1] at h,fun _=>?_⟩;simp [zq.j3,zq.j2,zq.j1,k1,zcq];omega
   ·cases k with
    | zero=>exact ⟨rfl,by simp [szN]⟩
    | succ k=>rw [hs k he,hf k he];simp [k1];omega
 | one he hk ha hb hr h ih=>
  rename_i f i e
  have hle:=h.le;obtain ⟨v,hv,hn,ho⟩:=ih;rcases hk with k1 | k1 | k1 | k1
  ·refine ⟨v,hv,fun k hk=>?_,fun hv k=>?_⟩
   ·obtain ⟨k,rfl⟩:∃q,k=q+1:=⟨k-1,by omega⟩;refine ⟨e,he,fun _=>⟨_,by rw [ha];exact hn k (by omega), ?_⟩,fun h=>by simp [k1] at h⟩;simp [zq.j3,zq.j2,zq.j1,k1]
   ·cases k with
    | zero=>exact ⟨rfl,by simp [szN]⟩
    | succ k=>rw [hs k he,hf k he,ha];simp [k1];exact ho hv k
  ·have hr:=hr k1;obtain ⟨m,hm⟩:∃m:Nat,e.2.2.2.2.1=m:=⟨e.2.2.2.2.1.toNat,by omega⟩;have hm2:m≤255:=by omega
   have hmul:v*m≤1099511627776*255:=Nat.mul_le_mul hv hm2;refine ⟨min (v*m) 1099511627776,by omega,fun k hk=>?_,fun hlt k=>?_⟩
   ·obtain ⟨k,rfl⟩:∃q,k=q+1:=⟨k-1,by omega⟩;refine ⟨e,he,fun _=>⟨_,by rw [ha];exact hn k (by omega), ?_⟩,fun h=>by simp [k1] at h⟩;have e1:(v:Int)*e.2.2.2.2.1=((v*m:Nat):Int):=by rw [hm,Int.natCast_mul]
    simp [zq.j3,zq.j2,zq.j1,k1,zcq];rw [e1];exact ⟨zh (by omega) (by omega),by omega⟩
   ·cases k with
    | zero=>exact ⟨rfl,by simp [szN]⟩
    | succ k=>
     rw [hs k he,hf k he,ha];simp only [k1,show ¬ ((7:Int)=2) by decide,show ¬ ((7:Int)=3) by decide,show ¬ ((7:Int)=4∨(7:Int)=5) by decide,show ¬ ((7:Int)=6) by decide,show ¬ ((7:Int)=8∨(7:Int)=9) by decide,if_false,if_true];rcases Nat.eq_zero_or_pos m with h0 | h0
     ·subst h0;rw [hm];simp
     ·have hvm:v≤v*m:=Nat.le_mul_of_pos_right v h0;obtain ⟨o1,o2⟩:=ho (by omega) k;rw [hm,o1];refine ⟨by simp, ?_⟩;have:=Nat.mul_le_mul_left m o2;rw [Nat.mul_comm m v] at this;simp only [Int.toNat_natCast];omega
  ·obtain ⟨c,hc⟩:∃c,min (v+1) 1099511627776=c:=⟨_,rfl⟩;have hc1:1≤c∧c≤1099511627776:=by omega
   refine ⟨min (256*c) 1099511627776,Nat.min_le_right _ _,fun k hk=>?_,fun hlt k=>absurd hlt (Nat.not_lt.2 (Nat.le_min.2 ⟨Nat.le_mul_of_pos_right 256 hc1.1,by decide⟩))⟩;have hc2:min ((v:Int)+1) 1099511627776=(c:Int):=by
    rcases Nat.lt_or_ge v 1099511627776 with g | g
    ·rw [Nat.min_eq_left g] at hc;rw [← hc,Int.min_eq_left (by omega)];rfl
    ·rw [Nat.min_eq_right (Nat.le_succ_of_le g)] at hc;rw [← hc,Int.min_eq_right (by omega)];rfl
   obtain ⟨k,rfl⟩:∃q,k=q+1:=⟨k-1,by omega⟩;refine ⟨e,he,fun _=>⟨_,by rw [ha];exact hn k (by omega), ?_⟩,fun h=>by simp [k1] at h⟩;simp [zq.j3,zq.j2,zq.j1,k1,zcq];rw [hc2];exact ⟨zh (by omega) (by omega),zh (by omega) (by omega),by omega⟩
  ·obtain ⟨c,hc⟩:∃c,min (v+1) 1099511627776=c:=⟨_,rfl⟩;have hc1:1≤c∧c≤1099511627776:=by omega
   refine ⟨min (256+65536*c) 1099511627776,Nat.min_le_right _ _,fun k hk=>?_,fun hlt k=>absurd hlt (Nat.not_lt.2 (Nat.le_min.2 ⟨Nat.le_add_right _ _,by decide⟩))⟩;have hc2:min ((v:Int)+1) 1099511627776=(c:Int):=by
    rcases Nat.lt_or_ge v 1099511627776 with g | g
    ·rw [Nat.min_eq_left g] at hc;rw [← hc,Int.min_eq_left (by omega)];rfl
    ·rw [Nat.min_eq_right (Nat.le_succ_of_le g)] at hc;rw [← hc,Int.min_eq_right (by omega)];rfl
   obtain ⟨k,rfl⟩:∃q,k=q+1:=⟨k-1,by omega⟩;refine ⟨e,he,fun _=>⟨_,by rw [ha];exact hn k (by omega), ?_⟩,fun h=>by simp [k1] at h⟩;simp [zq.j3,zq.j2,zq.j1,k1,zcq];rw [hc2];exact ⟨zh (by omega) (by omega),zh (by omega) (by omega),zh (by omega) (by omega),by omega⟩
 | two he hk ha hb h1 h2 i1 i2=>
  rename_i f p i e
  have l1:=h1.le;have l2:=h2.le;obtain ⟨u,hu,nu,ou⟩:=i1;obtain ⟨v,hv,nv,ov⟩:=i2;refine ⟨min (v+u) 1099511627776,by omega,fun k hk2=>?_,fun hlt k=>?_⟩
  ·obtain ⟨k,rfl⟩:∃q,k=q+1:=⟨k-1,by omega⟩;refine ⟨e,he,fun _=>⟨_,by rw [ha];exact nv k (by omega), ?_⟩,fun h=>by rcases hk with k1 | k1 <;> simp [k1] at h⟩;have hb':=nu k (by omega);rw [← hb] at hb';refine ⟨fun _=>⟨_,hb', ?_⟩,fun h=>by rcases hk with k1 | k1 <;> simp [k1] at h⟩;rcases hk with k1 | k1
   ·simp [zq.j2,zq.j1,k1,zcq];exact ⟨zh (by omega) (by omega),by omega⟩
   ·simp [zq.j2,zq.j1,k1,zcq];exact ⟨zh (by omega) (by omega),by omega⟩
  ·cases k with
   | zero=>exact ⟨rfl,by simp [szN]⟩
   | succ k=>
    obtain ⟨o1,o2⟩:=ou (by omega) k;obtain ⟨o3,o4⟩:=ov (by omega) k;have g8:¬ (e.1=8∨e.1=9):=by omega
    have g2:¬ e.1=2:=by omega
    have g3:¬ e.1=3:=by omega
    have q1:=hs k he;have q2:=hf k he;rw [if_neg g2,if_neg g3,if_pos hk,ha,hb] at q1;rw [if_neg g8,if_pos hk,ha,hb,o1,o3] at q2;rw [q1,q2];exact ⟨rfl,by omega⟩
theorem of7 {d:List SNode} (h:Rt d) (hl:d.length≤1000) (ht:Txt d):∃n:Nat,1≤n∧n≤1099511627776∧zlm d (n:Int)∧(n≤100→NoFr d∧szN d d.length ((d.length:Int)-1)+1≤n):=by
 obtain ⟨v,hv,hn,ho⟩:=node7 ht h.tr;have hp:=List.length_pos_iff.2 h.ne;refine ⟨min (v+1) 1099511627776,by omega,by omega,⟨zh (by omega) (by omega),_,⟨_,hn d.length (by omega)⟩,zh (by omega) (by omega),_,rfl,by omega⟩,fun hlt=>?_⟩;obtain ⟨o1,o2⟩:=ho (by omega) d.length;exact ⟨o1,by omega⟩
theorem znu (n:Nat):zb8 (n:Int) (((4 ^ min n 31:Nat)):Int):=by
 have hp:∀i,i≤31→4 ^ i≤4611686018427387904:=fun i hi=>by
  have:=Nat.pow_le_pow_right (n:=4) (by decide) hi;exact Nat.le_trans this (by decide)
 refine zg5 (P:=fun k b v=>zb8.l1 (n:Int) _ k b v) (min n 31) (fun i b=>b=((4 ^ i:Nat):Int)) ?_ ?_ 1 rfl
 ·rintro i b hi rfl;have h1:=hp (i+1) (by omega);have e:(4:Int)*((4 ^ i:Nat):Int)=((4 ^ (i+1):Nat):Int):=by
   rw [Nat.pow_succ,Nat.mul_comm,Int.natCast_mul];rfl
  refine .inr ⟨_,rfl,fun k hk=>⟨fun _=>?_,fun hc=>?_⟩⟩
  ·rw [e];generalize 4 ^ (i+1)=P at h1 hk ⊢;exact ⟨zh (by omega) (by omega),zh (by omega) (by omega),hk⟩
  ·exfalso;simp only [Bool.and_eq_false_iff,decide_eq_false_iff_not] at hc;omega
 ·rintro b rfl k;refine ⟨fun hc=>?_,fun _=>rfl⟩;exfalso;simp only [Bool.and_eq_true,decide_eq_true_eq] at hc;omega
def subs {α:Type}:List α→List (List α)
 | []=>[[]]
 | x::l=>subs l++(subs l).map (x :: ·)
theorem subs_len {α:Type}:∀l:List α,(subs l).length=2 ^ l.length
 | []=>rfl
 | x::l=>by
  rw [subs,List.length_append,List.length_map,subs_len l,List.length_cons,Nat.pow_succ];omega
theorem zjh {α:Type} (p:α→Bool):∀l:List α,l.filter p∈subs l
 | []=>by simp [subs]
 | x::l=>by
  rw [subs,List.filter_cons,List.mem_append];split
  ·exact .inr (List.mem_map.2 ⟨_,zjh p l,rfl⟩)
  ·exact .inl (zjh p l)
theorem aftS_cov {d:List SNode} (h:Rt d) (hn:NoFr d):∃K:List TS,K.length≤2 ^ (szN d d.length ((d.length:Int)-1)+1)∧∀w,zen d w∈K:=by
 obtain ⟨K,k1,k2⟩:=zqp h hn;refine ⟨subs (zi0 K), ?_,fun w=>?_⟩
 ·rw [subs_len];exact Nat.pow_le_pow_right (by decide) (Nat.le_trans (zjp fun x hx=>hx) k1)
 ·have:zen d w=(zi0 K).filter fun t=>decide (t∈zen d w):=by
   refine rs_uniq (zqn d _) ((zes K).sublist List.filter_sublist) fun t=>?_;rw [List.mem_filter,decide_eq_true_iff,zdn];exact ⟨fun ht=>⟨k2 _ t ht,ht⟩,fun ht=>ht.2⟩
  rw [this];exact zjh _ _
theorem prod_len {α β:Type} (A:List α) (B:List β):(A.flatMap fun a=>B.map fun b=>(a,b)).length=A.length*B.length:=by
 induction A with
 | nil=>simp
 | cons a A ih=>rw [List.flatMap_cons,List.length_append,ih,List.length_map,List.length_cons,Nat.succ_mul];omega
section
variable {T U : Type} [DecidableEq T] [DecidableEq U]
end
section
variable {T : Type} [DecidableEq T]
theorem zqr.len {S:Sch T} {b:Int} {v:Int × List Int × Int × Option T} (h:zqr S b v):v.2.1.length≤b.toNat∧(v.1=2→(v.2.1.length:Int)<b):=by
 cases h with
 | yes i hb h hno=>simp
 | no i q hb h hh hno=>
  have:=(zg4 S i).wlen i q h;simp only;omega
 | limit _ _=>simp
theorem zqr.lim {S:Sch T} {b:Int} {v:Int × List Int × Int × Option T} (hb:0≤b) (h:zqr S b v):v.1=3→v.2.1=[]∧v.2.2.1=b:=by
 cases h with
 | limit _ _=>exact fun _=>⟨rfl,by show max b 0=b;omega⟩
 | yes i _ _ _=>exact fun h=>by simp at h
 | no i q _ _ _ _=>exact fun h=>by simp at h
end
end Go.Proofs.YtkbboemafklkkaaGreatDoor.V
namespace Go.Proofs.YtkbboemafklkkaaGreatDoor.V
open Go
set_option linter.unusedVariables false
def begS (d:List SNode) (w:List Int):Bool:=(List.range w.length).any fun i=>zic d (zen d (w.take i))
theorem zql {d:List SNode} {w:List Int}:begS d w=true↔∃i,i<w.length∧zic d (zen d (w.take i))=true:=by simp [begS]
theorem begS_snoc (d:List SNode) (w:List Int) (c:Int):begS d (w++[c])=(begS d w||zic d (zen d w)):=by
 rw [Bool.eq_iff_iff,Bool.or_eq_true,zql,zql];constructor
 ·rintro ⟨i,hi,h⟩;simp at hi
  by_cases e:i=w.length
  ·subst e;rw [List.take_left] at h;exact .inr h
  ·rw [List.take_append_of_le_length (by omega)] at h;exact .inl ⟨i,by omega,h⟩
 ·rintro (⟨i,hi,h⟩ | h)
  ·exact ⟨i,by simp;omega,by rw [List.take_append_of_le_length (by omega)];exact h⟩
  ·exact ⟨w.length,by simp,by rw [List.take_left];exact h⟩
abbrev TPr:=TS × Bool
instance decTPr:DecidableEq TPr:=@instDecidableEqProd TS Bool inferInstance inferInstance
def zjj (d:List SNode) (x:TPr):List (Int × TPr):=(bytS d x.1).map fun c=>(c,(onS d c x.1,x.2||zic d x.1))
def zgq (d:List SNode):Sch TPr:=⟨([stS d],false),zjj d,fun x=>x.2&&zic d x.1⟩
theorem waysA_len (d:List SNode) (x:TPr):(zjj d x).length≤256:=by unfold zjj;rw [List.length_map];exact bytC_len _
theorem zml (d:List SNode):∀(x:TPr) (c:Int) (y:TPr),(c,y)∈(zgq d).ways x→InR .u8 c∧y=(onS d c x.1,x.2||zic d x.1):=fun x c y h=>by
 obtain ⟨b,h1,h2⟩:=List.mem_map.1 h;cases h2;exact ⟨bytS_u8 h1,rfl⟩
theorem rnA_aft {d:List SNode} {w:List Int} {x:TPr} (h:Rn (fun (x:TPr) c y=>InR .u8 c∧y=(onS d c x.1,x.2||zic d x.1)) ([stS d],false) w x):x=(zen d w,begS d w)∧∀c∈w,InR .u8 c:=by
 induction h with
 | nil=>exact ⟨rfl,fun c hc=>by cases hc⟩
 | snoc h hs ih=>
  obtain ⟨h1,h2⟩:=hs;refine ⟨by rw [h2,ih.1,zei,begS_snoc],fun b hb=>?_⟩;rcases List.mem_append.1 hb with hb | hb
  ·exact ih.2 b hb
  ·rw [List.mem_singleton.1 hb];exact h1
theorem aft_rnA {d:List SNode} (w:List Int) (hw:∀c∈w,InR .u8 c):Rn (fun (x:TPr) c y=>InR .u8 c∧y=(onS d c x.1,x.2||zic d x.1)) ([stS d],false) w (zen d w,begS d w):=by
 refine zow (p:=fun w=>(∀c∈w,InR .u8 c)→Rn (fun (x:TPr) c y=>InR .u8 c∧y=(onS d c x.1,x.2||zic d x.1)) ([stS d],false) w (zen d w,begS d w)) (fun _=>.nil) (fun w c ih hw=>?_) w hw;exact .snoc (ih fun b hb=>hw b (by simp [hb])) ⟨hw c (by simp),by rw [zei,begS_snoc]⟩
theorem zlx {d:List SNode} {i j:Nat} {q:Qb TPr} (h:(zcx (zgq d) i)[j]?=some q):q.1=(zen d q.2.2.2,begS d q.2.2.2)∧(∀c∈q.2.2.2,InR .u8 c)∧q.2.2.2.length≤j:=by
 obtain ⟨h1,h2⟩:=rnA_aft (accB_rn (S:=zgq d) (zml d) i j q h);exact ⟨h1,h2,(zg4 _ _).wlen j q h⟩
theorem accA_rm {d:List SNode} {b:Int} (hk:Lk d b) {i j:Nat} {q:Qb TPr} (hq:(zcx (zgq d) i)[j]?=some q) (hj:(j:Int)<b):Rm d q.1.1:=by
 obtain ⟨h1,h2,h3⟩:=zlx hq;rw [h1];exact hk _ h2 (.inl (by omega))
theorem waysA_rise (d:List SNode) (x:TPr):(zjj d x).Pairwise fun a b=>a.1<b.1:=by
 unfold zjj;rw [List.pairwise_map];exact bytC_srt _
theorem pre_least {d:List SNode} (h:Rt d) (hl:d.length≤24) (ht:Txt d) {b:Int} {v:Int × List Int × Int × Option TPr} (ho:zqr (zgq d) b v):
  (v.1=1→v.2.1=[]∧∀w,(∀c∈w,InR .u8 c)→¬ (begS d w=true∧zic d (zen d w)=true))∧(v.1=2→(∀c∈v.2.1,InR .u8 c)∧begS d v.2.1=true∧zic d (zen d v.2.1)=true∧∀w,(∀c∈w,InR .u8 c)→begS d w=true→zic d (zen d w)=true→sle v.2.1 w)∧(v.1=1∨v.1=2∨v.1=3):=by
 obtain ⟨h1,h2,h3⟩:=ho.least (B:=fun c=>InR .u8 c) (zml d) (fun i _ q _=>waysA_rise d q.1) fun i _ q hq c y hc hs=>by
  obtain ⟨j,hj⟩:=List.getElem?_of_mem hq;obtain ⟨q1,q2,_⟩:=zlx hj;have hsm:∀s∈q.1.1,Sm d s:=fun s hs=>by rw [q1] at hs;exact (zhk h hl ht q2 hs).1
  obtain ⟨x,x1,x2,x3⟩:=onS_byte hsm hc;refine ⟨x,x2, ?_⟩;rw [hs.2,← x3];exact List.mem_map.2 ⟨x,x1,rfl⟩
 refine ⟨fun k=>⟨(h1 k).1,fun w hw hh=>?_⟩,fun k=>?_,h3⟩
 ·have:=(h1 k).2 w _ hw (aft_rnA w hw);simp [zgq,hh.1,hh.2] at this
 obtain ⟨x,x1,x2,x3,x4⟩:=h2 k;obtain ⟨y1,y2⟩:=rnA_aft x3;rw [y1] at x1 x2;simp only [zgq,Bool.and_eq_true] at x2;refine ⟨y2,x2.1,x2.2,fun w hw hb he=>x4 w _ hw (aft_rnA w hw) ?_⟩;simp [zgq,hb,he]
def cutN (d:List SNode) (w:List Int):Option Nat:=(List.range (w.length+1)).find? fun i=>zic d (zen d (w.take i))
theorem find_range {p:Nat→Bool}:∀{n i:Nat},(List.range n).find? p=some i→i<n∧p i=true∧∀j,j<i→p j=false:=by
 intro n
 induction n with
 | zero=>intro i h;simp at h
 | succ n ih=>
  intro i h;rw [List.range_succ,List.find?_append] at h;cases hf:(List.range n).find? p with
  | some k=>
   rw [hf] at h;simp at h;subst h;obtain ⟨a,b,c⟩:=ih hf;exact ⟨by omega,b,c⟩
  | none=>
   rw [hf] at h;simp only [Option.none_or] at h;have h2:=List.find?_some h;have h3:=List.mem_of_find?_eq_some h;rw [List.mem_singleton] at h3;subst h3;refine ⟨by omega,h2,fun j hj=>?_⟩;have:=List.find?_eq_none.1 hf j (List.mem_range.2 hj);simpa using this
theorem zj6 {d:List SNode} {w:List Int} {i:Nat} (h:cutN d w=some i):i≤w.length∧zic d (zen d (w.take i))=true∧∀j,j<i→zic d (zen d (w.take j))=false:=by
 obtain ⟨a,b,c⟩:=find_range h;exact ⟨by omega,b,c⟩
theorem cutN_none {d:List SNode} {w:List Int} (h:cutN d w=none):∀j,j≤w.length→zic d (zen d (w.take j))=false:=fun j hj=>by
 have:=List.find?_eq_none.1 h j (List.mem_range.2 (by omega));simpa using this
def cutW (d:List SNode) (w:List Int):List Int × Bool:=match cutN d w with
 | some i=>(w.take i,true)
 | none=>([],false)
theorem pre_cov {d:List SNode} (h:Rt d) (hn:NoFr d):∃K:List TPr,K.length≤2 ^ (szN d d.length ((d.length:Int)-1)+1)*2∧∀i q,q∈zcx (zgq d) i→q.1∈K:=by
 obtain ⟨K,k1,k2⟩:=aftS_cov h hn;refine ⟨K.flatMap fun a=>[true,false].map fun b=>(a,b), ?_,fun i q hq=>?_⟩
 ·rw [prod_len];exact Nat.mul_le_mul k1 (Nat.le_refl 2)
 ·obtain ⟨j,hj⟩:=List.getElem?_of_mem hq;rw [(zlx hj).1];exact List.mem_flatMap.2 ⟨_,k2 _,List.mem_map.2 ⟨_,by cases begS d q.2.2.2 <;> simp,rfl⟩⟩
theorem znc {α:Type} {xs:List α} {i:Nat} {x:α} (h:xs[i]?=some x):at? xs (i:Int)=some x:=by rw [zbr];exact h
theorem rev_in {l:List Int} (hl:l.length≤1000):zu l l.reverse:=by
 refine ⟨zh (by omega) (by omega), ?_⟩;have key:=zg5 (P:=fun k (s:List Int) v=>zu.l1 (zu.j1 l.reverse) k s v ((l.length:Int)-1-v)) l.length
  (fun i s=>s.length=l.length∧∀k,k<l.length→s[k]?=if k<i∨l.length≤k+i then l[l.length-1-k]? else l[k]?) ?_ ?_ l ⟨rfl,fun k hk=>by rw [if_neg (by omega)]⟩
 ·simpa using key
 ·rintro i s hi ⟨h1,h2⟩
  by_cases hij:i<l.length-1-i
  ·have hj:(l.length:Int)-1-(i:Int)=((l.length-1-i:Nat):Int):=by omega
   have e1:s[i]?=some l[i]:=by rw [h2 i hi,if_neg (by omega)];exact List.getElem?_eq_getElem hi
   have hjl:l.length-1-i<l.length:=by omega
   have e2:s[l.length-1-i]?=some l[l.length-1-i]:=by rw [h2 _ hjl,if_neg (by omega)];exact List.getElem?_eq_getElem hjl
   refine .inr ⟨(s.set i l[l.length-1-i]).set (l.length-1-i) l[i],⟨by simp [h1],fun k hk=>?_⟩,fun k hk=>⟨fun _=>⟨_,by rw [hj];exact znc e2,_,znc e1,_,znc e1,l[l.length-1-i], ?_,zh (by omega) (by omega),zh (by omega) (by omega), ?_⟩,fun h=>absurd (by omega) (df h)⟩⟩
   ·rw [List.getElem?_set]
    by_cases hk1:l.length-1-i=k
    ·subst hk1;rw [if_pos rfl,if_pos (by simp [h1];omega),if_pos (by omega)];rw [show l.length-1-(l.length-1-i)=i by omega];exact (List.getElem?_eq_getElem hi).symm
    ·rw [if_neg hk1,List.getElem?_set]
     by_cases hk2:i=k
     ·subst hk2;rw [if_pos rfl,if_pos (by rw [h1];exact hi),if_pos (by omega)];exact (List.getElem?_eq_getElem hjl).symm
     ·rw [if_neg hk2,h2 k hk]
      by_cases hk3:k<i∨l.length≤k+i
      ·rw [if_pos hk3,if_pos (by omega)]
      ·rw [if_neg hk3,if_neg (by omega)]
   ·rw [hj];rw [Int.toNat_natCast,zbr,List.getElem?_set,if_neg (by omega)];exact e2
   ·rw [show (l.length:Int)-1-((i:Int)+1)=(l.length:Int)-1-(i:Int)-1 by omega] at hk;rw [hj] at hk ⊢;rw [Int.toNat_natCast,Int.toNat_natCast];exact hk
  ·refine .inl fun k=>⟨fun h=>absurd (dt h) (by omega),fun _=>?_⟩;show l.reverse=s;refine List.ext_getElem? fun k=>?_
   by_cases hk:k<l.length
   ·rw [List.getElem?_reverse hk,h2 k hk];split
    ·rfl
    ·rw [show l.length-1-k=k by omega]
   ·rw [List.getElem?_eq_none (by simp;omega),List.getElem?_eq_none (by omega)]
 ·rintro s ⟨h1,h2⟩ k;refine ⟨fun h=>absurd (dt h) (by omega),fun _=>?_⟩;show l.reverse=s;refine List.ext_getElem? fun k=>?_
  by_cases hk:k<l.length
  ·rw [List.getElem?_reverse hk,h2 k hk,if_pos (by omega)]
  ·rw [List.getElem?_eq_none (by simp;omega),List.getElem?_eq_none (by omega)]
def mdA (q:Qb TPr):Smade_scantling_prefix_thing_search:=(q.1,q.2.1,q.2.2.1)
theorem wordA_in {S:Sch TPr} {acc:List (Qb TPr)} (h:GoodB S acc) {i:Nat} {q:Qb TPr} (hi:acc[i]?=some q) (hl:q.2.2.2.length≤1000):zw (acc.map mdA) (i:Int) q.2.2.2:=by
 have hM:∀(j:Nat) (x:Qb TPr),acc[j]?=some x→at? (acc.map mdA) (j:Int)=some (mdA x):=fun j x hx=>znc (by rw [List.getElem?_map,hx];rfl);have:=run (P:=fun k (s:Int × List Int)=>zw.l1 (acc.map mdA) (zw.j1 q.2.2.2) k s.1 s.2) (fun s=>∃(j:Nat) (x:Qb TPr),s.1=(j:Int)∧acc[j]?=some x∧x.2.2.2++s.2.reverse=q.2.2.2) (fun s=>s.1.toNat) ?_ ((i:Int),[]) ⟨i,q,rfl,hi,by simp⟩
 ·exact this
 ·rintro ⟨v,out⟩ ⟨j,x,h1,hx,hwo⟩;simp only at h1 hwo;subst h1;have hlen:out.length≤1000:=by
   have:=congrArg List.length hwo;simp at this;omega
  rcases h.par j x hx with ⟨h0,hx0⟩ | ⟨p,q',h2,h3,h4,h5,_⟩
  ·subst h0;subst hx0;refine .inl fun k=>⟨_,hM 0 _ hx,fun h=>absurd (dt h) (by simp [mdA]),fun _=>?_⟩;refine ⟨out.reverse,rev_in hlen, ?_⟩;simpa using hwo.symm
  ·refine .inr ⟨((p:Int),out++[x.2.2.1]),⟨p,q',rfl,h4, ?_⟩,by simp only;omega,fun k hk=>⟨_,hM j x hx,fun _=>⟨_,hM j x hx,by simp;omega,_,hM j x hx, ?_⟩,fun h=>absurd (by simp [mdA,h2]) (df h)⟩⟩
   ·rw [← hwo,h5];simp
   ·simp only [mdA];rw [h2];exact hk
def SnA (kf:TPr→Str) (seen:List (Str × Bool)) (acc:List (Qb TPr)):Prop:=∀z,zdz seen (kf z) false=hasQ acc z
theorem snA_put {kf:TPr→Str} (hinj:∀a b,kf a=kf b→a=b) {seen:List (Str × Bool)} {acc:List (Qb TPr)} (h:SnA kf seen acc) (x:TPr) (q:Int × Int × List Int):SnA kf (zfe seen (kf x) true) (acc++[(x,q)]):=fun z=>by
 rw [zmt,h z,hasQ_app]
 by_cases hz:x=z
 ·subst hz;simp
 ·rw [if_neg (fun e=>hz (hinj _ _ e))];simp [hz]
theorem roundA {S:Sch TPr} {s_:SSpace_scantling_prefix_thing_search} {kf:TPr→Str} (hinj:∀a b,kf a=kf b→a=b) {i:Nat} {q0:Qb TPr} {acc:List (Qb TPr)} {seen:List (Str × Bool)} (hs:SnA kf seen acc)
  (hkey:∀e∈S.ways q0.1,s_.2.1 (e.2,kf e.2)) (hlen:acc.length+(S.ways q0.1).length≤2000000000) (X:List Smade_scantling_prefix_thing_search→List (Str × Bool)→Prop)
  (hX:∀seen',SnA kf seen' (rdB S i q0 acc)→X ((rdB S i q0 acc).map mdA) seen'):∃k,ze.l2 s_ (i:Int) (S.ways q0.1) X k (acc.map mdA) seen 0:=by
 have hlj:∀j,(((S.ways q0.1).take j).foldl (stB i q0.2.2.2) acc).length≤2000000000:=fun j=>by
  have h1:=zm3 i q0.2.2.2 ((S.ways q0.1).take j) acc;have h2:((S.ways q0.1).take j).length≤(S.ways q0.1).length:=by rw [List.length_take];omega
  omega
 refine zg5 (P:=fun k (s:List Smade_scantling_prefix_thing_search × List (Str × Bool)) v=>ze.l2 s_ (i:Int) (S.ways q0.1) X k s.1 s.2 v) (S.ways q0.1).length
  (fun j s=>s.1=(((S.ways q0.1).take j).foldl (stB i q0.2.2.2) acc).map mdA∧SnA kf s.2 (((S.ways q0.1).take j).foldl (stB i q0.2.2.2) acc)) ?_ ?_ (acc.map mdA,seen) ⟨rfl,hs⟩
 ·rintro j ⟨ls,sn⟩ hj ⟨h1,h2⟩;simp only at h1 h2;subst h1;have hk:=hkey _ (List.getElem_mem hj);have hnext:((S.ways q0.1).take (j+1)).foldl (stB i q0.2.2.2) acc=stB i q0.2.2.2 (((S.ways q0.1).take j).foldl (stB i q0.2.2.2) acc) (S.ways q0.1)[j]:=by
   rw [List.take_succ_eq_append_getElem hj,List.foldl_append];rfl
  rw [hnext];have hlen2:=hlj j;have hll:(S.ways q0.1).length≤2000000000:=by omega
  generalize ((S.ways q0.1).take j).foldl (stB i q0.2.2.2) acc=A at *;cases hin:hasQ A (S.ways q0.1)[j].2
  ·refine .inr ⟨(A.map mdA++[((S.ways q0.1)[j].2,(i:Int),(S.ways q0.1)[j].1)],zfe sn (kf (S.ways q0.1)[j].2) true),⟨?_, ?_⟩,fun k h=>⟨fun _=>⟨_,znc (List.getElem?_eq_getElem hj),kf (S.ways q0.1)[j].2,hk,fun _=>⟨by simp;omega,zh (by omega) (by omega),h⟩,fun hc=>?_⟩,fun h=>absurd (by omega) (df h)⟩⟩
   ·simp only [stB,hin,Bool.false_eq_true,if_false,List.map_append];rfl
   ·simp only [stB,hin,Bool.false_eq_true,if_false];exact snA_put hinj h2 _ _
   ·rw [h2,hin] at hc;cases hc
  ·refine .inr ⟨(A.map mdA,sn),⟨?_, ?_⟩,fun k h=>⟨fun _=>⟨_,znc (List.getElem?_eq_getElem hj),kf (S.ways q0.1)[j].2,hk,fun hc=>?_,fun _=>⟨zh (by omega) (by omega),h⟩⟩,fun h=>absurd (by omega) (df h)⟩⟩
   ·simp only [stB,hin,if_true]
   ·simp only [stB,hin,if_true];exact h2
   ·rw [h2,hin] at hc;cases hc
 ·rintro ⟨ls,sn⟩ ⟨h1,h2⟩ k;simp only at h1 h2;rw [List.take_length] at h1 h2;subst h1;exact ⟨fun h=>absurd (dt h) (by omega),fun _=>hX sn h2⟩
def zib (v:Int × List Int × Int × Option TPr):SFound_scantling_prefix_thing_search:=((v.1,v.2.1,[],0,0,0,v.2.2.1),v.2.2.2.getD ([],false))
theorem walkA_in {S:Sch TPr} {kf:TPr→Str} (hinj:∀a b,kf a=kf b→a=b) {KP:TPr × Str→Prop} {WP:TPr × List SOn_scantling_prefix_thing_search→Prop} {HP:TPr × Bool→Prop} {b:Int} (hb:b≤1000) {M:Nat} (hM:1+M*b.toNat≤2000000000) (h0:KP (S.start,kf S.start))
  (hh:∀(i:Nat) q,(i:Int)<b→(zcx S i)[i]?=some q→HP (q.1,S.hit q.1))
  (hw:∀(i:Nat) q,(i:Int)<b→(zcx S i)[i]?=some q→S.hit q.1=false→WP (q.1,S.ways q.1)∧(S.ways q.1).length≤M∧∀e∈S.ways q.1,KP (e.2,kf e.2)):
  ze (S.start,KP,WP,HP) b (zib (zds S b)):=by
 refine ⟨_,h0, ?_⟩;refine uptoK (P:=fun k (s:List Smade_scantling_prefix_thing_search × List (Str × Bool)) v=>ze.l1 (S.start,KP,WP,HP) b (zib (zds S b)) _ k ((0,[],[],0,0,0,0),([],false)) s.1 s.2 v) b.toNat
  (fun i s=>s.1=(zcx S i).map mdA∧SnA kf s.2 (zcx S i)∧zds S b=verdB S b (b.toNat+1-i) i∧(zcx S i).length≤1+M*i) ?_ ?_ ([(S.start, -1,0)],_) ⟨rfl,fun z=>?_,rfl,by simp [zcx]⟩
 ·rintro i ⟨ls,sn⟩ k hi ⟨h1,h2,h3,h4⟩ hk;simp only at h1 h2 h3 h4;subst h1;have hib:(i:Int)<b:=by omega
  obtain ⟨f,hf⟩:∃f,b.toNat+1-i=f+1:=⟨b.toNat-i,by omega⟩;rw [hf] at h3;unfold verdB at h3;cases hq:(zcx S i)[i]? with
  | none=>
   rw [hq] at h3;simp only at h3;have hl:=List.getElem?_eq_none_iff.1 hq;refine ⟨fun h=>absurd (dt h) (by simp;omega),fun _=>?_⟩;show zib _=_;rw [h3];simp [zib]
  | some q=>
   rw [hq] at h3;simp only at h3;have hl:=(List.getElem?_eq_some_iff.1 hq).1;rw [if_neg (by omega)] at h3;have hMi:M*(i+1)≤M*b.toNat:=Nat.mul_le_mul_left _ (by omega);rw [Nat.mul_succ] at hMi;refine ⟨fun _=>⟨fun h=>absurd (dt h) (by omega),fun _=>⟨mdA q,znc (by rw [List.getElem?_map,hq];rfl),_,hh i q hib hq,fun hhit=>?_,fun hno=>?_⟩⟩,fun h=>absurd (by simp;omega) (df h)⟩
   ·have hhit':S.hit q.1=true:=hhit;rw [if_pos hhit'] at h3;have hg:=zg4 S i;have hwl:=hg.wlen i q hq;refine ⟨q.2.2.2,wordA_in hg hq (by omega),zh (by omega) (by omega), ?_⟩;rw [h3];rfl
   ·have hno':S.hit q.1=false:=hno;rw [if_neg (by rw [hno'];simp)] at h3;obtain ⟨w1,w2,w3⟩:=hw i q hib hq hno';refine ⟨_,w1,roundA (S:=S) (q0:=q) (kf:=kf) hinj h2 w3 (by omega) _ fun seen' hs'=>?_⟩;have hn:=zg3 hq;refine ⟨zh (by omega) (by omega),hk (_,seen') ⟨by rw [hn],by rw [hn];exact hs', ?_, ?_⟩⟩
    ·rw [h3,show b.toNat+1-(i+1)=f by omega]
    ·rw [hn];have:=zm3 i q.2.2.2 (S.ways q.1) (zcx S i);unfold rdB;rw [Nat.mul_succ];omega
 ·rintro ⟨ls,sn⟩ ⟨h1,h2,h3,h4⟩ k;simp only at h1 h2 h3 h4;subst h1;rw [show b.toNat+1-b.toNat=0+1 by omega] at h3;unfold verdB at h3;cases hq:(zcx S b.toNat)[b.toNat]? with
  | none=>
   rw [hq] at h3;simp only at h3;have hl:=List.getElem?_eq_none_iff.1 hq;refine ⟨fun h=>absurd (dt h) (by simp;omega),fun _=>?_⟩;show zib _=_;rw [h3];simp [zib]
  | some q=>
   rw [hq] at h3;simp only at h3;have hl:=(List.getElem?_eq_some_iff.1 hq).1;rw [if_pos (by omega)] at h3;refine ⟨fun _=>⟨fun _=>?_,fun h=>absurd (by omega) (df h)⟩,fun h=>absurd (by simp;omega) (df h)⟩;rw [h3];rfl
 ·show zdz (zfe [] (kf S.start) true) (kf z) false=_;rw [zmt,zpy]
  by_cases hz:S.start=z
  ·subst hz;simp [zcx,hasQ]
  ·rw [if_neg (fun e=>hz (hinj _ _ e))];simp [zcx,hasQ,hz]
theorem keyN_low (l:List Int):∀c∈zjd l,32≤c.toNat∧c.toNat≤57∧c≠33∧c≠47:=by
 induction l with
 | nil=>intro c hc;simp [zjd] at hc
 | cons z l ih=>
  intro c hc;rw [zg0,List.mem_append,List.mem_cons] at hc;rcases hc with h | rfl | h
  ·have one:∀(n:Nat),∀c∈Lib.decDigits n,32≤c.toNat∧c.toNat≤57∧c≠33∧c≠47:=fun n c hc=>by
    have:=zos _ c hc;exact ⟨by omega,this.2,(fun e=>by subst e;exact absurd this.1 (by decide)),fun e=>by subst e;exact absurd this.1 (by decide)⟩
   unfold Lib.itoa at h;split at h
   ·rcases List.mem_cons.1 h with h | h
    ·subst h;decide
    ·exact one _ c h
   ·exact one _ c h
  ·decide
  ·exact ih c h
theorem keyL_low (l:TS):∀c∈zkg l,32≤c.toNat∧c.toNat≤57∧c≠33:=by
 induction l with
 | nil=>intro c hc;simp [zkg] at hc
 | cons s l ih=>
  intro c hc;rw [zh7,List.mem_append,List.mem_cons] at hc;rcases hc with h | rfl | h
  ·have:=keyN_low _ c h;exact ⟨this.1,this.2.1,this.2.2.1⟩
  ·decide
  ·exact ih c h
theorem sm_nums {d:List SNode} {s:List SItem} (h2:Sm d s):∀x∈s,∀z∈zc0 x,InR .i64 z:=fun x hx z hz=>by
 obtain ⟨a,b,c,e⟩:=itR_all h2.rt.toROk (by have:=h2.len;omega) h2.txt h2.form x hx;simp only [zc0,List.mem_cons,List.not_mem_nil,or_false] at hz;rcases hz with rfl | rfl | rfl | rfl
 ·exact a
 ·exact b
 ·exact c
 ·exact e
theorem keyL_sm {d:List SNode} {l:TS} (hl:∀s∈l,Sm d s):(zkg l).length≤88001*l.length:=zp5 fun s hs=>⟨(hl s hs).short,sm_nums (hl s hs)⟩
theorem sets_Bytes_w {d:List SNode} {l:TS} (h:Rm d l) (hd:d.length≤1000):zim d l (bytS d l):=by
 have h1:=h.cls;have h2:=h.len;have ho:=once_few d l;exact ⟨_,zmd h.sm (by omega) (by omega),_,sets_Once_in (by omega) (by omega),_,zno (by omega),rfl⟩
structure Mon (d:List SNode) (b:Int):Prop where
 rt:Rt d
 len:d.length≤24
 txt:Txt d
 lk:Lk d b
theorem Mon.less {d:List SNode} {a b:Int} (h:Mon d b) (ha:a≤b):Mon d a:=⟨h.rt,h.len,h.txt,fun w hw hl=>h.lk w hw (by omega)⟩
def keyA (x:TPr):Str:=if x.2=true then [33]++zkg x.1 else zkg x.1
theorem keyA_inj (x y:TPr) (h:keyA x=keyA y):x=y:=by
 obtain ⟨a,p⟩:=x;obtain ⟨b,q⟩:=y;cases p <;> cases q
 ·simp only [keyA,Bool.false_eq_true,if_false] at h;rw [keyL_inj h]
 ·exfalso;simp only [keyA,Bool.false_eq_true,if_false,if_true] at h;exact (keyL_low a 33 (by rw [h];simp)).2.2 rfl
 ·exfalso;simp only [keyA,Bool.false_eq_true,if_false,if_true] at h;exact (keyL_low b 33 (by rw [← h];simp)).2.2 rfl
 ·simp only [keyA,if_true] at h;rw [keyL_inj (List.append_cancel_left h)]
theorem zjx {d:List SNode} {x:TPr} (ha:∀s∈x.1,Sm d s) (la:x.1.length≤1000000000):ze3 x (keyA x):=by
 have k1:=keyL_sm ha;have hk:=sets_Key_in la fun s hs=>(ha s hs).short;refine ⟨fun h=>⟨_,hk,by simp;omega, ?_⟩,fun h=>⟨_,hk, ?_⟩⟩
 ·unfold keyA;rw [if_pos h]
 ·unfold keyA;rw [if_neg (by simp [h])]
theorem waysA_in {d:List SNode} {x:TPr} (h:Rm d x.1) (hd:d.length≤1000):zbd x d (zjj d x):=by
 refine ⟨zic d x.1,fun _=>zhy h.sm (by have:=h.len;omega),_,sets_Bytes_w h hd, ?_⟩;have hbl:(bytS d x.1).length≤256:=bytC_len _;refine zg5 (P:=fun k out v=>zbd.l1 x d (zic d x.1) (bytS d x.1) _ k out v) (bytS d x.1).length (fun i out=>out=(zjj d x).take i) ?_ ?_ _ (by simp)
 ·rintro i out hi rfl;have hc:=bytS_u8 (List.getElem_mem hi);have hi2:i<(zjj d x).length:=by unfold zjj;rw [List.length_map];exact hi
  refine .inr ⟨_,rfl,fun n hk=>⟨fun _=>⟨_,zfp hi,_,zog (h.on _ hc) hc, ?_,zh (by omega) (by omega), ?_⟩,fun h=>absurd (by omega) (df h)⟩⟩
  ·rw [List.length_take];simp;omega
  ·rw [List.take_succ_eq_append_getElem hi2] at hk;have e:(zjj d x)[i]=((bytS d x.1)[i],(onS d (bytS d x.1)[i] x.1,x.2||zic d x.1)):=by simp [zjj]
   rw [e] at hk;exact hk
 ·rintro out rfl n;refine ⟨fun h=>absurd (dt h) (by omega),fun _=>?_⟩;show zjj d x=_;rw [List.take_of_length_le (by unfold zjj;rw [List.length_map];omega)]
theorem cutN_is {d:List SNode} {w:List Int} {i:Nat} (hi:i≤w.length) (he:zic d (zen d (w.take i))=true) (hno:∀j,j<i→zic d (zen d (w.take j))=false):cutN d w=some i:=by
 cases h:cutN d w with
 | none=>have:=cutN_none h i hi;rw [he] at this;cases this
 | some j=>
  obtain ⟨h1,h2,h3⟩:=zj6 h;rcases Nat.lt_trichotomy i j with hij | hij | hij
  ·have:=h3 i hij;rw [he] at this;cases this
  ·rw [hij]
  ·have:=hno j hij;rw [h2] at this;cases this
theorem cutN_no {d:List SNode} {w:List Int} (hno:∀j,j≤w.length→zic d (zen d (w.take j))=false):cutN d w=none:=by
 cases h:cutN d w with
 | none=>rfl
 | some j=>
  obtain ⟨h1,h2,_⟩:=zj6 h;have:=hno j h1;rw [h2] at this;cases this
theorem zhc {d:List SNode} (h:Rt d) (hl:d.length≤24) {w:List Int} (hw:∀c∈w,InR .u8 c) (hn:w.length≤1000) (hr:∀i,Rm d (zen d (w.take i))):zcn d w (cutW d w):=by
 refine ⟨_,zjo h.ne (by omega), ?_⟩;have yes:∀i,i≤w.length→zic d (zen d (w.take i))=true→(∀j,j<i→zic d (zen d (w.take j))=false)→cutW d w=(w.take i,true):=fun i hi he hno=>by
  unfold cutW;rw [cutN_is hi he hno]
 have ends:∀i,zfy d (zen d (w.take i)) (zic d (zen d (w.take i))):=fun i=>zhy (hr i).sm (by have:=(hr i).len;omega);refine zg5 (P:=fun k l v=>zcn.l1 d w (cutW d w) True k l v) w.length (fun i l=>l=zen d (w.take i)∧∀j,j<i→zic d (zen d (w.take j))=false) ?_ ?_ _ ⟨by rw [List.take_zero,zlu],fun j hj=>by omega⟩
 ·rintro i l hi ⟨rfl,hno⟩;cases he:zic d (zen d (w.take i))
  ·have hE:=ends i;rw [he] at hE;have hc:=hw _ (List.getElem_mem hi);have hsn:zen d (w.take (i+1))=onS d w[i] (zen d (w.take i)):=by rw [List.take_succ_eq_append_getElem hi,zei]
   refine .inr ⟨zen d (w.take (i+1)),⟨rfl,fun j hj=>?_⟩,fun k hk=>⟨false,hE,(fun h=>by cases h),fun _=>⟨fun h=>absurd (eq_of_beq h) (by omega),fun _=>⟨_,zfp hi,_,by rw [hsn];exact zog ((hr i).on _ hc) hc,zh (by omega) (by omega),hk⟩⟩⟩⟩;rcases Nat.lt_or_eq_of_le (Nat.le_of_lt_succ hj) with h | h
   ·exact hno j h
   ·rw [h];exact he
  ·have hE:=ends i;rw [he] at hE;refine .inl fun k=>⟨true,hE,fun _=>⟨⟨by omega,by omega⟩,by rw [List.length_take];omega, ?_⟩,fun h=>by cases h⟩;rw [Int.toNat_natCast,yes i (by omega) he hno]
 ·rintro l ⟨rfl,hno⟩ k;have hE:=ends w.length;refine ⟨_,hE,fun he=>⟨⟨by omega,by omega⟩,by rw [List.length_take];omega, ?_⟩,fun he=>⟨fun _=>?_,fun hc=>by simp at hc⟩⟩
  ·rw [Int.toNat_natCast,yes _ (Nat.le_refl _) he hno]
  ·unfold cutW;rw [cutN_no fun j hj=>?_];rcases Nat.lt_or_eq_of_le hj with h | h
   ·exact hno j h
   ·rw [h];exact he
theorem walk_pre {d:List SNode} {b:Int} (h:Mon d b) (hb:b≤1000):
  ze (([stS d],false),(fun q_=>ze3 q_.1 q_.2),(fun q_=>zbd q_.1 d q_.2),(fun q_=>zdp q_.1 d q_.2)) b (zib (zds (zgq d) b)):=by
 have hl:=h.len;have hst:=zhk h.rt h.len h.txt (w:=[]) (fun c hc=>by cases hc) (u:=stS d) (by rw [zlu];simp);refine walkA_in (S:=zgq d) (kf:=keyA) keyA_inj hb (M:=256) (by omega) (zjx (d:=d) (x:=([stS d],false)) (fun s hs=>by rw [List.mem_singleton.1 hs];exact hst.1) (by simp)) (fun i q hi hq=>?_) fun i q hi hq _=>?_
 ·have r1:=accA_rm h.lk hq hi;exact ⟨zic d q.1.1,fun _=>zhy r1.sm (by have:=r1.len;show q.1.1.length≤_;omega),rfl⟩
 ·have r1:=accA_rm h.lk hq hi;obtain ⟨q1,q2,q3⟩:=zlx hq;refine ⟨waysA_in r1 (by omega),waysA_len _ _,fun x hx=>?_⟩;obtain ⟨e1,e2⟩:=zml d q.1 x.1 x.2 hx;have hu:∀c∈q.2.2.2++[x.1],InR .u8 c:=fun c hc=>(List.mem_append.1 hc).elim (q2 c) fun h=>by rw [List.mem_singleton.1 h];exact e1
  have ea:onS d x.1 q.1.1=zen d (q.2.2.2++[x.1]):=by rw [zei,q1]
  have oa:=r1.out _ e1;rw [e2];rw [ea] at oa ⊢;exact zjx (fun s hs=>(zhk h.rt h.len h.txt hu hs).1) oa
def zht (d:List SNode) (b:Int):SVerdict:=if (zds (zgq d) b).1=2 then (2,(cutW d (zds (zgq d) b).2.1).1,(zds (zgq d) b).2.1,0,0,0,(zds (zgq d) b).2.2.1) else ((zds (zgq d) b).1,(zds (zgq d) b).2.1,[],0,0,0,(zds (zgq d) b).2.2.1)
theorem zc4 {d:List SNode} {b:Int} (h:Mon d b) (hb:b≤1000):zb2 d b (zht d b):=by
 have hl:=h.len;refine ⟨_,zjo h.rt.ne (by omega),_,walk_pre h hb,fun hk=>?_,fun hk=>?_⟩
 ·have k2:(zds (zgq d) b).1=2:=by simpa [zib] using hk
  have ho:=zhv (zgq d) b;obtain ⟨_,p2,_⟩:=pre_least h.rt h.len h.txt ho;obtain ⟨u1,_,_,_⟩:=p2 k2;have ul:=ho.len.2 k2;refine ⟨_,zhc h.rt h.len u1 (show (zds (zgq d) b).2.1.length≤1000 by omega) (fun i=>rm_pre h.lk u1 (.inl ul) i), ?_⟩;unfold zht;rw [if_pos k2];simp [zib,k2]
 ·have k2:(zds (zgq d) b).1≠2:=by simpa [zib] using hk
  unfold zht;rw [if_neg k2];simp [zib]
theorem zme (a:SVerdict) (h1:a.2.1.length<9223372036854775807) (h2:a.2.2.1.length<9223372036854775807):zgt a a true:=
 ⟨_,fun _=>zee h1,_,fun _=>zee h2,_,rfl,_,rfl,by simp⟩
def gDot:List SNode:=[(2,0,0,0,0,Cl.row 0 255,([]:Str))]
def gTwo:List SNode:=zjy 4 gDot gDot
def gOr:List SNode:=zjy 5 gDot gTwo
theorem zk0:Rt gDot:=leaf_rt (.inr rfl) ⟨rfl,rfl⟩
theorem zqd:Rt gTwo:=pair_rt zk0 zk0 (.inl rfl)
theorem gOr_rt:Rt gOr:=pair_rt zk0 zqd (.inr rfl)
def preH (d:List SNode):Sch TPr:=⟨([stS d],false),fun x=>((zfr (zlr d x.1)).map fun n:Nat=>(n:Int)).map fun c=>(c,(onS d c x.1,x.2||zic d x.1)),fun x=>x.2&&zic d x.1⟩
theorem pre_H (d:List SNode):zgq d=preH d:=by
 unfold zgq preH zjj bytS
 congr 1
 funext x;rw [zm9]
def zng (d:List SNode) (b:Int):SVerdict:=if (zds (preH d) b).1=2 then (2,(cutW d (zds (preH d) b).2.1).1,(zds (preH d) b).2.1,0,0,0,(zds (preH d) b).2.2.1) else ((zds (preH d) b).1,(zds (preH d) b).2.1,[],0,0,0,(zds (preH d) b).2.2.1)
theorem verA_H (d:List SNode) (b:Int):zht d b=zng d b:=by unfold zht zng;rw [pre_H]
theorem mon_heavy {d:List SNode} (h:Rt d) (l:d.length≤17) (t:Txt d) {b:Int} (hb:b≤10):Mon d b:=⟨h,by omega,t,lk_heavy h l t hb⟩
theorem awake21:zf4 true:=by
 have u8:∀c:Int,0≤c∧c≤255→InR .u8 c:=fun c h=>zfg.2 h;have tOr:Txt gOr:=small_txt (by decide +kernel);have tTwo:Txt gTwo:=small_txt (by decide +kernel);have mOr:Mon gOr 9:=mon_heavy gOr_rt (by decide +kernel) tOr (by decide);have mTwo:∀b:Int,b≤10→Mon gTwo b:=fun b hb=>mon_heavy zqd (by decide +kernel) tTwo hb;obtain ⟨m1,w1⟩:∃m,zb2 gOr 9 (2,[0],[0,0],0,0,0,m):=by
  have:=zc4 mOr (by decide);exact ⟨(zng gOr 9).2.2.2.2.2.2,by rwa [verA_H,show zng gOr 9=(2,[0],[0,0],0,0,0,(zng gOr 9).2.2.2.2.2.2) by decide +kernel] at this⟩
 obtain ⟨m2,w2⟩:∃m,zb2 gTwo 9 (1,[],[],0,0,0,m):=by
  have:=zc4 (mTwo 9 (by decide)) (by decide);exact ⟨(zng gTwo 9).2.2.2.2.2.2,by rwa [verA_H,show zng gTwo 9=(1,[],[],0,0,0,(zng gTwo 9).2.2.2.2.2.2) by decide +kernel] at this⟩
 have w4:zb2 gTwo 1 (3,[],[],0,0,0,1):=by
  have:=zc4 (mTwo 1 (by decide)) (by decide)
  rwa [verA_H,show zng gTwo 1=(3,[],[],0,0,0,1) by decide +kernel] at this
 have w5:zb2 gTwo (-1) (3,[],[],0,0,0,0):=by
  have:=zc4 (mTwo (-1) (by decide)) (by decide)
  rwa [verA_H,show zng gTwo (-1)=(3,[],[],0,0,0,0) by decide +kernel] at this
 have u789:∀c∈[(7:Int),8,9],InR .u8 c:=fun c hc=>by
  simp only [List.mem_cons,List.not_mem_nil,or_false] at hc;rcases hc with rfl | rfl | rfl <;> exact u8 _ (by decide)
 have u7:∀c∈[(7:Int)],InR .u8 c:=fun c hc=>by rw [List.mem_singleton.1 hc];exact u8 _ (by decide)
 have c1:zcn gOr [7,8,9] ([7],true):=by
  have:=zhc gOr_rt (by decide +kernel) u789 (by decide) fun i=>rm_pre mOr.lk u789 (.inr (by decide)) i
  rwa [show cutW gOr [7,8,9]=([7],true) by decide +kernel] at this
 have c2:zcn gTwo [7] ([],false):=by
  have:=zhc zqd (by decide +kernel) u7 (by decide) fun i=>rm_pre (mTwo 9 (by decide)).lk u7 (.inr (by decide)) i
  rwa [show cutW gTwo [7]=([],false) by decide +kernel] at this
 refine ⟨Cl.row 0 255,zh0 (u8 0 (by decide)) (u8 255 (by decide)),gTwo,Pair_in zk0.tr zk0.tr (by decide) (by decide),gOr,Pair_in zk0.tr zqd.tr (by decide) (by decide +kernel),_,w1,_,w2,_,c1,_,c2,_,fun _=>zee (show (1:Nat)<_ by decide),_,fun _=>zee (show (2:Nat)<_ by decide),_,rfl,_,fun _=>w4,_,fun _=>w5,_,fun _=>zee (by decide),_,rfl, ?_⟩;simp
theorem few21 {d:List SNode} (ht:Txt d):∃r,zh6 d r∧(r=true→FewD d):=few_of ht
theorem guard21 {d:List SNode} (ht:Txt d) (b:Int):∃r4 r8:Bool,zh6 d r4∧(r4=true→zf2 d d b r8)∧(r4=true→r8=true→FewD d∧Mon d b∧(b≤10∨∀n∈d,n.1≠8∧n.1≠9)):=by
 obtain ⟨r4,h4,k4⟩:=few21 ht;cases r4
 ·exact ⟨false,false,h4,(fun h=>by cases h),fun h=>by cases h⟩
 ·have f4:=k4 rfl;obtain ⟨r,h1,h2⟩:=Light_ex (d:=d) (e:=d) (by have:=f4.len;omega) (by have:=f4.len;omega) b;exact ⟨true,r,h4,fun _=>h1,fun _ hr=>⟨f4,⟨f4.rt,by have:=f4.len;omega,ht,f4.lk ht ((h2 hr).imp id And.left)⟩,(h2 hr).imp id And.left⟩⟩
structure ToldA (d:List SNode) (b:Int):Prop where
 yes:(zht d b).1=1→(zht d b).2.1=[]∧(zht d b).2.2.1=[]∧∀w,(∀c∈w,InR .u8 c)→¬ (begS d w=true∧zic d (zen d w)=true)
 no:(zht d b).1=2→∃V,(zht d b).2.2.1=V∧(∀c∈V,InR .u8 c)∧(V.length:Int)<b∧zic d (zen d V)=true∧(∃i,i<V.length∧(zht d b).2.1=V.take i∧zic d (zen d (V.take i))=true)∧∀w,(∀c∈w,InR .u8 c)→begS d w=true→zic d (zen d w)=true→sle V w
 any:(zht d b).1=1∨(zht d b).1=2∨(zht d b).1=3
 lim:0≤b→(zht d b).1=3→(zht d b).2.1=[]∧(zht d b).2.2.1=[]∧(zht d b).2.2.2.2.2.2=b
 made:0≤b→(zht d b).2.2.2.2.2.2≤b
 len:(zht d b).2.1.length≤b.toNat∧(zht d b).2.2.1.length≤b.toNat
theorem toldA {d:List SNode} {b:Int} (h:Mon d b):ToldA d b:=by
 have ho:=zhv (zgq d) b;obtain ⟨p1,p2,p3⟩:=pre_least h.rt h.len h.txt ho;have hm:=fun hb=>ho.made (b:=b) hb;have hl:=ho.len;have hlim:=fun hb=>ho.lim (b:=b) hb
 by_cases k2:(zds (zgq d) b).1=2
 ·have e:zht d b=(2,(cutW d (zds (zgq d) b).2.1).1,(zds (zgq d) b).2.1,0,0,0,(zds (zgq d) b).2.2.1):=by unfold zht;rw [if_pos k2]
  obtain ⟨u1,u2,u3,u4⟩:=p2 k2;obtain ⟨i,hi,he⟩:=zql.1 u2;obtain ⟨j,hj,hcj⟩:∃j,j<(zds (zgq d) b).2.1.length∧cutN d (zds (zgq d) b).2.1=some j:=by
   cases hc:cutN d (zds (zgq d) b).2.1 with
   | none=>have:=cutN_none hc i (by omega);rw [he] at this;cases this
   | some j=>
    obtain ⟨j1,j2,j3⟩:=zj6 hc;refine ⟨j, ?_,rfl⟩;rcases Nat.lt_or_ge i j with h | h
    ·have:=j3 i h;rw [he] at this;cases this
    ·omega
  obtain ⟨j1,j2,j3⟩:=zj6 hcj;have ec:(cutW d (zds (zgq d) b).2.1).1=(zds (zgq d) b).2.1.take j:=by unfold cutW;rw [hcj]
  rw [ec] at e;refine ⟨fun h1=>?_,fun _=>⟨_,by rw [e],u1,hl.2 k2,u3,⟨j,hj,by rw [e],j2⟩,u4⟩,by rw [e];simp,fun hb h3=>?_,fun hb=>by rw [e];exact hm hb, ?_⟩
  ·rw [e] at h1;simp at h1
  ·rw [e] at h3;simp at h3
  ·rw [e];refine ⟨?_,hl.1⟩;simp only [List.length_take];have:=hl.1;omega
 ·have e:zht d b=((zds (zgq d) b).1,(zds (zgq d) b).2.1,[],0,0,0,(zds (zgq d) b).2.2.1):=by unfold zht;rw [if_neg k2]
  refine ⟨fun h1=>?_,fun h2=>?_,by rw [e];exact p3,fun hb h3=>?_,fun hb=>by rw [e];exact hm hb, ?_⟩
  ·rw [e] at h1 ⊢;exact ⟨(p1 h1).1,rfl,(p1 h1).2⟩
  ·rw [e] at h2;exact absurd h2 k2
  ·rw [e] at h3 ⊢;exact ⟨(hlim hb h3).1,rfl,(hlim hb h3).2⟩
  ·rw [e];exact ⟨hl.1,by simp⟩
theorem same21 {d:List SNode} {b:Int} (h:Mon d b) (hb:b≤1000):zgt (zht d b) (zht d b) true:=by
 have:=(toldA h).len;exact zme _ (by omega) (by omega)
theorem law21_PrefixBound_true {d:List SNode} {a b:Int} (ht:Txt d) (ha:InR .u8 a) (hb:InR .u8 b):ze6 d a b true:=by
 have ha':=zfg.1 ha;have hb':=zfg.1 hb;obtain ⟨r4,r8,h4,h8,hG⟩:=guard21 ht b;refine ⟨true,awake21,r4,fun _=>h4,_,rfl,r8,fun h=>h8 (by cases r4 <;> simp_all),fun _=>⟨true,awake21,rfl⟩,fun hc=>?_⟩;simp only [Bool.not_true,Bool.false_or,Bool.or_eq_false_iff,Bool.not_eq_false',decide_eq_false_iff_not] at hc;obtain ⟨⟨⟨g1,g2⟩,g3⟩,g4⟩:=hc;obtain ⟨f,hD,hlt⟩:=hG g1 g4;have hA:Mon d a:=hD.less (by omega);have ta:=toldA hA;have tb:=toldA hD;have ma:=ta.made ha'.1;have mb:=tb.made hb'.1;have b22:((decide (a<(zht d a).2.2.2.2.2.2))||(decide (b<(zht d b).2.2.2.2.2.2)))=false:=by
  rw [Bool.or_eq_false_iff];exact ⟨decide_eq_false (by omega),decide_eq_false (by omega)⟩
 have kind:∀b,(zht d b).1=(zds (zgq d) b).1:=fun b=>by unfold zht;split <;> simp_all
 obtain ⟨n,n1,n2,hof,hn⟩:=of7 f.rt (by have:=f.len;omega) ht;refine ⟨_,zc4 hA (by omega),_,zc4 hD (by omega),_,rfl,true,fun h=>?_,fun h=>?_,fun _=>⟨_,hof,_,znu n, ?_⟩⟩
 ·have hk3:(zds (zgq d) a).1≠3:=by rw [← kind];simpa using h.2
  have e1:=(zhv (zgq d) a).stays (by omega) (zhv (zgq d) b) hk3;have e2:zht d a=zht d b:=by unfold zht;rw [e1]
  rw [e2];exact same21 hD (by omega)
 ·rw [b22] at h;simp at h
 ·by_cases hbig:(300:Int)<((4 ^ min n 31:Nat):Int)
  ·refine ⟨(0,[],[],0,0,0,0),fun h=>?_, ?_⟩
   ·rw [decide_eq_true hbig] at h;cases h
   ·rw [decide_eq_true hbig];rfl
  ·have hn4:n≤4:=by
    rcases Nat.lt_or_ge 4 n with h5 | h5
    ·exfalso;have:=Nat.pow_le_pow_right (n:=4) (by decide) (show 5≤min n 31 by omega);have e:(4:Nat) ^ 5=1024:=by decide
     rw [e] at this;omega
    ·exact h5
   obtain ⟨hnf,hsn⟩:=hn (by omega);have hB:Mon d ((4 ^ min n 31:Nat):Int):=⟨hD.rt,hD.len,ht,lk_light hD.rt hD.len ht hnf (by omega) _⟩;refine ⟨_,fun _=>zc4 hB (by omega), ?_⟩;have o:=zhv (zgq d) ((4 ^ min n 31:Nat):Int);obtain ⟨K,k1,k2⟩:=pre_cov hD.rt hnf;have hne:=o.room k2 (by
    have h1:2 ^ (szN d d.length ((d.length:Int)-1)+1)≤2 ^ n:=Nat.pow_le_pow_right (by decide) (by omega);rw [Int.toNat_natCast,show min n 31=n by omega];refine Nat.le_trans k1 (Nat.le_trans (Nat.mul_le_mul_right 2 h1) ?_);have:n=1∨n=2∨n=3∨n=4:=by omega
    rcases this with rfl | rfl | rfl | rfl <;> decide)
   have:((zht d ((4 ^ min n 31:Nat):Int)).1 != 3)=true:=by
    rw [kind,bne_iff_ne];exact hne
   rw [this,Bool.or_true]
open Go.ChangeShapes Go.WideShapes Go.RowKit
structure Rd (P:Program) (t:TypeId) {α:Type} (E:En α) (G:α→Prop):Prop where
 sz:P.cellsOf t=E.sz
 rd:∀{H:Type} (enc:TypeId × Value→H) (w:World) (fuel:Nat) (cs:List Value) (x:DataW H × List MemPlace),
  DataW.trod enc P w 0 (fun _=>true) true fuel t cs=some x→(∀n∈x.1.weights P t,n≤reachBytes)→∃y,E.R w (fun b=>b<w.heap.size) cs y∧G y
 vl:∀(w:World) (v:Value),Value.okWide P w .any 0 t v→(∃y,E.R w (fun b=>b<w.heap.size) v.cells.toList y)→v=E.val v.cells.toList
theorem Rd.int {P:Program} {t:TypeId} {k:IntKind} (ht:P.underlying t=some (.int k)) (hc:P.cellsOf t=1):Rd P t (En.int k) (InR k):=by
 refine ⟨hc, ?_, ?_⟩
 ·intro H enc w fuel cs x h _;obtain ⟨n,rfl,_,hw⟩:=DataW.trod_int ht h;have:InR k n:=by simpa [Lit.wf,InR] using hw
  exact ⟨n,⟨rfl,this⟩,this⟩
 ·intro w v hv _;obtain ⟨n,rfl⟩:=okWide_int ht hv;rfl
theorem Rd.str {P:Program} {t:TypeId} (ht:P.underlying t=some .string) (hc:P.cellsOf t=1):Rd P t En.str (fun y=>y.length≤140737488351232):=by
 refine ⟨hc, ?_, ?_⟩
 ·intro H enc w fuel cs x h hwt;obtain ⟨s,rfl,hx,hs⟩:=DataW.trod_string ht h;have hl:s.data.toList.length≤9223372036854775807:=by simpa [maxLen] using hs
  have h2:s.data.toList.length≤140737488351232:=hwt _ (by rw [hx];simp [DataW.weights]);exact ⟨s.data.toList,⟨rfl,hl⟩,h2⟩
 ·intro w v hv _;simp only [Value.okWide,ht,Cell.okWide,Cell.ok] at hv;cases v <;> simp at hv;rfl
theorem zly {H:Type} {P:Program} {e:TypeId}:∀{l:List (DataW H)} {d:DataW H},d∈l→∀n∈d.weights P e,n∈DataW.weightsAll P e l
 | [],_,h,_,_=>by cases h
 | d'::l,d,h,n,hn=>by
  simp only [DataW.weightsAll,List.mem_append];rcases List.mem_cons.1 h with rfl | h
  ·exact .inl hn
  ·exact .inr (zly h n hn)
theorem Rd.slice {P:Program} {t e:TypeId} {α:Type} {E:En α} {G:α→Prop} (ht:P.underlying t=some (.slice e)) (hc:P.cellsOf t=1) (hby:Nat.blt 0 (P.bytesOf e)=true) (he:Rd P e E G):
  Rd P t (En.slice E) (fun xs=>xs.length≤140737488351232∧∀y∈xs,G y):=by
 refine ⟨hc, ?_, ?_⟩
 ·intro H enc w fuel cs x h hwt;rcases Deep.open_slice ht h with ⟨rfl,_⟩ | ⟨a,len,cap,m,n,D,Pl,rfl,hb,hl,hm,hmm,hxe,hx⟩
  ·exact ⟨[],⟨_,rfl,zeb E _ _⟩,Nat.zero_le _,by simp⟩
  ·simp only [if_true] at hmm;subst hmm;have hall:∀i,i<len→∃p:α × List Value,w.cells? 0 (a.add (i*P.cellsOf e)) (P.cellsOf e)=some p.2∧E.R w (fun b=>b<w.heap.size) p.2 p.1∧G p.1:=fun i hi=>by
    obtain ⟨cs',h1,h2⟩:=hx i (by omega);obtain ⟨y,h3,h4⟩:=he.rd enc w n cs' _ h2 fun q hq=>hwt q (by
     rw [hxe];simp only [DataW.weights,ht,List.mem_cons,List.mem_append];exact .inr (.inl (zly (List.mem_map.2 ⟨i,by simpa using hi,rfl⟩) q hq)))
    exact ⟨(y,cs'),h1,h3,h4⟩
   have hmax2:len≤140737488351232:=by
    have h1:=hwt ((len+(m-len))*P.bytesOf e) (by rw [hxe];simp [DataW.weights,ht]);have h2:0<P.bytesOf e:=Nat.le_of_ble_eq_true hby;have h3:(len+(m-len))*1≤(len+(m-len))*P.bytesOf e:=Nat.mul_le_mul_left _ h2;have h4:reachBytes=140737488351232:=rfl;omega
   have hmax:len≤lim:=by have:maxLen≤lim:=by decide
                         omega
   by_cases h0:len=0
   ·subst h0;exact ⟨[],⟨_,rfl,some a,m,rfl,Nat.zero_le _,(fun h=>by cases h),Nat.zero_le _,fun h=>absurd rfl h⟩,Nat.zero_le _,by simp⟩
   have hinh:Inhabited (α × List Value):=⟨(hall 0 (by omega)).choose⟩;obtain ⟨f,hf⟩:=Deep.choose_lt hall;have hsz:=E.pos;rw [← he.sz] at hsz;obtain ⟨hcell0,hblk⟩:a.spot=none∧a.block<w.heap.size:=by
    obtain ⟨_,hl2,hcl⟩:=World.cells?_some (hf 0 (by omega)).1;have h2:=hcl 0 hsz;rw [List.getElem?_eq_getElem (by omega)] at h2;simp only [Nat.zero_mul,Addr.add,if_true,World.cell?] at h2;cases hb2:w.heap[a.block]? with
    | none=>simp [hb2] at h2
    | some o=>
     refine ⟨?_,(Array.getElem?_eq_some_iff.1 hb2).1⟩;cases o <;> simp [hb2] at h2;exact h2.1
   refine ⟨(List.range len).map (fun i=>(f i).1),⟨_,rfl,some a,m, ?_,by simpa using hl,(fun h=>by cases h),by simpa using hmax,fun _=>⟨a.block,a.off,(List.range len).map (fun i=>(f i).2), ?_,hblk,⟨by simp, ?_⟩, ?_⟩⟩,by simpa using hmax2, ?_⟩
   ·simp
   ·cases a;simp at hcell0;subst hcell0;rfl
   ·intro i c y hc1 hy1;have hi:i<len:=by have:=(List.getElem?_eq_some_iff.1 hc1).1;simpa using this
    simp [hi] at hc1 hy1;subst hc1;subst hy1;exact (hf i hi).2.1
   ·have hlens:∀c∈(List.range len).map (fun i=>(f i).2),c.length=E.sz:=by
     intro c hc;simp only [List.mem_map,List.mem_range] at hc;obtain ⟨i,hi,rfl⟩:=hc;rw [(World.cells?_some (hf i hi).1).2.1,he.sz]
    intro j u hj;have hjl:j<len*E.sz:=by
     have:=(List.getElem?_eq_some_iff.1 hj).1;rw [zfs hlens] at this;simpa using this
    have hp:0<E.sz:=E.pos;have hi:j / E.sz<len:=Nat.div_lt_of_lt_mul (by rw [Nat.mul_comm];exact hjl);have hk:j % E.sz<E.sz:=Nat.mod_lt _ hp;obtain ⟨_,hl2,hcl⟩:=World.cells?_some (hf _ hi).1;have hcell:=hcl (j % E.sz) (by rw [he.sz];exact hk);rw [he.sz] at hl2;have hg:=zix hlens (i:=j / E.sz) (cs:=(f (j / E.sz)).2) (j:=j % E.sz) (u:=(f (j / E.sz)).2[j % E.sz]'(by omega)) (by simp [hi]) (by simp);rw [Nat.mul_comm,Nat.div_add_mod] at hg;rw [hg] at hj;rw [List.getElem?_eq_getElem (by omega),hj,Deep.add_add,he.sz,Nat.mul_comm,Nat.div_add_mod] at hcell;rw [← hcell];cases a;simp at hcell0;subst hcell0;rw [zey]
   ·intro y hy;simp only [List.mem_map,List.mem_range] at hy;obtain ⟨i,hi,rfl⟩:=hy;exact (hf i hi).2.2
 ·intro w v hv _;simp only [Value.okWide,ht,Cell.okWide,Cell.ok] at hv;cases v <;> simp at hv;rfl
theorem u64_word {n:Int} (h:InR .u64 n):∃m:Nat,m<2 ^ 64∧n=m:=by
 simp [InR,IntKind.min,IntKind.max,IntKind.signed,IntKind.bits] at h;exact ⟨n.toNat,by omega,by omega⟩
theorem Rd.cls {P:Program} {t e:TypeId} (ht:P.underlying t=some (.array 4 e)) (hc:P.cellsOf t=4) (he:P.underlying e=some (.int .u64)) (hce:P.cellsOf e=1):Rd P t En.cls (fun _=>True):=by
 refine ⟨hc, ?_, ?_⟩
 ·intro H enc w fuel cs x h _;obtain ⟨xs,m,rfl,rfl,hlen,hn,hx⟩:=DataW.trod_array ht h;rw [hc] at hlen
  match cs,hlen with
  | [u0,u1,u2,u3],_=>
   have hx':∀i (hi:i<4) u,[u0,u1,u2,u3][i]?=some u→∃q:Nat,q<2 ^ 64∧u = .int .u64 q:=by
    intro i hi u hu;have h1:=hx i hi;rw [hce,Nat.mul_one,List.getElem?_eq_getElem (by omega)] at h1;have h2:List.take 1 (List.drop i [u0,u1,u2,u3])=[u]:=by
     match i,hi with
     | 0,_ | 1,_ | 2,_ | 3,_=>simp at hu;subst hu;rfl
    rw [h2] at h1;obtain ⟨n,h3,_,h4⟩:=DataW.trod_int he h1;obtain ⟨q,hq,rfl⟩:=u64_word (n:=n) (by simpa [Lit.wf,InR] using h4);simp at h3;exact ⟨q,hq,h3⟩
   obtain ⟨q0,h0,rfl⟩:=hx' 0 (by omega) u0 rfl;obtain ⟨q1,h1,rfl⟩:=hx' 1 (by omega) u1 rfl;obtain ⟨q2,h2,rfl⟩:=hx' 2 (by omega) u2 rfl;obtain ⟨q3,h3,rfl⟩:=hx' 3 (by omega) u3 rfl;refine ⟨Cl.ofWords q0 q1 q2 q3, ?_,trivial⟩;obtain ⟨e0,e1,e2,e3⟩:=Cl.ofWords_word h0 h1 h2 h3;show _=zbq _;unfold zbq;rw [e0,e1,e2,e3]
 ·intro w v hv _;simp only [Value.okWide,ht] at hv;obtain ⟨cs,rfl,_⟩:=hv;simp [En.val,En.cls,Value.cells]
structure RdF (P:Program) (fs:List Field) (o:Nat) {α:Type} (E:En α) (G:α→Prop):Prop where
 rd:∀{H:Type} (enc:TypeId × Value→H) (w:World) (fuel:Nat) (cs:List Value) (xs:List (DataW H × List MemPlace)),xs.length=fs.length →
  (∀(i:Nat) (f:Field),fs[i]?=some f→DataW.trod enc P w 0 (fun _=>true) true fuel f.type ((cs.drop f.offset).take (P.cellsOf f.type))=xs[i]?) →
  (∀n∈DataW.weightsEach P (fs.map (·.type)) (xs.map (·.1)),n≤reachBytes)→∃y,E.R w (fun b=>b<w.heap.size) ((cs.drop o).take E.sz) y∧G y
theorem RdF.last {P:Program} {f:Field} {o:Nat} {α:Type} {E:En α} {G:α→Prop} (h:Rd P f.type E G) (ho:f.offset=o):RdF P [f] o E G:=⟨by
 intro H enc w fuel cs xs hl hx hw;obtain ⟨x,rfl⟩:∃x,xs=[x]:=List.length_eq_one_iff.1 hl;have h1:=hx 0 f rfl;rw [ho,h.sz] at h1;exact h.rd enc w fuel _ x h1 fun n hn=>hw n (by simp [DataW.weightsEach,hn])⟩
theorem RdF.solo {P:Program} {fs:List Field} {o:Nat} {α:Type} {E:En α} {G:α→Prop} (h:RdF P fs o E G):RdF P fs o E.solo G:=⟨h.rd⟩
theorem znh {xs:List Value} {o m n:Nat}:(xs.drop o).take (m+n)=(xs.drop o).take m++(xs.drop (o+m)).take n:=by
 rw [List.take_add,List.drop_drop]
theorem RdF.cons {P:Program} {f:Field} {fs:List Field} {o:Nat} {α β:Type} {E:En α} {F:En β} {G:α→Prop} {K:β→Prop} (h:Rd P f.type E G) (ho:f.offset=o) (hr:RdF P fs (o+E.sz) F K):RdF P (f::fs) o (E.cat F) (fun x=>G x.1∧K x.2):=⟨by
 intro H enc w fuel cs xs hl hx hw;obtain ⟨x,xs',rfl⟩:∃x xs',xs=x::xs':=by
  cases xs with
  | nil=>simp at hl
  | cons x xs'=>exact ⟨x,xs',rfl⟩
 have h1:=hx 0 f rfl;rw [ho,h.sz] at h1;obtain ⟨y,hy1,hy2⟩:=h.rd enc w fuel _ x h1 fun n hn=>hw n (by simp [DataW.weightsEach,hn]);obtain ⟨z,hz1,hz2⟩:=hr.rd enc w fuel cs xs' (by simpa using hl) (fun i g hg=>by have:=hx (i+1) g (by simpa using hg);simpa using this) fun n hn=>hw n (by
  simp only [List.map_cons,DataW.weightsEach,List.mem_append];exact .inr hn)
 exact ⟨(y,z),⟨_,_,znh,hy1,hz1⟩,hy2,hz2⟩⟩
theorem Rd.struct {P:Program} {t:TypeId} {fs:Array Field} {α:Type} {E:En α} {G:α→Prop} (ht:P.underlying t=some (.struct fs)) (ha:E.agg=true) (hc:P.cellsOf t=E.sz) (h:RdF P fs.toList 0 E G):Rd P t E G:=by
 refine ⟨hc, ?_, ?_⟩
 ·intro H enc w fuel cs x hx hw;obtain ⟨xs,n,rfl,rfl,hlen,hxl,hf⟩:=DataW.trod_struct ht hx;obtain ⟨y,hy1,hy2⟩:=h.rd enc w n cs xs (by simpa using hxl) (fun i f hi=>hf i f (by simpa using hi)) fun q hq=>hw q (by
   simp only [DataW.weights,ht];exact hq)
  rw [List.drop_zero,List.take_of_length_le (by rw [hlen,hc];exact Nat.le_refl _)] at hy1;exact ⟨y,hy1,hy2⟩
 ·intro w v hv _;obtain ⟨cs,rfl,_⟩:=okWide_struct ht hv;unfold En.val;rw [ha];simp [Value.cells]
theorem Rd.open {P:Program} {t:TypeId} {α:Type} {E:En α} {G:α→Prop} (hr:Rd P t E G) {H:Type} {enc:TypeId × Value→H} {W:World} {v:Value} {d:DataW H} {p:List MemPlace}
  (hv:Value.okWide P W .any 0 t v) (hd:DataW.Trod enc P W 0 (fun _=>true) true t v d p) (hw:∀n∈d.weights P t,n≤reachBytes):∃y,(Pd.rep E y).p ⟨W,fun _=>False,fun _ h=>h.elim⟩ v∧G y:=by
 obtain ⟨fuel,h⟩:=hd;obtain ⟨y,hy,hg⟩:=hr.rd enc W fuel _ _ h hw;refine ⟨y,⟨v.cells.toList,hr.vl W v hv ⟨y,hy⟩, ?_⟩,hg⟩;exact E.mono (fun b hb=>⟨hb,fun h=>h⟩) hy
theorem Ex.below {s s':St} (h:Ex s s'):Below s.w.heap.size s.w s'.w:=⟨h.mv.os,h.mv.tape,h.mv.output,h.mv.size,fun k hk=>h.mv.blk k hk (fun h=>h)⟩
theorem okWide_any {P:Program} {W:World} {b:Nat} {t:TypeId} {v:Value} (h:Value.okWide P W .any b t v):Value.okWide P W .any 0 t v:=by
 unfold Value.okWide Row.okWide Cell.okWide Cell.ok World.has at *;exact h
section
variable {H : Type} {enc : TypeId × Value → H} {P : Program}
theorem stays {W W':World} (hl:laidOutB P=true) (hb:Below W.heap.size W W') {sp:Nat→Bool}:∀{ts:List TypeId} {vs:List Value} {ds:List (DataW H)} {ps:List MemPlace},
  (ts.all fun t=>P.readableRec t&&decide (t<P.types.size))=true→DataW.TrodAll enc P W 0 (fun _=>true) true ts vs ds ps→(∀p∈ps,p.block<W.heap.size)→(∀p∈ps,sp p.block=true) →
  DataW.TrodAll enc P W' 0 sp true ts vs ds ps
 | [],vs,ds,ps,_,h,_,_=>by
  obtain ⟨rfl,rfl,rfl⟩:=trodAll_nil h;exact trodAll_mk0
 | t::ts,vs,ds,ps,ha,h,hlt,hsp=>by
  obtain ⟨v,vs',d,ds',p,q,rfl,rfl,rfl,h1,h2⟩:=trodAll_cons h;simp only [List.all_cons,Bool.and_eq_true,decide_eq_true_eq] at ha;refine trodAll_cons_mk (WideElems.Trod_stays hl ha.1.1 ha.1.2 h1 (fun x hx=>hb.same (hlt x (List.mem_append_left _ hx))) fun x hx=>hsp x (List.mem_append_left _ hx)) ?_;exact stays hl hb (by simpa using ha.2) h2 (fun x hx=>hlt x (List.mem_append_right _ hx)) fun x hx=>hsp x (List.mem_append_right _ hx)
theorem post_law {f:Func} {s:ChangeSpec} {apart fresh handsOn again:Bool} {W W':World} {args:Array Value} {v:Value} {ds gs:List (DataW H)} {before:List MemPlace} {tb:TypeId}
  (hW:DataW.Whole enc P f.params.toList s.vars apart W args.toList ds gs before) (hb:Below W.heap.size W W') (hl:laidOutB P=true)
  (hrd:(f.params.toList.all fun t=>P.readableRec t&&decide (t<P.types.size))=true) (hs:s.vars=[]) (hrt:f.resultTypes = #[tb]) (hub:P.underlying tb=some .bool) (hv:v = .bool true)
  (hres:(s.fn H (ds++gs)).results=[.lit (.bool true)]) (hargs:(s.fn H (ds++gs)).args=ds) (hvars:(s.fn H (ds++gs)).vars=[]):s.post enc P f apart fresh handsOn again W args v W':=by
 subst hv;have hlt:=hW.lt;have hW':=hW;obtain ⟨p,q,hA,hV,rfl,hz,hn⟩:=hW;rw [hs] at hV;obtain ⟨rfl,rfl⟩:=trodVars_none hV;have hsub:∀x∈p,x∈p++([]:List MemPlace):=fun x hx=>by simpa using hx
 have harg:∀sp:Nat→Bool,(∀x∈p++([]:List MemPlace),sp x.block=true)→DataW.TrodAll enc P W' 0 sp true f.params.toList args.toList (s.fn H (ds++[])).args p:=fun sp hsp=>by
  rw [hargs];exact stays hl hb hrd hA (fun x hx=>hlt x (hsub x hx)) fun x hx=>hsp x (hsub x hx)
 have hvar:∀sp:Nat→Bool,DataW.TrodVars enc P W' sp s.vars (s.fn H (ds++[])).vars []:=fun sp=>by rw [hs,hvars];exact rfl
 have hr:∀(b:Nat) (sp:Nat→Bool) (hd:Bool),DataW.TrodAll enc P W' b sp hd f.resultTypes.toList ((Value.bool true).resultList f.resultTypes.size) (s.fn H (ds++[])).results []:=fun b sp hd=>by
  rw [hres,hrt];exact trodAll_cons_mk (shut_bool hub _) trodAll_mk0
 have hold:∀x∈p++([]:List MemPlace),(fun b=>decide (b<W.heap.size)) x.block=true:=fun x hx=>by simpa using hlt x hx
 refine ⟨ds,[],p++[],[],p,[],hW',hr _ _ _,harg _ hold,hvar _,World.keptBut_mono (fun x hx=>⟨hx, ?_⟩) (hb.frame (·∈p++[])),fun _=>?_⟩
 ·simpa using hx
 ·refine ⟨ok_one hrt rfl (okWide_bool_mk hub _),_,_,([]++p)++[],⟨[]++p,[],trodAll_append (harg _ (fun _ _=>rfl)) (hr _ _ _),hvar _,rfl, ?_, ?_⟩, ?_⟩
  ·intro b off hp;have hp':MemPlace.cell b off∈p++([]:List MemPlace):=by simpa using hp
   rw [hb.frozen (p:=⟨b,off,none⟩) (hlt _ hp')];exact hz b off hp'
  ·intro ha;simpa using hn ha
  ·intro x hx _;simpa using hx
end
end Go.Proofs.YtkbboemafklkkaaGreatDoor.V
namespace Go.Proofs.YtkbboemafklkkaaGreatDoor.V
open Go Go.ChangeShapes Go.WideShapes Go.RowKit
set_option linter.unusedVariables false
def lst4:List (String × DataW Unit):=[("math/bits.deBruijn32tab",Rows.laid_math_bits_deBruijn32tab),("math/bits.deBruijn64tab",Rows.laid_math_bits_deBruijn64tab),("internal/strconv.uint64pow10",Rows.laid_internal_strconv_uint64pow10),("scantling/heads.readies",Rows.laid_scantling_heads_readies)]
def lst:List (String × DataW Unit):=[("math/bits.deBruijn32tab",Rows.laid_math_bits_deBruijn32tab),("math/bits.deBruijn64tab",Rows.laid_math_bits_deBruijn64tab),("internal/strconv.uint64pow10",Rows.laid_internal_strconv_uint64pow10),("scantling/heads.readies",Rows.laid_scantling_heads_readies),("scantling/next.steps",Rows.laid_scantling_next_steps)]
theorem zn2 {H:Type} {enc:TypeId × Value→H} {P:Program} {w:World} {base:Nat} {sp:Nat→Bool} {held:Bool} {fuel:Nat} {t e:TypeId} {n:Nat} {cs:List Value} {bs:List Bool} {p:List MemPlace}
  (ht:P.underlying t=some (.array n e)) (he:P.underlying e=some .bool) (hce:P.cellsOf e=1) (hct:P.cellsOf t=n)
  (h:DataW.trod enc P w base sp held fuel t cs=some (.agg (bs.map fun b=>.lit (.bool b)),p)):cs=bs.map Value.bool:=by
 obtain ⟨xs,m,rfl,hx,hl,hn,hf⟩:=DataW.trod_array ht h;have hx1:=congrArg Prod.fst hx;simp only [DataW.agg.injEq] at hx1;have hbl:bs.length=n:=by
  have:=congrArg List.length hx1;simp at this;omega
 apply List.ext_getElem?;intro i
 by_cases hi:i<n
 ·have h1:=hf i hi;rw [hce,Nat.mul_one,List.getElem?_eq_getElem (by omega)] at h1;obtain ⟨b,hc,hb⟩:=DataW.trod_bool he h1;have h2:cs[i]?=some (.bool b):=by
   have:=congrArg (·[0]?) hc;simpa [List.getElem?_take,List.getElem?_drop] using this
  have h3:(bs.map fun b=>(DataW.lit (.bool b):DataW H))[i]?=some (.lit (.bool b)):=by
   rw [hx1,List.getElem?_map,List.getElem?_eq_getElem (by omega),hb];rfl
  rw [List.getElem?_map,Option.map_eq_some_iff] at h3;obtain ⟨b',hb',e⟩:=h3;cases e;rw [h2,List.getElem?_map,hb'];rfl
 ·rw [List.getElem?_eq_none (by omega),List.getElem?_eq_none (by simp;omega)]
def nameB1:List UInt8:=[40,115,99,97,110,116,108,105,110,103,47,110,101,120,116,46,115,116,101,112,41,46,110,111,100,101]
def nameB3:List UInt8:=[40,115,99,97,110,116,108,105,110,103,47,110,101,120,116,46,115,116,101,112,41,46,116,101,120,116]
def nameB4:List UInt8:=[40,115,99,97,110,116,108,105,110,103,47,110,101,120,116,46,115,116,101,112,41,46,104,97,108,102]
def stepsD:DataW Unit:=.map [(.int .i64 1,.iface "func" (.lit (.string nameB1))),(.int .i64 3,.iface "func" (.lit (.string nameB3))),(.int .i64 4,.iface "func" (.lit (.string nameB4)))]
def stepsL:List (Lit × DataW (List UInt8)):=[(.int .i64 1,.held nameB1),(.int .i64 3,.held nameB3),(.int .i64 4,.held nameB4)]
theorem key_int {P:Program} {k:TypeId} (hk:P.underlying k=some (.int .i64)) {v:Value} {l:Lit} (h:keyOf P k v=some l):∃n:Int,v = .int .i64 n∧l = .int .i64 n∧InR .i64 n:=by
 rw [keyOf_int hk] at h;unfold mapKey at h;rw [hk] at h;cases v <;> simp at h;obtain ⟨⟨rfl,h2⟩,rfl⟩:=h;exact ⟨_,rfl,rfl,by simpa [Lit.wf,InR] using h2⟩
theorem zpu {P:Program} {t:TypeId} {ps rs:Array TypeId} {va:Bool} {v:Value} (ht:P.underlying t=some (.func ps rs va)) (h:v.formed P t=true):v.cells.toList=[v]:=by
 cases v <;> simp [Value.formed,ht] at h <;> rfl
def entY (e:MapEntry):Int × Option Nat:=match e.key with | .int _ n=>(n,zdz gfmS n none) | _=>(0,none)
def entL (q:Lit × DataW (List UInt8)):Int × Option Nat:=match q.1 with | .int _ n=>(n,zdz gfmS n none) | _=>(0,none)
def Steps (W:World):Prop:=∃m t fr es clock ys,W.heap[0]?=some (.cells #[.map (some m)] t fr)∧W.heap[m]?=some (.map es clock)∧Fmst es clock ys∧ys.Perm gfmS
theorem znj {W:World} (h:funcsAt Tryz.prog W "scantling/next.steps" stepsD):Steps W:=by
 obtain ⟨g,t,cs,fuel,p,hg,ht,hv,hd⟩:=h;have hg':Tryz.prog.globalNamed "scantling/next.steps"=some 0:=by kernel_rfl
 have hty:(Tryz.prog.globals[0]?).map (·.type)=some 220:=by kernel_rfl
 obtain rfl:=Option.some.inj (hg'.symm.trans hg);obtain rfl:=Option.some.inj (hty.symm.trans ht);have e:DataW.funcsOut stepsD = .map stepsL:=by kernel_rfl
 rw [e] at hd;have hkt:Tryz.prog.underlying 3=some (.int .i64):=Tryz.underlying3;rcases WideElems.open_map Tryz.underlying220 hd with ⟨_,hx⟩ | ⟨m,es,clock,n,rfl,hcs,hb,_,F,hx⟩
 ·simp at hx
 ·simp only [Prod.mk.injEq,DataW.map.injEq] at hx;have hp:stepsL.Perm (es.toList.map (WideElems.rg Tryz.prog 3 (WideElems.elemAt (funcToken Tryz.prog) Tryz.prog W 0 (fun _=>true) true n 218))):=by
   rw [hx.1];exact sorted_perm _
  have ent:∀x∈es.toList,∃i:Int,x.key = .int .i64 i∧InR .i64 i∧entL (WideElems.rg Tryz.prog 3 (WideElems.elemAt (funcToken Tryz.prog) Tryz.prog W 0 (fun _=>true) true n 218) x)=(i,zdz gfmS i none)∧x.val=fidV (zdz gfmS i none):=by
   intro x hx';obtain ⟨y,hy⟩:=F.reads x hx';have hrg:=WideElems.rg_of hy;have hm:y∈stepsL:=hp.mem_iff.2 (List.mem_map.2 ⟨x,hx',hrg⟩);obtain ⟨i,hk1,hk2,hk3⟩:=key_int hkt (WideElems.rd_key hy);obtain ⟨z,hz1,hz2⟩:=WideElems.rd_val hy;unfold WideElems.elemAt at hz1;split at hz1
   case isFalse=>cases hz1
   rename_i hf
   rw [zpu Tryz.underlying218 hf] at hz1;refine ⟨i,hk1,hk3,by rw [hrg];simp only [entL,hk2], ?_⟩;unfold stepsL at hm;simp only [List.mem_cons,List.not_mem_nil,or_false] at hm;rcases hm with rfl | rfl | rfl
   ·simp only [Lit.int.injEq,true_and] at hk2;subst hk2;obtain ⟨z1,z2⟩:=z;simp only at hz2;subst hz2;exact func_of_trod (f0:=238) Tryz.underlying218 (by kernel_rfl) hz1
   ·simp only [Lit.int.injEq,true_and] at hk2;subst hk2;obtain ⟨z1,z2⟩:=z;simp only at hz2;subst hz2;exact func_of_trod (f0:=239) Tryz.underlying218 (by kernel_rfl) hz1
   ·simp only [Lit.int.injEq,true_and] at hk2;subst hk2;obtain ⟨z1,z2⟩:=z;simp only at hz2;subst hz2;exact func_of_trod (f0:=236) Tryz.underlying218 (by kernel_rfl) hz1
  obtain ⟨o,ho,hcell⟩:∃t fr,W.heap[0]?=some (.cells #[.map (some m)] t fr):=by
   unfold World.var? at hv;rw [hg'] at hv;simp only [Option.bind_some] at hv;split at hv
   ·rename_i cs' t' fr' hc
    refine ⟨t',fr', ?_⟩;rw [hc];simp only [Option.some.injEq] at hv;rw [hv,← Array.toArray_toList (xs:=cs),hcs]
   ·cases hv
  refine ⟨m,o,ho,es,clock,es.toList.map entY,hcell,hb,⟨F.stamped,by simp,fun i e q h1 h2=>?_⟩, ?_⟩
  ·have hm:=List.mem_of_getElem? h1;obtain ⟨j,hk1,hk3,_,hval⟩:=ent e hm;rw [List.getElem?_map,h1] at h2;simp only [Option.map_some,Option.some.injEq] at h2;subst h2;have hr:=zh9.1 hk3;simp only [entY,hk1];exact ⟨trivial,hr,hval⟩
  ·have h3:=(hp.map entL).symm;have e1:stepsL.map entL=gfmS:=by kernel_rfl
   rw [e1,List.map_map] at h3;refine List.Perm.trans (List.Perm.of_eq (List.map_congr_left fun x hx'=>?_)) h3;obtain ⟨j,hk1,_,hL,_⟩:=ent x hx';simp only [Function.comp,entY,hk1];exact hL.symm
def Tabs (W:World):Prop:=(Lib.TabIs Tryz.prog W "internal/strconv.uint64pow10" .u64 Lib.pow10Tab∧W.var? Tryz.prog "scantling/heads.readies"=some (gdat1.map Value.bool).toArray)∧Steps W
theorem tab_of_laid {W:World} (h:laidMetH Tryz.prog lst W):Tabs W:=by
 have hs:("scantling/next.steps",(DataW.iface "func table" stepsD:DataW Unit))∈lst:=by
  have e:(Rows.laid_scantling_next_steps:DataW Unit)=DataW.iface "func table" stepsD:=by kernel_rfl
  unfold lst;rw [e];simp
 have h3:=znj (h.funcs hs);have e0:laidMetH Tryz.prog lst W=(laidMet Tryz.prog lst4 W∧handlesMet Tryz.prog [("scantling/next.steps",Rows.laid_scantling_next_steps)] W):=by kernel_rfl
 rw [e0] at h;have h':=h.1;unfold lst4 at h';refine ⟨⟨?_, ?_⟩,h3⟩
 ·have e:(Rows.laid_internal_strconv_uint64pow10:DataW Unit)=Lib.tabData .u64 Lib.pow10Tab:=by kernel_rfl
  have h2:=h'.tail.tail;rw [e] at h2;exact Lib.tabIs_of_head (g:=2) (t:=296) (e:=36) (n:=20) (by kernel_rfl) (by kernel_rfl) Tryz.underlying296 Tryz.underlying36 (by kernel_rfl) (by kernel_rfl) h2
 ·have e:(Rows.laid_scantling_heads_readies:DataW Unit) = .agg (gdat1.map fun b=>.lit (.bool b)):=by kernel_rfl
  have h2:=h'.tail.tail.tail;rw [e] at h2;obtain ⟨ps,⟨g',t',cs,fuel,p,q,hg',ht',hvar,hd,_,_⟩,_⟩:=h2;have hg:Tryz.prog.globalNamed "scantling/heads.readies"=some 1:=by kernel_rfl
  have hty:(Tryz.prog.globals[1]?).map (·.type)=some 285:=by kernel_rfl
  obtain rfl:=Option.some.inj (hg.symm.trans hg');obtain rfl:=Option.some.inj (hty.symm.trans ht');rw [hvar,← zn2 Tryz.underlying285 (e:=4) Tryz.underlying4 (by kernel_rfl) (by kernel_rfl) hd]
theorem gl_of_tab {W:World} (h:Tabs W):Gl ⟨W,fun _=>False,fun _ h=>h.elim⟩:=by
 obtain ⟨⟨h1,h2⟩,h3⟩:=h;refine ⟨fun p hp=>?_,fun p hp=>?_⟩
 ·unfold gtab at hp;rcases List.mem_cons.1 hp with rfl | hp
  ·refine ⟨fun h=>h, ?_⟩;unfold Lib.TabIs World.var? at h1;have hg:Tryz.prog.globalNamed "internal/strconv.uint64pow10"=some 2:=by kernel_rfl
   rw [hg] at h1;simp only [Option.bind_some] at h1;split at h1
   ·rename_i cs t fr hc
    refine ⟨t,fr, ?_⟩;show W.heap[2]?=_;rw [hc];simp only [Option.some.injEq] at h1;rw [h1];simp [Lib.pow10Tab]
   ·cases h1
  ·obtain rfl:=List.mem_singleton.1 hp;refine ⟨fun h=>h, ?_⟩;unfold World.var? at h2;have hg:Tryz.prog.globalNamed "scantling/heads.readies"=some 1:=by kernel_rfl
   rw [hg] at h2;simp only [Option.bind_some] at h2;split at h2
   ·rename_i cs t fr hc
    refine ⟨t,fr, ?_⟩;show W.heap[1]?=_;rw [hc];simp only [Option.some.injEq] at h2;rw [h2]
   ·cases h2
 ·unfold gmap at hp;obtain rfl:=List.mem_singleton.1 hp;obtain ⟨m,t,fr,es,clock,ys,k1,k2,k3,k4⟩:=h3;exact ⟨fun h=>h,m,t,fr,es,clock,ys,k1,fun h=>h,k2,k3,k4⟩
noncomputable def laidWorld (os:Os):World:=World.doorLaid Tryz.prog 400 os
theorem laid_met (os:Os) (args:Array Value):laidMetH Tryz.prog lst ((laidWorld os).forCall (fun _ _=>0) ⟨#[],args,[]⟩).memory:=
 laidMetH_of_parts3 (fuel:=8) (laidMet_of_run' 8 (by kernel_rfl) (by kernel_rfl)) (by kernel_rfl) (by kernel_rfl)
theorem weigh {H:Type} {P:Program} {ts:List TypeId} {ds:List (DataW H)} (h:(DataW.weightsEach P ts ds).all (·≤reachBytes)=true) (j:Nat) {t:TypeId} {d:DataW H} (ht:ts[j]?=some t) (hd:ds[j]?=some d):∀n∈d.weights P t,n≤reachBytes:=fun n hn=>by
 have:=List.all_eq_true.1 h n (DataW.weights_mem_each ht hd n hn);simpa using this
end Go.Proofs.YtkbboemafklkkaaGreatDoor.V
